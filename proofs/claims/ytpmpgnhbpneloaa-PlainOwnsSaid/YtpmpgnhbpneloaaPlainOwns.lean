/- Proves Rows.PlainOwnsSaid: for every input 'carousellaw20.PlainOwns' returns true and each argument reads behind the call as it read before. Conditions: none beyond the row's own. -/
import Derived.Test.YtpmpgnhbpneloaaRe
import Derived.Test.YtpmpgnhbpneloaaStq
namespace Go.Proofs.Ytpmpgnhbpneloaa.plainOwns
open Go.RowKit Go.Joins Go.ChangeShapes Go.WideShapes Go.ChangeAt Go.Deep
set_option linter.unusedVariables false
set_option maxRecDepth 100000

/-- A block of so many cells at least, whatever they hold. -/
def HasBlk (w : World) (g : Nat) (t : TypeId) (n : Nat) : Prop := ∃ cs, Blk w g t cs ∧ n ≤ cs.size
theorem HasBlk.cell {w : World} {g n : Nat} {t : TypeId} (h : HasBlk w g t n) {i : Nat} (hi : i < n) : ∃ u, w.cell? ⟨g, i, none⟩ = some u := by
  obtain ⟨cs, hc, hn⟩ := h
  exact ⟨_, (hc.cell i).trans (Array.getElem?_eq_getElem (by omega))⟩
theorem HasBlk.frozen {w : World} {g n : Nat} {t : TypeId} (h : HasBlk w g t n) (i : Nat) : w.frozen? ⟨g, i, none⟩ = false := by
  obtain ⟨cs, hc, hn⟩ := h
  exact hc.frozen i
theorem HasBlk.lt {w : World} {g n : Nat} {t : TypeId} (h : HasBlk w g t n) : g < w.heap.size := by
  obtain ⟨cs, hc, hn⟩ := h
  exact hc.lt
theorem HasBlk.set {w : World} {g n : Nat} {t : TypeId} (h : HasBlk w g t n) (b i : Nat) (u : Value) : HasBlk (w.setCell ⟨b, i, none⟩ u) g t n := by
  obtain ⟨cs, hc, hn⟩ := h
  by_cases e : g = b
  · subst e
    exact ⟨_, hc.set_ i u, by simpa using hn⟩
  · exact ⟨cs, hc.far (p := ⟨b, i, none⟩) e u, hn⟩
theorem HasBlk.drewN {w : World} {g n : Nat} {t : TypeId} (h : HasBlk w g t n) (k : Nat) : HasBlk (w.drewN k) g t n := h
theorem HasBlk.of_own {w : World} {base n size c : Nat} {e : TypeId} {R : Option Addr} {xs : List Value} (h : w.ownsRow base e size (.slice R n c) n xs) (hn : 0 < n) : ∃ g, R = some ⟨g, 0, none⟩ ∧ HasBlk w g e (n * size) ∧ base ≤ g := by
  rcases h.2 with ⟨_, h0⟩ | ⟨g, cap, cur, hv, hb, hg, hnc, hm, hs, ht⟩
  · omega
  · injection hv with e1 e2 e3
    exact ⟨g, e1, ⟨cur, hg, by rw [hs]; exact Nat.mul_le_mul_right _ hnc⟩, hb⟩

/-- What is written over: a list of shapes and their lists. -/
structure ShW (w : World) (Q T n : Nat) (l : List TM) : Prop where
  row : ∃ cs, Blk w T 52 cs ∧ ∀ k (hk : k < l.length), k * 3 < cs.size ∧ cs[k * 3 + 1]? = some l[k].vv ∧ cs[k * 3 + 2]? = some l[k].pv
  tq : Q ≤ T
  vs : ∀ x ∈ l, ∃ R c, x.vv = .slice R x.t.values.length c ∧ (0 < x.t.values.length → ∃ g, R = some ⟨g, 0, none⟩ ∧ Q ≤ g ∧ HasBlk w g 2 x.t.values.length)
  ps : ∀ x ∈ l, ∃ R c, x.pv = .slice R x.t.pairs.length c ∧ (0 < x.t.pairs.length → ∃ g, R = some ⟨g, 0, none⟩ ∧ Q ≤ g ∧ HasBlk w g 54 (x.t.pairs.length * 2))
  len : l.length = n
theorem ShW.drewN {w : World} {Q T n : Nat} {l : List TM} (h : ShW w Q T n l) (k : Nat) : ShW (w.drewN k) Q T n l := ⟨h.row, h.tq, h.vs, h.ps, h.len⟩
theorem ShW.setFar {w : World} {Q T n g m i : Nat} {l : List TM} {t : TypeId} (h : ShW w Q T n l) (hg : HasBlk w g t m) (ht : t ≠ 52) (u : Value) : ShW (w.setCell ⟨g, i, none⟩ u) Q T n l := by
  obtain ⟨cs, hc, hk⟩ := h.row
  obtain ⟨gs, hgs, _⟩ := hg
  refine ⟨⟨cs, hc.far (p := ⟨g, i, none⟩) (hc.ne_ hgs (Ne.symm ht)) u, hk⟩, h.tq, fun x hx => ?_, fun x hx => ?_, h.len⟩
  · obtain ⟨R, c, e, hh⟩ := h.vs x hx
    exact ⟨R, c, e, fun h0 => by obtain ⟨b, e1, e2, e3⟩ := hh h0; exact ⟨b, e1, e2, e3.set g i u⟩⟩
  · obtain ⟨R, c, e, hh⟩ := h.ps x hx
    exact ⟨R, c, e, fun h0 => by obtain ⟨b, e1, e2, e3⟩ := hh h0; exact ⟨b, e1, e2, e3.set g i u⟩⟩
theorem ShW.setKind {w : World} {Q T n i : Nat} {l : List TM} (h : ShW w Q T n l) (u : Value) : ShW (w.setCell ⟨T, i * 3, none⟩ u) Q T n l := by
  obtain ⟨cs, hc, hk⟩ := h.row
  refine ⟨⟨_, hc.set_ (i * 3) u, fun k hkl => ?_⟩, h.tq, fun x hx => ?_, fun x hx => ?_, h.len⟩
  · obtain ⟨h1, h2, h3⟩ := hk k hkl
    refine ⟨by simpa using h1, ?_, ?_⟩
    · rw [Array.getElem?_setIfInBounds_ne (by omega)]; exact h2
    · rw [Array.getElem?_setIfInBounds_ne (by omega)]; exact h3
  · obtain ⟨R, c, e, hh⟩ := h.vs x hx
    exact ⟨R, c, e, fun h0 => by obtain ⟨b, e1, e2, e3⟩ := hh h0; exact ⟨b, e1, e2, e3.set T (i * 3) u⟩⟩
  · obtain ⟨R, c, e, hh⟩ := h.ps x hx
    exact ⟨R, c, e, fun h0 => by obtain ⟨b, e1, e2, e3⟩ := hh h0; exact ⟨b, e1, e2, e3.set T (i * 3) u⟩⟩
theorem ShW.of {w : World} {Q : Nat} {v : Value} {l : List TM} (h : LIs w Q 52 3 TM.cells3 v l) (hn : 0 < l.length) : ∃ T cap, v = .slice (some ⟨T, 0, none⟩) l.length cap ∧ ShW w Q T l.length l := by
  obtain ⟨T, cap, hv, hb, hTl⟩ := h.row.form hn
  have hTb : v.ownBlock = some T := by rw [hv]; rfl
  obtain ⟨cs, hcs⟩ := own_blk h.row hTb
  refine ⟨T, cap, hv, ⟨⟨cs, hcs, fun k hk => ?_⟩, hb, fun x hx => ?_, fun x hx => ?_, rfl⟩⟩
  · have hc : ∀ t u, t < 3 → l[k].cells3[t]? = some u → cs[k * 3 + t]? = some u := by
      intro t u ht hu
      have := h.row.cells hTb (k * 3 + t) u (by rw [rows_at TM.cells3 3 (fun _ => rfl) l k t hk ht]; exact hu)
      rw [show ((⟨T, 0, none⟩ : Addr).add (k * 3 + t)) = ⟨T, k * 3 + t, none⟩ by unfold Addr.add; split <;> simp_all] at this
      exact (hcs.cell _).symm.trans this
    have h0 := hc 0 _ (by omega) rfl
    exact ⟨by have := (Array.getElem?_eq_some_iff.1 h0).1; omega, hc 1 _ (by omega) rfl, hc 2 _ (by omega) rfl⟩
  · obtain ⟨R, c, e, _, _⟩ := own_shapes (h.things x hx).vs
    refine ⟨R, c, e, fun h0 => ?_⟩
    have hv := (h.things x hx).vs
    rw [e] at hv
    obtain ⟨g, e1, e2, e3⟩ := HasBlk.of_own hv h0
    exact ⟨g, e1, e3, by rw [Nat.mul_one] at e2; exact e2⟩
  · obtain ⟨R, c, e, _, _⟩ := own_shapes (h.things x hx).ps
    refine ⟨R, c, e, fun h0 => ?_⟩
    have hv := (h.things x hx).ps
    rw [e] at hv
    obtain ⟨g, e1, e2, e3⟩ := HasBlk.of_own hv h0
    exact ⟨g, e1, e3, e2⟩

theorem walk_no (c : Cfg) (regs : List Reg) (A : Option Addr) (n nc : Nat) (u : Value) (w : World) (hl : regs.length = n) (hn : n ≤ 9223372036854775807) (hA : Reads w w.heap.size 2 A n (rows Reg.cells regs)) (hno : ¬ cfgOk c regs) :
    Calls Try.prog 5 #[.agg #[.int .i64 c.raw, .int .i64 c.ring, .int .i64 c.writes, .int .i64 c.stamps, .bool c.multi, .int .i64 c.tries, .slice A n nc], u] w fun e w' => e = .returned (.bool true) ∧ Below w.heap.size w w' := by
  have HNO := Lib.hid hno
  clear hno
  go_enter Try.func5, Try.ntmps5
  go_wp2_with fail
  refine (both_no c regs A n nc _ hl hn (by exact (hA.alloc (Nat.le_refl _) _).more (by simp)) HNO.out).mono ?_
  rintro e w1 ⟨rfl, hb⟩
  go_wp2_with fail
  go_ret
  exact ⟨rfl, (by refine Below.trans ?_ (hb.mono (by simp)); repeat (first | with_reducible exact Below.refl _ _ | with_reducible refine Below.drew ?_ | with_reducible refine below_drewN ?_ _ | ((with_reducible refine Below.alloc ?_ ?_ _); (rotate_left; focus (first | with_reducible exact Nat.le_refl _ | omega | (simp; done) | (simp; omega) | (simp [World.setCell]; done) | (simp [World.setCell]; omega)))) | ((with_reducible refine Below.setCell ?_ ?_ _); (rotate_left; focus (first | with_reducible exact Nat.le_refl _ | omega | (simp; done) | (simp; omega) | (simp [World.setCell]; done) | (simp [World.setCell]; omega))))))⟩

/-- Both are called; the program with a list of its own, which is then written over. -/
theorem owns_step {wr w2 w3 w4 wz : World} {base s g s' g' na cc : Nat} {rv : Option Addr} {rc : Nat × Nat} {tv tv' : Value} {c : Cfg} {regs : List Reg} {raw : List Int} {ts ts' : List TS} {l l' l1 l2 : List TM} {S K : Nat → Prop} {V : Option Addr} {xs : List Value}
    (hS : ∀ b, S b → base ≤ b ∧ b < wr.heap.size) (hK : (∀ b, K b → base ≤ b ∧ b < wr.heap.size) ∧ ∀ b, S b → ¬ K b) (h : Both w2 base s g s' g' rv rc tv tv' c regs raw ts l l' S K) (hbase : base ≤ wr.heap.size) (hb2 : Below wr.heap.size wr w2) (hown : w2.ownsRow wr.heap.size 2 1 (.slice V na cc) na xs)
    (h1 : PIs w3 base s g tv raw l1) (ht1 : l1.map TM.t = ts') (hF : Frm w2 w3 (LBlocks tv l)) (hn1 : ∀ b, LBlocks tv l1 b → LBlocks tv l b ∨ w2.heap.size ≤ b)
    (h2 : RIs w4 base s' g' rv rc tv' c regs raw l2) (ht2 : l2.map TM.t = ts') (hF2 : Frm w3 w4 (LBlocks tv' l')) (hn2 : ∀ b, LBlocks tv' l2 b → LBlocks tv' l' b ∨ w3.heap.size ≤ b) (hok : AllOk ts') (hreg : ts'.map regOf = ts.map regOf) (hlen : ts'.length = ts.length)
    (hz : Frm w4 wz (fun q => (Value.slice V na cc).ownBlock = some q)) : BStep wr wz base s s' raw ts' S K := by
  have hs2 := hb2.size
  obtain ⟨S2, hB2, hFF, hS2⟩ := h.called2 (fun b hb => ⟨(hS b hb).1, Nat.lt_of_lt_of_le (hS b hb).2 hs2⟩) ⟨fun b hb => ⟨(hK.1 b hb).1, Nat.lt_of_lt_of_le (hK.1 b hb).2 hs2⟩, hK.2⟩ (Nat.le_trans hbase hs2) h1 ht1 hF hn1 h2 ht2 hF2 hn2 hok hreg hlen
  have hg : ∀ q, (Value.slice V na cc).ownBlock = some q → wr.heap.size ≤ q ∧ q < w2.heap.size := fun q hq => hown.lt q hq
  have hB3 := hB2.frm hz (fun b hb hq => by
    have := hg b hq
    rcases hS2 b hb with e | e
    · have := (hS b e).2; omega
    · omega) (fun b hb hq => by have := hg b hq; have := (hK.1 b hb).2; omega)
  refine ⟨S2, hB3, ((Frm.of_below (S := S) hb2).trans hFF fun q hq => .inl hq).trans hz fun q hq => .inr (hg q hq).1, fun b hb => ?_⟩
  rcases hS2 b hb with e | e
  · exact .inl e
  · exact .inr (by omega)
theorem ShW.cells {w : World} {Q T n : Nat} {l : List TM} (h : ShW w Q T n l) {k : Nat} (hk : k < l.length) : w.cell? ⟨T, k * 3 + 1, none⟩ = some l[k].vv ∧ w.cell? ⟨T, k * 3 + 2, none⟩ = some l[k].pv ∧ (∃ u, w.cell? ⟨T, k * 3, none⟩ = some u) ∧ w.frozen? ⟨T, k * 3, none⟩ = false ∧ T < w.heap.size := by
  obtain ⟨cs, hc, hh⟩ := h.row
  obtain ⟨h1, h2, h3⟩ := hh k hk
  exact ⟨(hc.cell _).trans h2, (hc.cell _).trans h3, ⟨_, (hc.cell _).trans (Array.getElem?_eq_getElem h1)⟩, hc.frozen _, hc.lt⟩
theorem ShW.elem {w : World} {Q T n : Nat} {l : List TM} (h : ShW w Q T n l) {k : Nat} (hk : k < l.length) : ∃ R1 k1 R2 k2 nv np, (nv = l[k].t.values.length ∧ np = l[k].t.pairs.length) ∧ ∀ wy, ShW wy Q T n l → wy.cell? ⟨T, k * 3 + 1, none⟩ = some (.slice R1 nv k1) ∧ wy.cell? ⟨T, k * 3 + 2, none⟩ = some (.slice R2 np k2) ∧ (∃ u, wy.cell? ⟨T, k * 3, none⟩ = some u) ∧ wy.frozen? ⟨T, k * 3, none⟩ = false ∧ T < wy.heap.size ∧
    (0 < nv → ∃ g, R1 = some ⟨g, 0, none⟩ ∧ Q ≤ g ∧ HasBlk wy g 2 nv) ∧ (0 < np → ∃ g, R2 = some ⟨g, 0, none⟩ ∧ Q ≤ g ∧ HasBlk wy g 54 (np * 2)) := by
  obtain ⟨R1, k1, e1, _⟩ := h.vs _ (List.getElem_mem hk)
  obtain ⟨R2, k2, e2, _⟩ := h.ps _ (List.getElem_mem hk)
  refine ⟨R1, k1, R2, k2, l[k].t.values.length, l[k].t.pairs.length, ⟨rfl, rfl⟩, fun wy hy => ?_⟩
  obtain ⟨c1, c2, c0, f0, hT⟩ := hy.cells hk
  obtain ⟨R1', k1', e1', h1⟩ := hy.vs _ (List.getElem_mem hk)
  obtain ⟨R2', k2', e2', h2⟩ := hy.ps _ (List.getElem_mem hk)
  rw [e1] at e1' c1
  rw [e2] at e2' c2
  injection e1' with a1 a2 a3
  injection e2' with b1 b2 b3
  subst a1 b1
  exact ⟨c1, c2, c0, f0, hT, h1, h2⟩
theorem own_len {w : World} {base e size n : Nat} {v : Value} {xs : List Value} (h : w.ownsRow base e size v n xs) : n ≤ 9223372036854775807 := by
  rcases h.2 with ⟨_, rfl⟩ | ⟨g, cap, cur, _, _, _, hnc, hcm, _⟩
  · omega
  · unfold maxLen at hcm; omega
theorem Frm.of_belowB {w w' : World} {B : Nat} (h : Below B w w') : Frm w w' (fun q => B ≤ q) := ⟨h.os, h.tape, h.output, h.size, fun q hq hn => h.block q (by omega)⟩
theorem PCallPost.after {r : List TS × Int × Int × Int} {base s g : Nat} {tv : Value} {raw : List Int} {l : List TM} {w W w' : World} {e : Ending} (hW : Below w.heap.size w W) (h : PCallPost r base s g tv raw l W e w') : PCallPost r base s g tv raw l w e w' := by
  obtain ⟨l1, h1, h2, h3, h4, h5⟩ := h
  have := hW.size
  exact ⟨l1, h1, h2, h3, (Frm.of_below hW).trans h4 fun q hq => .inl hq, fun b hb => (h5 b hb).imp id fun e => by omega⟩
theorem RCallPost.after {r : List TS × Int × Int × Int} {base s g : Nat} {rv : Option Addr} {rc : Nat × Nat} {tv : Value} {c : Cfg} {regs : List Reg} {raw : List Int} {l : List TM} {w W w' : World} {e : Ending} (hW : Below w.heap.size w W) (h : RCallPost r base s g rv rc tv c regs raw l W e w') : RCallPost r base s g rv rc tv c regs raw l w e w' := by
  obtain ⟨l1, h1, h2, h3, h4, h5⟩ := h
  have := hW.size
  exact ⟨l1, h1, h2, h3, (Frm.of_below hW).trans h4 fun q hq => .inl hq, fun b hb => (h5 b hb).imp id fun e => by omega⟩

set_option maxHeartbeats 8000000 in
theorem walk_yes (c : Cfg) (regs : List Reg) (A : Option Addr) (n nc R : Nat) (l : List StepZ) (B : Option Addr) (m mc : Nat) (w : World) (hl : regs.length = n) (hA : Reads w w.heap.size 2 A n (rows Reg.cells regs)) (hok : cfgOk c regs) (hR : c.raw = (R : Int)) (hR1 : 1 ≤ R) (hR64 : R ≤ 64)
    (hm : m ≤ 9223372036854775807) (hll : l.length = m) (hB : Reads w w.heap.size 6 B m (rows StepZ.cells l)) (hz : ∀ z ∈ l, StepZ.Good w z ∧ z.na * 8 ≤ 140737488351232) :
    Calls Try.prog 5 #[.agg #[.int .i64 c.raw, .int .i64 c.ring, .int .i64 c.writes, .int .i64 c.stamps, .bool c.multi, .int .i64 c.tries, .slice A n nc], .slice B m mc] w fun e w' => e = .returned (.bool true) ∧ Below w.heap.size w w' := by
  have hn8 : n ≤ 8 := by rw [← hl]; exact hok.2.2.2.2.2.2.2.2.2.2.1
  have HOK := Lib.hid hok
  have HR := Lib.hid hR
  have HZ := Lib.hid hz
  have HB := Lib.hid hB
  have HL := Lib.hid hll
  clear hok hR hz hB hll
  go_enter Try.func5, Try.ntmps5
  go_wp2_with fail
  refine (both_yes c regs A n nc R _ hl hn8 (by exact (hA.alloc (Nat.le_refl _) _).more (by simp)) HOK.out HR.out hR64).mono ?_
  intro e w1 hbp
  obtain ⟨s, s', S, K, rfl, hBI, hb⟩ := both_is (base := w.heap.size) hbp HOK.out hR1 hR64 (by simp)
  have hbel : Below w.heap.size w w1 := (by refine Below.trans ?_ (hb.mono (by simp)); repeat (first | with_reducible exact Below.refl _ _ | with_reducible refine Below.drew ?_ | with_reducible refine below_drewN ?_ _ | ((with_reducible refine Below.alloc ?_ ?_ _); (rotate_left; focus (first | with_reducible exact Nat.le_refl _ | omega | (simp; done) | (simp; omega) | (simp [World.setCell]; done) | (simp [World.setCell]; omega)))) | ((with_reducible refine Below.setCell ?_ ?_ _); (rotate_left; focus (first | with_reducible exact Nat.le_refl _ | omega | (simp; done) | (simp; omega) | (simp [World.setCell]; done) | (simp [World.setCell]; omega))))))
  have HBI := Lib.hid hBI
  have HBEL := Lib.hid hbel
  have hbase := hbel.size
  clear hbp hBI hb hbel hA hl
  go_wp2_with fail
  go_loopg [8] m (fun gk i wr => ∃ k : Nat, i = .int .i64 k ∧ k ≤ m ∧ gk = m - k ∧ ∃ raw ts, BStep w1 wr w.heap.size s s' raw ts S K)
  case atStart => exact ⟨0, rfl, Nat.zero_le _, rfl, _, _, BStep.same HBI.out (Below.refl _ _)⟩
  case round =>
    obtain ⟨k, rfl, hk, hgk, raw1, ts1, hst⟩ := hrel
    obtain ⟨wo, rfl⟩ : ∃ wo, wo = wr := ⟨_, rfl⟩
    have HG := Lib.hid hgk
    have HST := Lib.hid hst
    obtain ⟨S1, hb1, hF1, hN1⟩ := hst
    have hwr := hF1.size
    have HB1 := Lib.hid hb1
    have HT : Hid (∀ w2 raw2 ts2, BStep wo w2 w.heap.size s s' raw2 ts2 S1 K → BStep w1 w2 w.heap.size s s' raw2 ts2 S K) := Lib.hid fun w2 raw2 ts2 h2 => by
      obtain ⟨S2, hB2, hF2, hS2⟩ := h2
      refine ⟨S2, hB2, hF1.trans hF2 hN1, fun b hb => ?_⟩
      rcases hS2 b hb with h | h
      · exact hN1 b h
      · exact .inr (by omega)
    have hbw : Below w.heap.size w wo := HBEL.out.trans (HST.out.belowb (fun b hb => (HBI.out.1 b hb).1) hbase)
    have hbwr : w.heap.size ≤ wo.heap.size := hbw.size
    clear hgk hb1 hF1 hN1
    by_cases hkn : k < m
    · have hkl : k < l.length := by rw [HL.out]; exact hkn
      obtain ⟨b, off, rfl, hb, hc⟩ := (HB.out.below hbw).flatN (by omega) (by omega)
      have hz := HZ.out _ (List.getElem_mem hkl)
      have hq := fun t u (ht : t < 6) (hu : (StepZ.cells l[k])[t]? = some u) => hc (k * 6 + t) u (by rw [rows_at StepZ.cells 6 (fun _ => rfl) l k t hkl ht]; exact hu)
      generalize l[k] = z at *
      have q3 : wo.cell? ⟨b, off + k * 6 + 3, none⟩ = some (.int .i64 z.region) := hq 3 _ (by omega) rfl
      have q4 : wo.cell? ⟨b, off + k * 6 + 4, none⟩ = some (.int .i64 z.call) := hq 4 _ (by omega) rfl
      have q5 : wo.cell? ⟨b, off + k * 6 + 5, none⟩ = some (.slice z.A z.na z.ca) := hq 5 _ (by omega) rfl
      have hki : (k : Int) < (m : Int) := by omega
      have hbs : b < wo.heap.size := by omega
      have HZA := Lib.hid (hz.1.2.2.below hbw)
      have HZ2 := Lib.hid hz
      have hna := hz.2
      have HBW := Lib.hid hbw
      clear hc hq hz hbw
      go_wp2_with fail
      refine (numbers_any z.A z.na z.ca z.args _ hna (by exact HZA.out.more hbwr)).mono ?_
      rintro e w2 ⟨v, rfl, hown, hb2⟩
      obtain ⟨V, cc, rfl, hcc, hRV⟩ := own_shapes hown
      obtain ⟨hS, hK, g, g', rv, rc, tv, tv', c2, regs2, l1', l2', hBo⟩ := HB1.out.below hb2
      have HBo := Lib.hid hBo
      have hlt2 := hb2.size
      have hq2 : ∀ i, w2.cell? ⟨b, i, none⟩ = wo.cell? ⟨b, i, none⟩ := fun i => hb2.cell (p := ⟨b, i, none⟩) hbs
      have r3 := (hq2 _).trans q3
      have r4 := (hq2 _).trans q4
      have r5 := (hq2 _).trans q5
      have hln : l1'.length ≤ 8 ∧ l2'.length ≤ 8 := ⟨by have := hBo.n8; rw [← hBo.pt] at this; simpa using this, by have := hBo.n8; rw [← hBo.rt] at this; simpa using this⟩
      have HOWN := Lib.hid hown
      have HSK : Hid (∀ q, S1 q → q < wo.heap.size) := Lib.hid fun q hq => (HB1.out.1 q hq).2
      have HP1 : Hid (∀ W, Below w2.heap.size w2 W → Calls Try.prog 12 #[.pointer (some ⟨s, 0, none⟩), .int .i64 z.region, .int .i64 z.call, .slice V z.na cc] W (PCallPost (pcallF ts1 z.region z.call z.args) w.heap.size s g tv raw1 l1' w2)) := Lib.hid fun W hW => by
        have hsz := hW.size
        have := pcall_any z.region z.call V z.na cc z.args W (HBo.out.p.below hW) (by rw [HBo.out.pt]; exact HBo.out.ok) HZ2.out.1.1 HZ2.out.1.2.1 ((hRV.below hW).more hsz) (by omega) hln.1 fun h0 ad ha hp => by
          have h1 := HBo.out.inp _ hp
          have h2 := HSK.out _ h1
          obtain ⟨gg, cap, hv, hbb, _⟩ := HOWN.out.form h0
          injection hv with e1 e2 e3
          rw [ha] at e1
          injection e1 with e1
          rw [e1] at h2
          simp at h2
          omega
        rw [HBo.out.pt] at this
        exact this.mono fun e w' h => PCallPost.after hW h
      obtain ⟨q, hqe⟩ : ∃ q, q = pcallF ts1 z.region z.call z.args := ⟨_, rfl⟩
      have HQ : Hid (AllOk q.1 ∧ q.1.map regOf = ts1.map regOf ∧ q.1.length = ts1.length) := Lib.hid (by rw [hqe]; exact ⟨pcallF_ok HBo.out.ok _ _ _, (pcallF_reg _ _ _).1, (pcallF_reg _ _ _).2⟩)
      rw [← hqe] at HP1
      have HQE := Lib.hid hqe
      obtain ⟨p1, p2, p3, p4⟩ := q
      have HB2 := Lib.hid hb2
      have hbx := Below.refl w2.heap.size w2
      clear hown hb2 hS hK hBo q3 q4 q5 hq2 hRV hqe
      go_wp2_with fail
      go_region_with (go_at_call 12; refine (HP1.out _ (by first | exact hbx | exact hbx.drew | exact below_drewN hbx _)).mono ?_; rintro e w3 ⟨l1, rfl, hp1, ht1, hF1, hn1⟩)
      all_goals
        have hw3 := hF1.size
        have HLo : Hid (∀ q, LBlocks tv l1' q → w.heap.size ≤ q ∧ q < wo.heap.size) := Lib.hid fun q hq => ⟨(HB1.out.1 q (HBo.out.inp q (.inr (.inr hq)))).1, HSK.out q (HBo.out.inp q (.inr (.inr hq)))⟩
        have HLo2 : Hid (∀ q, LBlocks tv' l2' q → w.heap.size ≤ q ∧ q < wo.heap.size) := Lib.hid fun q hq => ⟨(HB1.out.1 q (HBo.out.inr q (.inr (.inr hq)))).1, HSK.out q (HBo.out.inr q (.inr (.inr hq)))⟩
        have hbw3 : Below w.heap.size w2 w3 := hF1.below (by omega) fun q hq => (HLo.out q hq).1
        have s3 : w3.cell? ⟨b, off + k * 6 + 3, none⟩ = some (.int .i64 z.region) := (hbw3.cell (p := ⟨b, off + k * 6 + 3, none⟩) hb).trans r3
        have s4 : w3.cell? ⟨b, off + k * 6 + 4, none⟩ = some (.int .i64 z.call) := (hbw3.cell (p := ⟨b, off + k * 6 + 4, none⟩) hb).trans r4
        have s5 : w3.cell? ⟨b, off + k * 6 + 5, none⟩ = some (.slice z.A z.na z.ca) := (hbw3.cell (p := ⟨b, off + k * 6 + 5, none⟩) hb).trans r5
        have hbs3 : b < w3.heap.size := by omega
        have HBW3 := Lib.hid hbw3
        have HR1 : Hid (∀ W, Below w3.heap.size w3 W → Calls Try.prog 16 #[.pointer (some ⟨s', 0, none⟩), .int .i64 z.region, .int .i64 z.call, .slice z.A z.na z.ca] W (RCallPost (p1, p2, p3, p4) w.heap.size s' g' rv rc tv' c2 regs2 raw1 l2' w3)) := Lib.hid fun W hW => by
          have hsz := hW.size
          have h3 := (HBo.out.called (l1 := l1) hF1).below hW
          have hbb := HB2.out.mono (B' := w.heap.size) hbwr
          have hrd := (((HZA.out.below hbb).below HBW3.out).below (hW.mono (B' := w.heap.size) (by omega))).more (B' := W.heap.size) (by omega)
          have := rcall_any z.region z.call z.A z.na z.ca z.args W h3 (by rw [HBo.out.rt]; exact HBo.out.ok) (by rw [HBo.out.rt]; exact HBo.out.rg) HZ2.out.1.1 HZ2.out.1.2.1 hrd (by omega) hln.2 fun h0 ad ha hp => by
            obtain ⟨ad', e1, e2, _⟩ := HZA.out.2 h0
            rw [ha] at e1
            injection e1 with e1
            subst e1
            have : w.heap.size ≤ ad.block := (HBo.out.rblk hp).elim (fun h => (HB1.out.1 _ h).1) fun h => (HB1.out.2.1.1 _ h).1
            omega
          rw [HBo.out.rt, ← HQE.out] at this
          exact this.mono fun e w' h => RCallPost.after hW h
        have HP3 := Lib.hid hp1
        have HT1 := Lib.hid ht1
        have HF1 := Lib.hid hF1
        have HN1 := Lib.hid hn1
        have hby := Below.refl w3.heap.size w3
        clear hp1 ht1 hF1 hn1 r3 r4 r5 hbw3
        go_wp2_with fail
        go_region_with (go_at_call 16; refine (HR1.out _ (by first | exact hby | exact hby.drew | exact below_drewN hby _)).mono ?_; rintro e w4 ⟨l2, rfl, hp2, ht2, hF2, hn2⟩)
        all_goals
          have hw4 := hF2.size
          have hbw4 : Below w.heap.size w3 w4 := hF2.below (by omega) fun q hq => (HLo2.out q hq).1
          have t5 : w4.cell? ⟨b, off + k * 6 + 5, none⟩ = some (.slice z.A z.na z.ca) := (hbw4.cell (p := ⟨b, off + k * 6 + 5, none⟩) hb).trans s5
          have hbs4 : b < w4.heap.size := by omega
          have ho3 := own_keep HOWN.out (w' := w3) fun q hq => HF1.out.block q (HOWN.out.lt q hq).2 fun hl => by have := (HLo.out q hl).2; have := (HOWN.out.lt q hq).1; omega
          have ho4 := own_keep ho3 (w' := w4) fun q hq => hF2.block q (ho3.lt q hq).2 fun hl => by have := (HLo2.out q hl).2; have := (ho3.lt q hq).1; omega
          have HO4 := Lib.hid ho4
          have HZ4 := Lib.hid (((HZA.out.below (HB2.out.mono (B' := w.heap.size) hbwr)).below HBW3.out).below hbw4)
          have HSTEP : Hid (∀ wz, Frm w4 wz (fun q => (Value.slice V z.na cc).ownBlock = some q) → BStep wo wz w.heap.size s s' raw1 p1 S1 K) := Lib.hid fun wz hz => owns_step HB1.out.1 HB1.out.2.1 HBo.out hbwr HB2.out HOWN.out HP3.out HT1.out HF1.out HN1.out hp2 ht2 hF2 hn2 HQ.out.1 HQ.out.2.1 HQ.out.2.2 hz
          clear ho3 ho4 hp2 ht2 hF2 hn2 s3 s4 s5 hbw4
          go_wp2_with fail
          refine (same_yes V z.A z.na cc z.ca z.args _ w4.heap.size w.heap.size (by omega) (by exact Reads.of_own HO4.out) (by exact HZ4.out)).mono ?_
          rintro e w5 ⟨rfl, j, rfl⟩
          go_wp2_with fail
          go_loopg [11] z.na (fun gk i wz => ∃ t : Nat, i = .int .i64 t ∧ t ≤ z.na ∧ gk = z.na - t ∧ Frm w4 wz (fun q => (Value.slice V z.na cc).ownBlock = some q) ∧ (0 < z.na → ∃ gg, V = some ⟨gg, 0, none⟩ ∧ HasBlk wz gg 2 z.na))
          case atStart => exact ⟨0, rfl, Nat.zero_le _, rfl, Frm.of_below (below_drewN (Below.refl _ _) _), fun h0 => by
            obtain ⟨gg, e1, e2, e3⟩ := HasBlk.of_own HO4.out h0
            rw [Nat.mul_one] at e2
            exact ⟨gg, e1, e2.drewN _⟩⟩
          case round =>
            obtain ⟨t, rfl, ht, hgt, hFz, hbk⟩ := hrel
            have HGT := Lib.hid hgt
            have HFZ := Lib.hid hFz
            clear hgt hFz
            by_cases htn : t < z.na
            · obtain ⟨gg, rfl, hbk2⟩ := hbk (by omega)
              obtain ⟨uo, hcu⟩ := hbk2.cell htn
              have hfu := hbk2.frozen t
              have hgl := hbk2.lt
              have HBK := Lib.hid hbk2
              clear hbk2
              have hti : (t : Int) < (z.na : Int) := by omega
              clear hbk
              go_wp2_with fail
              go_roundg (z.na - (t + 1))
              case measure => have := HGT.out; omega
              case rel =>
                refine ⟨t + 1, by go_num, by omega, rfl, ?_, fun _ => ⟨gg, rfl, HBK.out.set gg t _⟩⟩
                exact HFZ.out.trans (S' := fun q => q = gg) ⟨rfl, rfl, rfl, by simp [World.setCell], fun q hq hn => Below.heap_setCell _ ⟨gg, t, none⟩ _ q hn⟩ fun q e => .inl (by rw [e]; rfl)
            · have hti : decide ((t : Int) < (z.na : Int)) = false := by simp; omega
              go_wp2_with fail
              go_roundg (m - (k + 1))
              case measure => have := HG.out; omega
              case rel => exact ⟨k + 1, by go_num, by omega, rfl, raw1, p1, HT.out _ _ _ (HSTEP.out _ HFZ.out)⟩
    · have hki : decide ((k : Int) < (m : Int)) = false := by simp; omega
      obtain ⟨hS, hK, g, g', rv, rc, tv, tv', c2, regs2, l1', l2', hBo⟩ := id HB1.out
      have HBo := Lib.hid hBo
      have hln : l1'.length ≤ 8 := by have := hBo.n8; rw [← hBo.pt] at this; simpa using this
      obtain ⟨rl, hrl⟩ : ∃ rl, rl = raw1.length := ⟨_, rfl⟩
      have HRW := Lib.hid (raw_any s g raw1.length raw1 wo hBo.r64 rfl ((hBo.p.blk.cell 0).trans rfl) hBo.p.rawb)
      rw [← hrl] at HRW
      have hrl64 : rl ≤ 64 := by rw [hrl]; exact hBo.r64
      have HRL := Lib.hid hrl
      have HBW := Lib.hid hbw
      clear hS hK hBo hrl hbw
      go_wp2_with fail
      refine HRW.out.mono ?_
      rintro e w2 ⟨rfl, hrb, hb2⟩
      have HB2 := Lib.hid hb2
      have HBK0 : Hid (HasBlk w2 wo.heap.size 2 rl) := Lib.hid ⟨_, hrb, by simp [ints, HRL.out]⟩
      have hw2 := hb2.size
      clear hrb hb2
      go_wp2_with fail
      go_loopg [13] rl (fun gk i wz => ∃ t : Nat, i = .int .i64 t ∧ t ≤ rl ∧ gk = rl - t ∧ Below wo.heap.size wo wz ∧ HasBlk wz wo.heap.size 2 rl)
      case atStart => exact ⟨0, rfl, Nat.zero_le _, rfl, HB2.out, HBK0.out⟩
      case round =>
        obtain ⟨wz, rfl⟩ : ∃ wz, wz = wr := ⟨_, rfl⟩
        obtain ⟨t, rfl, ht, hgt, hbz, hbk⟩ := hrel
        have HGT := Lib.hid hgt
        have HBZ := Lib.hid hbz
        clear hgt hbz
        by_cases htn : t < rl
        · obtain ⟨uo, hcu⟩ := hbk.cell htn
          have hfu := hbk.frozen t
          have hgl := hbk.lt
          have HBK := Lib.hid hbk
          have hti : (t : Int) < (rl : Int) := by omega
          clear hbk
          go_wp2_with fail
          go_roundg (rl - (t + 1))
          case measure => have := HGT.out; omega
          case rel => exact ⟨t + 1, by go_num, by omega, rfl, HBZ.out.setCell (p := ⟨wo.heap.size, t, none⟩) (Nat.le_refl _) _, HBK.out.set _ _ _⟩
        · have hti : decide ((t : Int) < (rl : Int)) = false := by simp; omega
          have HSH := Lib.hid (pshapes_any s g w.heap.size tv raw1 l1' _ (HBo.out.p.below HBZ.out) hln (by rw [HBo.out.pt]; exact HBo.out.ok))
          clear hbk
          go_wp2_with fail
          refine HSH.out.mono ?_
          rintro e w5 ⟨v5, l5, rfl, hL5, hl5, hb5⟩
          have hlen5 : l5.length ≤ 8 := by have := congrArg List.length hl5; simp at this; omega
          obtain ⟨TA, Tc, rfl, -, -⟩ := own_shapes hL5.row
          obtain ⟨N, hN⟩ : ∃ N, N = l5.length := ⟨_, rfl⟩
          have HSW : Hid (0 < N → ∃ T, TA = some ⟨T, 0, none⟩ ∧ ShW w5 wz.heap.size T N l5) := Lib.hid fun h0 => by
            obtain ⟨T, cap, hv, h⟩ := ShW.of hL5 (by omega)
            injection hv with e1 e2 e3
            exact ⟨T, e1, by rw [hN]; exact h⟩
          have hsz5 := hb5.size
          have hszz := HBZ.out.size
          have HBI5 := Lib.hid (HB1.out.below (HBZ.out.trans (hb5.mono HBZ.out.size)))
          have HBW5 := Lib.hid (HBW.out.trans ((HBZ.out.trans (hb5.mono HBZ.out.size)).mono hbwr))
          have HSB : Hid (∀ q, S1 q ∨ K q → q < wo.heap.size) := Lib.hid fun q hq => hq.elim (fun h => (HB1.out.1 q h).2) fun h => (HB1.out.2.1.1 q h).2
          have HNN := Lib.hid hN
          have HLN : Hid (∀ x ∈ l5, x.t.values.length ≤ 9223372036854775807 ∧ x.t.pairs.length ≤ 9223372036854775807) := Lib.hid fun x hx => ⟨own_len (hL5.things x hx).vs, own_len (hL5.things x hx).ps⟩
          rw [← hN] at hlen5 ⊢
          clear hL5 hl5 hb5 hN
          go_wp2_with fail
          go_loopg [15] N (fun gk i wy => ∃ t : Nat, i = .int .i64 t ∧ t ≤ N ∧ gk = N - t ∧ Below wz.heap.size w5 wy ∧ (0 < N → ∃ T, TA = some ⟨T, 0, none⟩ ∧ ShW wy wz.heap.size T N l5))
          case atStart => exact ⟨0, rfl, Nat.zero_le _, rfl, Below.refl _ _, HSW.out⟩
          case round =>
            obtain ⟨wq, rfl⟩ : ∃ wq, wq = wr := ⟨_, rfl⟩
            obtain ⟨t4, rfl, ht4, hg4, hb4, hsw⟩ := hrel
            have HG4 := Lib.hid hg4
            have HB4 := Lib.hid hb4
            clear hg4 hb4
            by_cases ht4n : t4 < N
            · obtain ⟨T, rfl, hsw2⟩ := hsw (by omega)
              have ht4l : t4 < l5.length := by rw [← HNN.out]; exact ht4n
              obtain ⟨R1, k1, R2, k2, nv, np, hnn, hc5⟩ := hsw2.elem ht4l
              have hnv : nv ≤ 9223372036854775807 := by rw [hnn.1]; exact (HLN.out _ (List.getElem_mem ht4l)).1
              have hnp : np ≤ 9223372036854775807 := by rw [hnn.2]; exact (HLN.out _ (List.getElem_mem ht4l)).2
              clear hnn
              have HC5 := Lib.hid hc5
              have HS4 := Lib.hid hsw2
              have ht4i : (t4 : Int) < (N : Int) := by omega
              clear hc5 hsw hsw2
              go_wp2_with fail
              go_loopg [16] nv (fun gk i wy => ∃ t : Nat, i = .int .i64 t ∧ t ≤ nv ∧ gk = nv - t ∧ Below wz.heap.size w5 wy ∧ ShW wy wz.heap.size T N l5)
              case atStart => exact ⟨0, rfl, Nat.zero_le _, rfl, HB4.out, HS4.out⟩
              case round =>
                obtain ⟨wp, rfl⟩ : ∃ wp, wp = wr := ⟨_, rfl⟩
                obtain ⟨t5, rfl, ht5, hg5, hb5, hs5⟩ := hrel
                obtain ⟨c1, c2, -, -, hTl, hv1, -⟩ := HC5.out _ hs5
                have HG5 := Lib.hid hg5
                have HB5 := Lib.hid hb5
                have HS5 := Lib.hid hs5
                clear hg5 hb5 hs5
                by_cases ht5n : t5 < nv
                · obtain ⟨g1, rfl, hq1, hk1⟩ := hv1 (by omega)
                  obtain ⟨uo, hcu⟩ := hk1.cell ht5n
                  have hfu := hk1.frozen t5
                  have hgl := hk1.lt
                  have HK1 := Lib.hid hk1
                  have hti : (t5 : Int) < (nv : Int) := by omega
                  clear hk1 hv1
                  go_wp2_with fail
                  go_roundg (nv - (t5 + 1))
                  case measure => have := HG5.out; omega
                  case rel => exact ⟨t5 + 1, by go_num, by omega, rfl, HB5.out.setCell (p := ⟨g1, t5, none⟩) hq1 _, HS5.out.setFar HK1.out (by decide) _⟩
                · have hti : decide ((t5 : Int) < (nv : Int)) = false := by simp; omega
                  clear hv1
                  go_wp2_with fail
                  clear c1 c2 hTl
                  go_loopg [17] np (fun gk i wy => ∃ t : Nat, i = .int .i64 t ∧ t ≤ np ∧ gk = np - t ∧ Below wz.heap.size w5 wy ∧ ShW wy wz.heap.size T N l5)
                  case atStart => exact ⟨0, rfl, Nat.zero_le _, rfl, HB5.out, HS5.out⟩
                  case round =>
                    obtain ⟨t6, rfl, ht6, hg6, hb6, hs6⟩ := hrel
                    obtain ⟨c1, c2, ⟨uk, c0⟩, f0, hTl, -, hv2⟩ := HC5.out _ hs6
                    have HG6 := Lib.hid hg6
                    have HB6 := Lib.hid hb6
                    have HS6 := Lib.hid hs6
                    clear hg6 hb6 hs6
                    by_cases ht6n : t6 < np
                    · obtain ⟨g2, rfl, hq2, hk2⟩ := hv2 (by omega)
                      obtain ⟨uo, hcu⟩ := hk2.cell (i := t6 * 2 + 1) (by omega)
                      have hfu := hk2.frozen (t6 * 2 + 1)
                      have hgl := hk2.lt
                      have HK2 := Lib.hid hk2
                      have hti : (t6 : Int) < (np : Int) := by omega
                      clear hk2 hv2
                      go_wp2_with fail
                      go_roundg (np - (t6 + 1))
                      case measure => have := HG6.out; omega
                      case rel => exact ⟨t6 + 1, by go_num, by omega, rfl, HB6.out.setCell (p := ⟨g2, t6 * 2 + 1, none⟩) hq2 _, HS6.out.setFar HK2.out (by decide) _⟩
                    · have hti : decide ((t6 : Int) < (np : Int)) = false := by simp; omega
                      clear hv2
                      go_wp2_with fail
                      go_roundg (N - (t4 + 1))
                      case measure => have := HG4.out; omega
                      case rel => exact ⟨t4 + 1, by go_num, by omega, rfl, HB6.out.setCell (p := ⟨T, t4 * 3, none⟩) HS6.out.tq _, fun _ => ⟨T, rfl, HS6.out.setKind _⟩⟩
            · have ht4i : decide ((t4 : Int) < (N : Int)) = false := by simp; omega
              clear hsw
              have HAL := Lib.hid (alike_any s s' w.heap.size raw1 ts1 S1 K wq (HBI5.out.frm (Frm.of_belowB HB4.out) (fun q hq h2 => by have := HSB.out q (.inl hq); omega) fun q hq h2 => by have := HSB.out q (.inr hq); omega))
              have hq5 := HB4.out.size
              go_wp2_with fail
              refine HAL.out.mono ?_
              rintro e w6 ⟨rfl, hb6⟩
              have HF6 := Lib.hid ((HBW5.out.trans (HB4.out.mono (by omega))).trans (hb6.mono (by have := HBW5.out.size; omega)))
              clear hb6
              go_wp2_with fail
              go_ret
              exact ⟨rfl, HF6.out⟩

theorem opened {H : Type} (enc : TypeId × Value → H) (W : World) (b0 : Nat) (v0 : Value) (d0 : DataW H) (p0 : List MemPlace) (v1 : Value) (d1 : DataW H) (p1 : List MemPlace)
    (hv0 : Value.okWide Try.prog W .any b0 24 v0) (h0 : DataW.Trod enc Try.prog W 0 (fun _ => true) true 24 v0 d0 p0)
    (hv1 : Value.okWide Try.prog W .any b0 44 v1) (h1 : DataW.Trod enc Try.prog W 0 (fun _ => true) true 44 v1 d1 p1)
    (hsz : (DataW.weightsEach Try.prog [24, 44] [d0, d1]).all (· ≤ reachBytes) = true) :
    Calls Try.prog 5 #[v0, v1] W fun e W' => e = .returned (.bool true) ∧ Below W.heap.size W W' := by
  obtain ⟨c, A, n, nc, regs, rfl, hl, hn, hA⟩ := open_cfg hv0 h0
  obtain ⟨B, m, mc, l, rfl, hll, hm, hB, hz⟩ := param_steps2 hv1 h1 hsz (j := 1) rfl rfl
  by_cases hok : cfgOk c regs
  · obtain ⟨R, hR⟩ := Int.eq_ofNat_of_zero_le (show 0 ≤ c.raw by have := hok.1; omega)
    have h1 := hok.1
    have h2 := hok.2.1
    exact walk_yes c regs A n nc R l B m mc W hl hA hok hR (by omega) (by omega) hm hll hB hz
  · exact walk_no c regs A n nc _ W hl hn hA hok

/-! ### The row -/
set_option maxRecDepth 100000 in
theorem lifted (os : Os) (started : os.Started) (H : Type) (enc : TypeId × Value → H) :
    ReturnsInHanded {} Try.checked os 5 .any (Rows.plainOwnsSpec.pre6 enc Try.prog Try.f5 Rows.plainOwnsRow.domain false) (Rows.plainOwnsSpec.post enc Try.prog Try.f5 false true false false) := by
  refine returnsInHanded_of_change_sized (C := Try.checked) own started (by kernel_rfl) Try.func5
    (ChangeSpec.witness6 (enc := enc) (C := Try.checked) false ⟨#[], #[.agg #[.int .i64 0, .int .i64 0, .int .i64 0, .int .i64 0, .bool false, .int .i64 0, .slice none 0 0], .slice none 0 0], []⟩ 8 (by kernel_rfl) (by kernel_rfl) (by kernel_rfl) (by kernel_rfl)) ?_
  intro W base args ds gs before hval0 hW hcnd hsz0 hholds
  have hval : ∀ (j : Nat) t v, Try.f5.params[j]? = some t → args[j]? = some v → Value.okWide Try.prog W .any base t v := hval0
  have hsz : (DataW.weightsEach Try.prog (Try.f5.params.toList ++ Rows.plainOwnsSpec.plain.varTypes Try.prog) (ds ++ gs)).all (· ≤ reachBytes) = true := hsz0
  have hW' := hW
  obtain ⟨p, q, hA0, hV, rfl, hfz, hnd⟩ := hW
  have hA : DataW.TrodAll enc Try.prog W 0 (fun _ => true) true Try.f5.params.toList args.toList ds p := hA0
  obtain ⟨rfl, rfl⟩ := trodVars_none hV
  have hlt : ∀ x ∈ p, x.block < W.heap.size := fun x hx => hW'.lt x (by simpa using hx)
  rw [Try.params5] at hA hval hsz
  obtain ⟨v0, vs0, d0, ds0, p0, q0, hargs, rfl, rfl, h0, r0⟩ := trodAll_cons hA
  obtain ⟨v1, vs1, d1, ds1, p1, q1, rfl, rfl, rfl, h1, r1⟩ := trodAll_cons r0
  obtain ⟨rfl, rfl, rfl⟩ := trodAll_nil r1
  obtain rfl : args = #[v0, v1] := by cases args; simp_all
  clear hA0 hval0 hsz0
  refine (opened enc W base v0 d0 p0 v1 d1 p1 (hval 0 _ v0 rfl rfl) h0 (hval 1 _ v1 rfl rfl) h1 hsz).mono fun e W' ⟨he, bel⟩ => ?_
  subst he
  exact ⟨_, rfl, _, _, _, [], _, [], hW', trodAll_mk1 (shut_bool Try.underlying4 _), Below.trodAll laidOut (by intro t ht; have ht' : t ∈ [24, 44] := ht; clear ht; simp only [List.mem_cons, List.not_mem_nil, or_false] at ht'; rcases ht' with rfl | rfl <;> exact ⟨by kernel_rfl, of_decide_eq_true (by kernel_rfl)⟩) hA bel hlt, rfl, bel.frame _, fun h => by cases h⟩

theorem over : Rows.plainOwnsRow.holds Try.pinned (OpenSpec.ofChange Rows.plainOwnsSpec) :=
  OpenClaim.holds_of_wide 5 Try.f5 rfl rfl rfl rfl rfl rfl rfl ⟨rfl, rfl, rfl, rfl, rfl⟩ rfl rfl rfl rfl rfl (by kernel_rfl) Try.func5 (by kernel_rfl)
    (of_decide_eq_true (by kernel_rfl)) (by unfold Func.isWrapper; first | (rw [if_pos (by decide +kernel)]; kernel_rfl) | (rw [if_neg (by decide +kernel)]; exact ⟨rfl, rfl⟩))
    (fun os started H enc _ => lifted os started H enc)

/-- THE STATEMENT -/
theorem proved : Rows.PlainOwnsSaid := over
#print axioms proved
end Go.Proofs.Ytpmpgnhbpneloaa.plainOwns
