/- What the document's New does. -/
import Derived.Test.YtpmpgnhbpneloaaPi
import Derived.Deep.Cut
import Derived.Deep.CutRange
namespace Go.Proofs.Ytpmpgnhbpneloaa
open Go.RowKit Go.Joins Go.ChangeShapes Go.WideShapes Go.Deep
set_option linter.unusedVariables false
set_option maxRecDepth 100000

theorem info_shape : (Try.prog.info? 52).map (fun i => (i.zero, i.size, i.bytes)) = some (some (.agg #[.int .i64 0, .slice none 0 0, .slice none 0 0]), 3, 56) := by kernel_rfl

theorem rnew_no (c : Cfg) (regs : List Reg) (A : Option Addr) (n nc : Nat) (w : World) (hl : regs.length = n) (hn : n ≤ 9223372036854775807) (hA : Reads w w.heap.size 2 A n (rows Reg.cells regs)) (hno : ¬ cfgOk c regs) :
    Calls Try.prog 22 #[.agg #[.int .i64 c.raw, .int .i64 c.ring, .int .i64 c.writes, .int .i64 c.stamps, .bool c.multi, .int .i64 c.tries, .slice A n nc]] w fun e w' => e = .returned (.tuple #[.pointer none, .int .i64 13]) ∧ Below w.heap.size w w' := by
  have HC := fun w' h => rcheck_any c regs A n nc w' w.heap.size hl hn h
  rw [checkF_no hno] at HC
  clear hno
  go_enter Try.func22, Try.ntmps22
  go_wp2_with fail
  refine (HC _ (by simp) (by exact hA.alloc (Nat.le_refl _) _)).mono ?_
  rintro e w1 ⟨rfl, hb⟩
  go_wp2_with fail
  go_ret2
  exact ⟨rfl, (by refine Below.trans ?_ (hb.mono (by simp)); repeat (first | with_reducible exact Below.refl _ _ | with_reducible refine Below.drew ?_ | with_reducible refine below_drewN ?_ _ | ((with_reducible refine Below.alloc ?_ ?_ _); (rotate_left; focus (first | with_reducible exact Nat.le_refl _ | omega | (simp; done) | (simp; omega) | (simp [World.setCell]; done) | (simp [World.setCell]; omega)))) | ((with_reducible refine Below.setCell ?_ ?_ _); (rotate_left; focus (first | with_reducible exact Nat.le_refl _ | omega | (simp; done) | (simp; omega) | (simp [World.setCell]; done) | (simp [World.setCell]; omega))))))⟩

def RelM (w : World) (c : Cfg) (regs : List Reg) (A : Option Addr) (nc : Nat) (R n s g : Nat) (rv : Option Addr) (rc : Nat × Nat) (gk : Nat) (i : Value) (wr : World) : Prop :=
  ∃ (k : Nat) (tv : Value) (l : List TM), i = .int .i64 k ∧ k ≤ n ∧ gk = n - k ∧ RIs wr w.heap.size s g rv rc tv c regs (List.replicate R 0) l ∧ l.length = k ∧ l.map TM.t = (regs.take k).map thing0 ∧ Below w.heap.size w wr ∧
    Blk wr w.heap.size 24 #[.int .i64 c.raw, .int .i64 c.ring, .int .i64 c.writes, .int .i64 c.stamps, .bool c.multi, .int .i64 c.tries, .slice A n nc]

theorem RIs.start {X : World} {base s g n R : Nat} {rv : Option Addr} {rc : Nat} {c : Cfg} {regs : List Reg} (hn : regs.length = n)
    (hblk : Blk X s 80 #[.int .i64 c.raw, .int .i64 c.ring, .int .i64 c.writes, .int .i64 c.stamps, .bool c.multi, .int .i64 c.tries, .slice rv n rc, .slice (some ⟨g, 0, none⟩) R R, .slice none 0 0])
    (hregs : X.ownsRow base 82 2 (.slice rv n rc) n (rows Reg.cells regs)) (hraw : Blk X g 2 (ints (List.replicate R 0)).toArray) (b0 : base ≤ s) (b1 : base ≤ g) (hR : R ≤ 64) :
    RIs X base s g rv (rc, R) (.slice none 0 0) c regs (List.replicate R 0) [] := by
  subst hn
  refine ⟨by simpa using hblk, hregs, ⟨by simp [ints], .inr ⟨g, R, (ints (List.replicate R 0)).toArray, by simp, b1, hraw, by simp, by unfold maxLen; omega, by simp [ints], by simp [ints]⟩⟩, LIs.nil, by simp, b0, b1⟩
theorem RIs.snoc {W3 W4 w2 : World} {base s g : Nat} {tv tv' : Value} {raw : List Int} {l : List TM} {x : TM} {rv : Option Addr} {rc : Nat × Nat} {c : Cfg} {regs : List Reg} (h : RIs W3 base s g rv rc tv c regs raw l) (hx : ThingIs W3 base x) (hsv : ∀ y ∈ l, sep y.vv x.vv) (hsr : x.vv.ownBlock ≠ some g) (hpv : x.pv = .slice none 0 0)
    (hb : Below W3.heap.size W3 W4) (hgrow : W4.grownBy w2 tv.ownBlock) (hown : w2.ownsRow base 52 3 tv' (l.length + 1) (rows TM.cells3 l ++ x.cells3)) :
    RIs (w2.setCell ⟨s, 8, none⟩ tv') base s g rv rc tv' c regs raw (l ++ [x]) ∧ Below base W3 (w2.setCell ⟨s, 8, none⟩ tv') ∧ (∀ q t cs, Blk W3 q t cs → t ≠ 80 → t ≠ 52 → Blk (w2.setCell ⟨s, 8, none⟩ tv') q t cs) := by
  have hW := h.below hb
  have hx4 : ThingIs W4 base x := hx.keep fun b hb' => hb.block b (by
    rcases hb' with e | e
    · exact (hx.vs.lt b e).2
    · exact (hx.ps.lt b e).2)
  have ns : tv.ownBlock ≠ some s := fun e => hW.ls.ne (.inl e) hW.blk (by decide) (by decide) (by decide) rfl
  have ng : tv.ownBlock ≠ some g := own_blk_ne hW.ls.row hW.rb.choose_spec (by decide)
  have hsg : g ≠ s := hW.rb.choose_spec.ne_ hW.blk (by decide)
  have hl2 := hW.ls.snoc hx4 hsv (fun y _ b _ e => by rw [hpv] at e; simp [Value.ownBlock] at e) (by decide) (by decide) hgrow hown
  have hs2 := hW.blk.grown hgrow (fun e => ns e.symm)
  have hreg2 : w2.ownsRow base 82 2 (.slice rv regs.length rc.1) regs.length (rows Reg.cells regs) := own_keep hW.regs fun b hb' => hgrow.block b (hW.regs.lt b hb').2 (fun e => by
    obtain ⟨cs, hc⟩ := own_blk hW.regs hb'
    exact own_blk_ne hW.ls.row hc (by decide) e.symm)
  refine ⟨⟨hs2.set_ 8 tv', ownsRow_setCell_other hreg2 (a := ⟨s, 8, none⟩) (own_blk_ne hreg2 hs2 (by decide)) _, own_keep hW.rawb (fun b hb => by injection hb with hb; subst hb; exact (Below.heap_setCell w2 ⟨s, 8, none⟩ tv' g hsg).trans (hgrow.block g hW.gl (fun e => ng e.symm))), hl2.far (p := ⟨s, 8, none⟩) (fun b hb => hl2.ne hb hs2 (by decide) (by decide) (by decide)) _, ?_, h.b0, h.b1⟩, ?_, ?_⟩
  · intro y hy
    rcases List.mem_append.1 hy with hy | hy
    · exact h.sepr y hy
    · simp at hy
      subst hy
      exact hsr
  · refine Below.setCell ?_ h.b0 _
    have hsz := h.blk.lt
    have hb0 := h.b0
    exact (hb.mono (by omega)).trans ⟨hgrow.os, hgrow.tape, hgrow.output, hgrow.size, fun q hq => hgrow.block q (by have := hb.size; omega) (fun e => by have := (hW.ls.row.lt q e.symm).1; omega)⟩
  · intro q t cs hq h1 h2
    have hq4 := hq.below hb hq.lt
    have hq2 := hq4.grown hgrow (fun e => own_blk_ne hW.ls.row hq4 (Ne.symm h2) e.symm)
    exact hq2.far (p := ⟨s, 8, none⟩) (hq2.ne_ hs2 h1) _

set_option maxHeartbeats 4000000 in
theorem rnew_yes (c : Cfg) (regs : List Reg) (A : Option Addr) (n nc R : Nat) (w : World) (hl : regs.length = n) (hn : n ≤ 8) (hA : Reads w w.heap.size 2 A n (rows Reg.cells regs)) (hok : cfgOk c regs) (hR : c.raw = (R : Int)) (hR64 : R ≤ 64) :
    Calls Try.prog 22 #[.agg #[.int .i64 c.raw, .int .i64 c.ring, .int .i64 c.writes, .int .i64 c.stamps, .bool c.multi, .int .i64 c.tries, .slice A n nc]] w fun e w' =>
      ∃ (s g : Nat) (rv : Option Addr) (rc : Nat × Nat) (tv : Value) (l : List TM), e = .returned (.tuple #[.pointer (some ⟨s, 0, none⟩), .int .i64 0]) ∧ RIs w' w.heap.size s g rv rc tv c regs (List.replicate R 0) l ∧ l.map TM.t = regs.map thing0 ∧ Below w.heap.size w w' := by
  have HC := fun w' h => rcheck_any c regs A n nc w' w.heap.size hl (by omega) h
  rw [checkF_yes hok] at HC
  have HOK : Hid (∀ r ∈ regs, regOk r) := Lib.hid hok.2.2.2.2.2.2.2.2.2.2.2
  have HL := Lib.hid hl
  obtain ⟨i0, hi0, hz0, hz1, hz2⟩ := info_parts info_shape
  clear hok hl
  obtain ⟨raw, ring, writes, stamps, multi, tries⟩ := c
  simp only at hR
  subst hR
  simp only at HC ⊢
  have hmk := mk_ints R (by omega)
  go_enter Try.func22, Try.ntmps22
  go_wp2_with fail
  refine (HC _ (by simp) (by exact hA.alloc (Nat.le_refl _) _)).mono ?_
  rintro e w1 ⟨rfl, hb⟩
  have hB := (Blk.new w 24 #[.int .i64 R, .int .i64 ring, .int .i64 writes, .int .i64 stamps, .bool multi, .int .i64 tries, .slice A n nc]).below hb (by simp)
  have c0 : w1.cell? ⟨w.heap.size, 0, none⟩ = some (.int .i64 R) := (hB.cell 0).trans rfl
  have c1 : w1.cell? ⟨w.heap.size, 1, none⟩ = some (.int .i64 ring) := (hB.cell 1).trans rfl
  have c2 : w1.cell? ⟨w.heap.size, 2, none⟩ = some (.int .i64 writes) := (hB.cell 2).trans rfl
  have c3 : w1.cell? ⟨w.heap.size, 3, none⟩ = some (.int .i64 stamps) := (hB.cell 3).trans rfl
  have c4 : w1.cell? ⟨w.heap.size, 4, none⟩ = some (.bool multi) := (hB.cell 4).trans rfl
  have c5 : w1.cell? ⟨w.heap.size, 5, none⟩ = some (.int .i64 tries) := (hB.cell 5).trans rfl
  have c6 : w1.cell? ⟨w.heap.size, 6, none⟩ = some (.slice A n nc) := (hB.cell 6).trans rfl
  have hlt := hB.lt
  have hbel1 : Below w.heap.size w w1 := (by refine Below.trans ?_ (hb.mono (by simp)); repeat (first | with_reducible exact Below.refl _ _ | with_reducible refine Below.drew ?_ | with_reducible refine below_drewN ?_ _ | ((with_reducible refine Below.alloc ?_ ?_ _); (rotate_left; focus (first | with_reducible exact Nat.le_refl _ | omega | (simp; done) | (simp; omega) | (simp [World.setCell]; done) | (simp [World.setCell]; omega)))) | ((with_reducible refine Below.setCell ?_ ?_ _); (rotate_left; focus (first | with_reducible exact Nat.le_refl _ | omega | (simp; done) | (simp; omega) | (simp [World.setCell]; done) | (simp [World.setCell]; omega))))))
  have hsz1 := hbel1.size
  have R1 : Reads w1 w1.heap.size 2 A n (rows Reg.cells regs) := (hA.below hbel1).more hsz1
  have R2 : Reads (w1.alloc (.cells (ints (List.replicate R 0)).toArray 2)) (w1.alloc (.cells (ints (List.replicate R 0)).toArray 2)).heap.size 2 A n (rows Reg.cells regs) := (R1.alloc (Nat.le_refl _) _).more (by simp)
  clear HC hb
  go_upto_region 4 with fail
  go_cut [5] from 13 to 19 (fun sv wx => ∃ (s g : Nat) (rv : Option Addr) (rc : Nat × Nat), sv = .pointer (some ⟨s, 0, none⟩) ∧ RIs wx w.heap.size s g rv rc (.slice none 0 0) ⟨R, ring, writes, stamps, multi, tries⟩ regs (List.replicate R 0) [] ∧ Below w.heap.size w wx ∧ Blk wx w.heap.size 24 #[.int .i64 R, .int .i64 ring, .int .i64 writes, .int .i64 stamps, .bool multi, .int .i64 tries, .slice A n nc])
  case first =>
    go_region_with (first | (go_at_call 38; refine (rconfig_any ⟨R, ring, writes, stamps, multi, tries⟩ regs A n nc _ HL.out hn (by first | exact R1 | exact R2)).mono ?_; rintro e w2 ⟨rv, rc, rfl, hown, hb2⟩; have hB2 : Blk w2 w.heap.size 24 #[.int .i64 R, .int .i64 ring, .int .i64 writes, .int .i64 stamps, .bool multi, .int .i64 tries, .slice A n nc] := Blk.below (by first | exact hB | exact hB.alloc _) hb2 (by first | exact hlt | (simp; omega)); have d0 : w2.cell? ⟨w.heap.size, 0, none⟩ = some (.int .i64 R) := (hB2.cell 0).trans rfl; have hlt2 := hB2.lt))
    all_goals
      have hbel2 : Below w.heap.size w w2 := by
        refine Below.trans ?_ (hb2.mono (by first | (simp; done) | (simp; omega) | exact hsz1))
        repeat (first | with_reducible exact hbel1 | with_reducible refine Below.drew ?_ | with_reducible refine below_drewN ?_ _ | ((with_reducible refine Below.alloc ?_ ?_ _); (rotate_left; focus (first | with_reducible exact Nat.le_refl _ | omega | (simp; done) | (simp; omega) | (simp [World.setCell]; done) | (simp [World.setCell]; omega)))) | ((with_reducible refine Below.setCell ?_ ?_ _); (rotate_left; focus (first | with_reducible exact Nat.le_refl _ | omega | (simp; done) | (simp; omega) | (simp [World.setCell]; done) | (simp [World.setCell]; omega)))))
      have hz2 := hbel2.size
      go_wp2_with fail
      go_meet
      first
      | exact ⟨w2.heap.size + 1, w2.heap.size, rv, (rc, R), rfl, RIs.start HL.out (by exact Blk.new' (by simp)) (by exact own_base ((hown.alloc _).alloc _) hsz1) (by exact (Blk.new w2 _ _).alloc _) (by omega) (by omega) hR64, by repeat (first | with_reducible exact hbel2 | with_reducible refine Below.drew ?_ | with_reducible refine below_drewN ?_ _ | ((with_reducible refine Below.alloc ?_ ?_ _); (rotate_left; focus (first | with_reducible exact Nat.le_refl _ | omega | (simp; done) | (simp; omega) | (simp [World.setCell]; done) | (simp [World.setCell]; omega)))) | ((with_reducible refine Below.setCell ?_ ?_ _); (rotate_left; focus (first | with_reducible exact Nat.le_refl _ | omega | (simp; done) | (simp; omega) | (simp [World.setCell]; done) | (simp [World.setCell]; omega))))), by exact (hB2.alloc _).alloc _⟩
      | exact ⟨w2.heap.size, w1.heap.size, rv, (rc, R), rfl, RIs.start HL.out (by exact Blk.new _ _ _) (by exact own_base (hown.alloc _) (by simp; omega)) (by exact (Blk.below (by exact Blk.new w1 _ _) hb2 (by simp)).alloc _) (by omega) (by omega) hR64, by repeat (first | with_reducible exact hbel2 | with_reducible refine Below.drew ?_ | with_reducible refine below_drewN ?_ _ | ((with_reducible refine Below.alloc ?_ ?_ _); (rotate_left; focus (first | with_reducible exact Nat.le_refl _ | omega | (simp; done) | (simp; omega) | (simp [World.setCell]; done) | (simp [World.setCell]; omega)))) | ((with_reducible refine Below.setCell ?_ ?_ _); (rotate_left; focus (first | with_reducible exact Nat.le_refl _ | omega | (simp; done) | (simp; omega) | (simp [World.setCell]; done) | (simp [World.setCell]; omega))))), by exact hB2.alloc _⟩
  case rest =>
    clear c0 c1 c2 c3 c4 c5 c6 R1 R2 hB hmk
    obtain ⟨s, g, rv, rc, rfl, hP0, hbel0, hB0⟩ := hcut
    go_wp2_with fail
    go_loopg [6] n (fun gk i wr => RelM w ⟨R, ring, writes, stamps, multi, tries⟩ regs A nc R n s g rv rc gk i wr)
    case atStart => exact ⟨0, .slice none 0 0, [], rfl, Nat.zero_le _, rfl, hP0, rfl, rfl, hbel0, hB0⟩
    case round =>
      obtain ⟨k, tv, l, rfl, hk, hgk, hP, hll, hlt, hbel, hBr⟩ := hrel
      have HG := Lib.hid hgk
      have HLT := Lib.hid hlt
      have HLL := Lib.hid hll
      have hsl := hP.blk.lt
      have hal := hBr.lt
      have c6 : wr.cell? ⟨w.heap.size, 6, none⟩ = some (.slice A n nc) := (hBr.cell 6).trans rfl
      clear hgk hlt hll
      by_cases hkn : k < n
      · obtain ⟨b, off, rfl, hb, hc⟩ := reads_flat hA (by omega) (by omega)
        obtain ⟨d0, d1⟩ := regs_cell HL.out hc hkn
        have hkl : k < regs.length := by rw [HL.out]; exact hkn
        have hro := HOK.out _ (List.getElem_mem hkl)
        obtain ⟨r, hr⟩ : ∃ r, r = regs[k] := ⟨_, rfl⟩
        rw [← hr] at d0 d1 hro
        have g0 : wr.cell? ⟨b, off + k * 2, none⟩ = some (.int .i64 r.kind) := (hbel.cell (p := ⟨b, off + k * 2, none⟩) (by simp; omega)).trans d0
        have g1 : wr.cell? ⟨b, off + k * 2 + 1, none⟩ = some (.int .i64 r.cap) := (hbel.cell (p := ⟨b, off + k * 2 + 1, none⟩) (by simp; omega)).trans d1
        have hbr : b < wr.heap.size := by have := hbel.size; omega
        have HR := Lib.hid hr
        obtain ⟨h1, h2, h3, h4⟩ := hro
        obtain ⟨kind, cap⟩ := r
        simp only at g0 g1 h1 h2 h3 h4
        obtain ⟨C, rfl⟩ := Int.eq_ofNat_of_zero_le h3
        clear d0 d1 hc hr
        by_cases hk1 : kind = 1
        · subst hk1
          have hmk := mk_ints C (by omega)
          have hP3 := (hP.alloc (.cells #[.int .i64 1, .slice (some ⟨wr.heap.size + 1, 0, none⟩) C C, .slice none 0 0] 52)).alloc (.cells (ints (List.replicate C 0)).toArray 2)
          have hB3 := (hBr.alloc (.cells #[.int .i64 1, .slice (some ⟨wr.heap.size + 1, 0, none⟩) C C, .slice none 0 0] 52)).alloc (.cells (ints (List.replicate C 0)).toArray 2)
          have hT : Blk ((wr.alloc (.cells #[.int .i64 1, .slice (some ⟨wr.heap.size + 1, 0, none⟩) C C, .slice none 0 0] 52)).alloc (.cells (ints (List.replicate C 0)).toArray 2)) wr.heap.size 52 #[.int .i64 1, .slice (some ⟨wr.heap.size + 1, 0, none⟩) C C, .slice none 0 0] := (Blk.new _ _ _).alloc _
          have hV : ThingIs ((wr.alloc (.cells #[.int .i64 1, .slice (some ⟨wr.heap.size + 1, 0, none⟩) C C, .slice none 0 0] 52)).alloc (.cells (ints (List.replicate C 0)).toArray 2)) w.heap.size ⟨thing0 ⟨1, C⟩, .slice (some ⟨wr.heap.size + 1, 0, none⟩) C C, .slice none 0 0⟩ := by
            refine ⟨?_, World.ownsRow_nil _ _ _ _⟩
            have h := World.ownsRow_lit (base := w.heap.size) (e := 2) (size := 1) (wr.alloc (.cells #[.int .i64 1, .slice (some ⟨wr.heap.size + 1, 0, none⟩) C C, .slice none 0 0] 52)) (ints (List.replicate C 0)).toArray C (by have := hbel.size; simp; omega) (by unfold maxLen; omega) (by simp [ints])
            simpa [thing0] using h
          have hsv : ∀ y ∈ l, sep y.vv (.slice (some ⟨wr.heap.size + 1, 0, none⟩) C C) := by
            intro y hy b hb e
            have := ((hP.ls.things y hy).vs.lt b hb).2
            simp [Value.ownBlock] at e
            omega
          have hsr : (Value.slice (some ⟨wr.heap.size + 1, 0, none⟩) C C).ownBlock ≠ some g := by simp [Value.ownBlock]; have := hP.gl; omega
          have hbel3 : Below w.heap.size w ((wr.alloc (.cells #[.int .i64 1, .slice (some ⟨wr.heap.size + 1, 0, none⟩) C C, .slice none 0 0] 52)).alloc (.cells (ints (List.replicate C 0)).toArray 2)) := by have := hbel.size; repeat (first | with_reducible exact hbel | with_reducible refine Below.drew ?_ | with_reducible refine below_drewN ?_ _ | ((with_reducible refine Below.alloc ?_ ?_ _); (rotate_left; focus (first | with_reducible exact Nat.le_refl _ | omega | (simp; done) | (simp; omega) | (simp [World.setCell]; done) | (simp [World.setCell]; omega)))) | ((with_reducible refine Below.setCell ?_ ?_ _); (rotate_left; focus (first | with_reducible exact Nat.le_refl _ | omega | (simp; done) | (simp; omega) | (simp [World.setCell]; done) | (simp [World.setCell]; omega)))))
          go_wp2_with fail
          clear hmk hP c6 g0 g1 hBr
          generalize (wr.alloc (.cells #[.int .i64 1, .slice (some ⟨wr.heap.size + 1, 0, none⟩) C C, .slice none 0 0] 52)).alloc (.cells (ints (List.replicate C 0)).toArray 2) = W3 at *
          obtain ⟨X, hX⟩ : ∃ X : TM, X = ⟨thing0 ⟨1, C⟩, (.slice (some ⟨wr.heap.size + 1, 0, none⟩) C C), .slice none 0 0⟩ := ⟨_, rfl⟩
          have hsl := hP3.blk.lt
          have cs1 : W3.cell? ⟨s, 8, none⟩ = some tv := (hP3.blk.cell 8).trans rfl
          have fs1 : W3.frozen? ⟨s, 8, none⟩ = false := hP3.blk.frozen 8
          have t0 : W3.cell? ⟨wr.heap.size, 0, none⟩ = some (.int .i64 1) := (hT.cell 0).trans rfl
          have t1 : W3.cell? ⟨wr.heap.size, 1, none⟩ = some ((.slice (some ⟨wr.heap.size + 1, 0, none⟩) C C)) := (hT.cell 1).trans rfl
          have t2 : W3.cell? ⟨wr.heap.size, 2, none⟩ = some (.slice none 0 0) := (hT.cell 2).trans rfl
          have HB3C := Lib.hid hB3
          have htl := hT.lt
          have hown := hP3.ls.row
          have ns : tv.ownBlock ≠ some s := fun e => hP3.ls.ne (.inl e) hP3.blk (by decide) (by decide) (by decide) rfl
          have hn1 : l.length + 1 ≤ maxLen := by have := HLL.out; unfold maxLen; omega
          have hnb : (l.length + 1) * 56 ≤ 140737488355328 := by have := HLL.out; omega
          have hs3 : w.heap.size ≤ W3.heap.size := hbel3.size
          have HP3 := Lib.hid hP3
          have HV := Lib.hid hV
          have HSV := Lib.hid hsv
          have HSR := Lib.hid hsr
          have HB3 := Lib.hid hbel3
          have HXX := Lib.hid hX
          clear hP3 hB3 hT hV hsv hsr hbel3 hX
          go_region_law
            ((refine step_append_lies _ (by rfl) _ _ _ (by rfl) w.heap.size 52 i0 _ 3 56 Try.underlying40 hi0 hz0 hz1 hz2 rfl (by omega) tv l.length (rows TM.cells3 l) (by rfl) (show _ from hown.alloc _)
                ⟨W3.heap.size, 0, none⟩ 1 1 [.int .i64 1, (.slice (some ⟨wr.heap.size + 1, 0, none⟩) C C), .slice none 0 0] (by rfl) (by rfl) (World.news_of_block (cs := #[.int .i64 1, (.slice (some ⟨wr.heap.size + 1, 0, none⟩) C C), .slice none 0 0]) (t := 52) (fr := (0, 0)) (heap_alloc_new W3 _)) (by simp [Value.oneCell'])
                (by omega) hn1 hnb (by simp; omega) (W3.heap.size + 1) (by simp) ?_; intro gg cap w2 hown1 hgrow hat hlt2; have fl2 : w2.frozen? ⟨s, 8, none⟩ = false := (hgrow.frozen_far ⟨s, 8, none⟩ (by simp; omega) (Ne.symm ns)).trans ((frozen?_alloc_cells W3 _ _ ⟨s, 8, none⟩).trans fs1); have cl2 : w2.cell? ⟨s, 8, none⟩ = some tv := (hgrow.cell_far ⟨s, 8, none⟩ (by simp; omega) (Ne.symm ns)).trans ((World.cell?_alloc_lt W3 _ ⟨s, 8, none⟩ hsl).trans cs1)))
          all_goals
            have hfin := RIs.snoc (x := X) HP3.out (by rw [HXX.out]; exact HV.out) (by rw [HXX.out]; exact HSV.out) (by rw [HXX.out]; exact HSR.out) (by rw [HXX.out]) (by first | exact below_new | exact below_new.drew | exact below_drewN below_new _) hgrow (by rw [HXX.out]; exact hown1)
            have HFIN := Lib.hid hfin
            clear hfin hgrow hown1 hown
            go_wp2_with fail
            go_roundg (n - (k + 1))
            case measure => have := HG.out; omega
            case rel =>
              refine ⟨k + 1, _, l ++ [X], by go_num, by omega, rfl, HFIN.out.1, by rw [List.length_append, HLL.out]; rfl, ?_, HB3.out.trans HFIN.out.2.1, HFIN.out.2.2 _ _ _ HB3C.out (by decide) (by decide)⟩
              rw [List.map_append, HLT.out, List.take_succ_eq_append_getElem hkl, List.map_append, ← HR.out, HXX.out]
              rfl
        · have e1 : (kind == 1) = false := by simp [hk1]
          have hP3 := hP.alloc (.cells #[.int .i64 kind, .slice none 0 0, .slice none 0 0] 52)
          have hB3 := hBr.alloc (.cells #[.int .i64 kind, .slice none 0 0, .slice none 0 0] 52)
          have hT : Blk (wr.alloc (.cells #[.int .i64 kind, .slice none 0 0, .slice none 0 0] 52)) wr.heap.size 52 #[.int .i64 kind, .slice none 0 0, .slice none 0 0] := Blk.new _ _ _
          have hV : ThingIs (wr.alloc (.cells #[.int .i64 kind, .slice none 0 0, .slice none 0 0] 52)) w.heap.size ⟨thing0 ⟨kind, C⟩, .slice none 0 0, .slice none 0 0⟩ := by
            refine ⟨?_, World.ownsRow_nil _ _ _ _⟩
            simp only [thing0, hk1, if_false]
            exact World.ownsRow_nil _ _ _ _
          have hsv : ∀ y ∈ l, sep y.vv (.slice none 0 0) := by
            intro y hy b hb e
            simp [Value.ownBlock] at e
          have hsr : (Value.slice none 0 0).ownBlock ≠ some g := by simp [Value.ownBlock]
          have hbel3 : Below w.heap.size w (wr.alloc (.cells #[.int .i64 kind, .slice none 0 0, .slice none 0 0] 52)) := by have := hbel.size; repeat (first | with_reducible exact hbel | with_reducible refine Below.drew ?_ | with_reducible refine below_drewN ?_ _ | ((with_reducible refine Below.alloc ?_ ?_ _); (rotate_left; focus (first | with_reducible exact Nat.le_refl _ | omega | (simp; done) | (simp; omega) | (simp [World.setCell]; done) | (simp [World.setCell]; omega)))) | ((with_reducible refine Below.setCell ?_ ?_ _); (rotate_left; focus (first | with_reducible exact Nat.le_refl _ | omega | (simp; done) | (simp; omega) | (simp [World.setCell]; done) | (simp [World.setCell]; omega)))))
          go_wp2_with fail
          clear e1 hP c6 g0 g1 hBr
          generalize wr.alloc (.cells #[.int .i64 kind, .slice none 0 0, .slice none 0 0] 52) = W3 at *
          obtain ⟨X, hX⟩ : ∃ X : TM, X = ⟨thing0 ⟨kind, C⟩, (.slice none 0 0), .slice none 0 0⟩ := ⟨_, rfl⟩
          have hsl := hP3.blk.lt
          have cs1 : W3.cell? ⟨s, 8, none⟩ = some tv := (hP3.blk.cell 8).trans rfl
          have fs1 : W3.frozen? ⟨s, 8, none⟩ = false := hP3.blk.frozen 8
          have t0 : W3.cell? ⟨wr.heap.size, 0, none⟩ = some (.int .i64 kind) := (hT.cell 0).trans rfl
          have t1 : W3.cell? ⟨wr.heap.size, 1, none⟩ = some ((.slice none 0 0)) := (hT.cell 1).trans rfl
          have t2 : W3.cell? ⟨wr.heap.size, 2, none⟩ = some (.slice none 0 0) := (hT.cell 2).trans rfl
          have HB3C := Lib.hid hB3
          have htl := hT.lt
          have hown := hP3.ls.row
          have ns : tv.ownBlock ≠ some s := fun e => hP3.ls.ne (.inl e) hP3.blk (by decide) (by decide) (by decide) rfl
          have hn1 : l.length + 1 ≤ maxLen := by have := HLL.out; unfold maxLen; omega
          have hnb : (l.length + 1) * 56 ≤ 140737488355328 := by have := HLL.out; omega
          have hs3 : w.heap.size ≤ W3.heap.size := hbel3.size
          have HP3 := Lib.hid hP3
          have HV := Lib.hid hV
          have HSV := Lib.hid hsv
          have HSR := Lib.hid hsr
          have HB3 := Lib.hid hbel3
          have HXX := Lib.hid hX
          clear hP3 hB3 hT hV hsv hsr hbel3 hX
          go_region_law
            ((refine step_append_lies _ (by rfl) _ _ _ (by rfl) w.heap.size 52 i0 _ 3 56 Try.underlying40 hi0 hz0 hz1 hz2 rfl (by omega) tv l.length (rows TM.cells3 l) (by rfl) (show _ from hown.alloc _)
                ⟨W3.heap.size, 0, none⟩ 1 1 [.int .i64 kind, (.slice none 0 0), .slice none 0 0] (by rfl) (by rfl) (World.news_of_block (cs := #[.int .i64 kind, (.slice none 0 0), .slice none 0 0]) (t := 52) (fr := (0, 0)) (heap_alloc_new W3 _)) (by simp [Value.oneCell'])
                (by omega) hn1 hnb (by simp; omega) (W3.heap.size + 1) (by simp) ?_; intro gg cap w2 hown1 hgrow hat hlt2; have fl2 : w2.frozen? ⟨s, 8, none⟩ = false := (hgrow.frozen_far ⟨s, 8, none⟩ (by simp; omega) (Ne.symm ns)).trans ((frozen?_alloc_cells W3 _ _ ⟨s, 8, none⟩).trans fs1); have cl2 : w2.cell? ⟨s, 8, none⟩ = some tv := (hgrow.cell_far ⟨s, 8, none⟩ (by simp; omega) (Ne.symm ns)).trans ((World.cell?_alloc_lt W3 _ ⟨s, 8, none⟩ hsl).trans cs1)))
          all_goals
            have hfin := RIs.snoc (x := X) HP3.out (by rw [HXX.out]; exact HV.out) (by rw [HXX.out]; exact HSV.out) (by rw [HXX.out]; exact HSR.out) (by rw [HXX.out]) (by first | exact below_new | exact below_new.drew | exact below_drewN below_new _) hgrow (by rw [HXX.out]; exact hown1)
            have HFIN := Lib.hid hfin
            clear hfin hgrow hown1 hown
            go_wp2_with fail
            go_roundg (n - (k + 1))
            case measure => have := HG.out; omega
            case rel =>
              refine ⟨k + 1, _, l ++ [X], by go_num, by omega, rfl, HFIN.out.1, by rw [List.length_append, HLL.out]; rfl, ?_, HB3.out.trans HFIN.out.2.1, HFIN.out.2.2 _ _ _ HB3C.out (by decide) (by decide)⟩
              rw [List.map_append, HLT.out, List.take_succ_eq_append_getElem hkl, List.map_append, ← HR.out, HXX.out]
              rfl
      · obtain rfl : k = n := by omega
        go_wp2_with fail
        go_ret2
        refine ⟨s, rfl, g, rv, rc.1, rc.2, tv, l, hP, ?_, hbel⟩
        rw [HLT.out, List.take_of_length_le (by rw [HL.out]; exact Nat.le_refl _)]
end Go.Proofs.Ytpmpgnhbpneloaa
