/- What the Copy of a plain state is. -/
import Derived.Test.YtpmpgnhbpneloaaRf
import Derived.Deep.Cut
namespace Go.Proofs.Ytpmpgnhbpneloaa
open Go.RowKit Go.Joins Go.ChangeShapes Go.WideShapes Go.Deep
set_option linter.unusedVariables false
set_option maxRecDepth 100000
theorem grown_of_drew {a w : World} {row : Option Nat} (h : a.drew.grownBy w row) : a.grownBy w row := ⟨h.os, h.tape, h.output, h.size, h.block⟩

theorem PIs.snoc2 {W3 W4 w2 : World} {base s g : Nat} {tv tv' : Value} {raw : List Int} {l : List TM} {x : TM} (h : PIs W3 base s g tv raw l) (hx : ThingIs W3 base x) (hsv : ∀ y ∈ l, sep y.vv x.vv) (hsp : ∀ y ∈ l, sep y.pv x.pv) (hsr : x.vv.ownBlock ≠ some g)
    (hb : Below W3.heap.size W3 W4) (hgrow : W4.grownBy w2 tv.ownBlock) (hown : w2.ownsRow base 71 4 tv' (l.length + 1) (rows TM.cells l ++ x.cells)) :
    PIs (w2.setCell ⟨s, 1, none⟩ tv') base s g tv' raw (l ++ [x]) ∧ Below base W3 (w2.setCell ⟨s, 1, none⟩ tv') := by
  have hW := h.below hb
  have hx4 : ThingIs W4 base x := hx.keep fun b hb' => hb.block b (by
    rcases hb' with e | e
    · exact (hx.vs.lt b e).2
    · exact (hx.ps.lt b e).2)
  have ns : tv.ownBlock ≠ some s := fun e => hW.ls.ne (.inl e) hW.blk (by decide) (by decide) (by decide) rfl
  have ng : tv.ownBlock ≠ some g := own_blk_ne hW.ls.row hW.rawb (by decide)
  have hsg : g ≠ s := hW.rawb.ne_ hW.blk (by decide)
  have hl2 := hW.ls.snoc hx4 hsv hsp (by decide) (by decide) hgrow hown
  have hs2 := hW.blk.grown hgrow (fun e => ns e.symm)
  refine ⟨⟨hs2.set_ 1 tv', (hW.rawb.grown hgrow (fun e => ng e.symm)).far (p := ⟨s, 1, none⟩) hsg _, hl2.far (p := ⟨s, 1, none⟩) (fun b hb => hl2.ne hb hs2 (by decide) (by decide) (by decide)) _, ?_, h.b0, h.b1⟩, ?_⟩
  · intro y hy
    rcases List.mem_append.1 hy with hy | hy
    · exact h.sepr y hy
    · simp at hy
      subst hy
      exact hsr
  · refine Below.setCell ?_ h.b0 _
    have hsz := h.blk.lt
    have hb0 := h.b0
    exact (hb.mono (by omega)).trans ⟨hgrow.os, hgrow.tape, hgrow.output, hgrow.size, fun q hq => hgrow.block q (by have := hb.size; omega) (fun e => by have := (hW.ls.row.lt q e.symm).1; omega)⟩
theorem pcopy_snoc {w W w3 : World} {s g L bv bp nv np : Nat} {kind most : Int} {o : Obj} {tv tv' : Value} {raw : List Int} {lv : List TM} {x : TS} (hP : PIs W w.heap.size s g tv raw lv) (hBv : Blk W bv 2 (ints x.values).toArray) (hBp : Blk W bp 54 (prs x.pairs).toArray)
    (HLB : ∀ b, PBlk s g tv lv b → b < L) (hv : L < bv) (hp : L < bp) (hBL : w.heap.size ≤ L) (e0 : kind = x.kind) (e3 : most = x.most) (e1 : nv = x.values.length) (e2 : np = x.pairs.length) (l1 : nv ≤ 16) (l2 : np ≤ 16) (hbx : Below w.heap.size w W)
    (hg : (W.alloc o).grownBy w3 tv.ownBlock) (hr : w3.ownsRow w.heap.size 71 4 tv' (lv.length + 1) (rows TM.cells lv ++ [.int .i64 kind, .int .i64 most, .slice (some ⟨bv, 0, none⟩) nv nv, .slice (some ⟨bp, 0, none⟩) np np])) :
    ∃ X : TM, X.t = x ∧ PIs (w3.setCell ⟨s, 1, none⟩ tv') w.heap.size s g tv' raw (lv ++ [X]) ∧ Below w.heap.size w (w3.setCell ⟨s, 1, none⟩ tv') := by
  subst e0 e3
  have h := hP.snoc2 (x := ⟨x, .slice (some ⟨bv, 0, none⟩) nv nv, .slice (some ⟨bp, 0, none⟩) np np⟩) (W4 := W.alloc o) (thing_new hBv hBp (by omega) (by omega) e1 e2 l1 l2) (fun y hy b hb e => by
      have := HLB b (.inr (.inr (.inr ⟨y, hy, .inl hb⟩)))
      have : bv = b := by simpa [Value.ownBlock] using e
      omega) (fun y hy b hb e => by
      have := HLB b (.inr (.inr (.inr ⟨y, hy, .inr hb⟩)))
      have : bp = b := by simpa [Value.ownBlock] using e
      omega) (fun e => by
      have := HLB g (.inr (.inl rfl))
      have : bv = g := by simpa [Value.ownBlock] using e
      omega) below_new hg hr
  exact ⟨_, rfl, h.1, hbx.trans h.2⟩

theorem PIs.drew1 {w : World} {base s g : Nat} {tv : Value} {raw : List Int} {l : List TM} (h : PIs w base s g tv raw l) : PIs w.drew base s g tv raw l := h.keep rfl rfl fun _ _ => rfl
def CopyMeet (w wx : World) (s g L nv np : Nat) (kind most : Int) (tv : Value) (raw : List Int) (lv : List TM) (x : TS) : Prop := ∃ bv bp, L < bv ∧ L < bp ∧ Blk wx bv 2 (ints x.values).toArray ∧ Blk wx bp 54 (prs x.pairs).toArray ∧ PIs wx w.heap.size s g tv raw lv ∧ Below w.heap.size w wx ∧ Blk wx L 71 #[.int .i64 kind, .int .i64 most, .slice (some ⟨bv, 0, none⟩) nv nv, .slice (some ⟨bp, 0, none⟩) np np]
theorem meet_a {w w2 : World} {s g L bv bp nv np : Nat} {kind most : Int} {u1 u2 tv : Value} {raw : List Int} {lv : List TM} {x : TS} (h1 : L < bv) (h2 : L < bp) (hv : Blk w2 bv 2 (ints x.values).toArray) (hp : Blk w2 bp 54 (prs x.pairs).toArray) (hP : PIs w2 w.heap.size s g tv raw lv) (HLB : ∀ b, PBlk s g tv lv b → b < L) (hbx : Below w.heap.size w w2) (hBL : w.heap.size ≤ L)
    (hB : Blk w2 L 71 #[.int .i64 kind, .int .i64 most, u1, u2]) : CopyMeet w ((w2.setCell ⟨L, 2, none⟩ (.slice (some ⟨bv, 0, none⟩) nv nv)).setCell ⟨L, 3, none⟩ (.slice (some ⟨bp, 0, none⟩) np np)) s g L nv np kind most tv raw lv x := by
  refine ⟨bv, bp, h1, h2, (hv.far (p := ⟨L, 2, none⟩) (by simp; omega) _).far (p := ⟨L, 3, none⟩) (by simp; omega) _, (hp.far (p := ⟨L, 2, none⟩) (by simp; omega) _).far (p := ⟨L, 3, none⟩) (by simp; omega) _, ?_, (hbx.setCell (p := ⟨L, 2, none⟩) hBL _).setCell (p := ⟨L, 3, none⟩) hBL _, ?_⟩
  · refine hP.frm (S := fun q => q = L) ⟨rfl, rfl, rfl, by simp [World.setCell], fun q hq hn => ?_⟩ fun b hb e => by have := HLB b hb; omega
    exact (Below.heap_setCell _ ⟨L, 3, none⟩ _ q hn).trans (Below.heap_setCell _ ⟨L, 2, none⟩ _ q hn)
  · simpa using (hB.set_ 2 (.slice (some ⟨bv, 0, none⟩) nv nv)).set_ 3 (.slice (some ⟨bp, 0, none⟩) np np)
theorem meet_b {w w2 : World} {s g L bv bp nv np : Nat} {kind most : Int} {u1 u2 tv : Value} {raw : List Int} {lv : List TM} {x : TS} (h1 : L < bv) (h2 : L < bp) (hv : Blk w2 bv 2 (ints x.values).toArray) (hp : Blk w2 bp 54 (prs x.pairs).toArray) (hP : PIs w2 w.heap.size s g tv raw lv) (HLB : ∀ b, PBlk s g tv lv b → b < L) (hbx : Below w.heap.size w w2) (hBL : w.heap.size ≤ L)
    (hB : Blk w2 L 71 #[.int .i64 kind, .int .i64 most, u1, u2]) : CopyMeet w ((w2.setCell ⟨L, 3, none⟩ (.slice (some ⟨bp, 0, none⟩) np np)).setCell ⟨L, 2, none⟩ (.slice (some ⟨bv, 0, none⟩) nv nv)) s g L nv np kind most tv raw lv x := by
  refine ⟨bv, bp, h1, h2, (hv.far (p := ⟨L, 3, none⟩) (by simp; omega) _).far (p := ⟨L, 2, none⟩) (by simp; omega) _, (hp.far (p := ⟨L, 3, none⟩) (by simp; omega) _).far (p := ⟨L, 2, none⟩) (by simp; omega) _, ?_, (hbx.setCell (p := ⟨L, 3, none⟩) hBL _).setCell (p := ⟨L, 2, none⟩) hBL _, ?_⟩
  · refine hP.frm (S := fun q => q = L) ⟨rfl, rfl, rfl, by simp [World.setCell], fun q hq hn => ?_⟩ fun b hb e => by have := HLB b hb; omega
    exact (Below.heap_setCell _ ⟨L, 2, none⟩ _ q hn).trans (Below.heap_setCell _ ⟨L, 3, none⟩ _ q hn)
  · simpa using (hB.set_ 3 (.slice (some ⟨bp, 0, none⟩) np np)).set_ 2 (.slice (some ⟨bv, 0, none⟩) nv nv)

def PCopyPost (w : World) (raw : List Int) (ts : List TS) : Ending → World → Prop := fun e w' => ∃ s2 g2 tv2 l2, e = .returned (.pointer (some ⟨s2, 0, none⟩)) ∧ PIs w' w.heap.size s2 g2 tv2 raw l2 ∧ l2.map TM.t = ts ∧ Below w.heap.size w w'

theorem info_th : (Try.prog.info? 71).map (fun i => (i.zero, i.size, i.bytes)) = some (some (.agg #[.int .i64 0, .int .i64 0, .slice none 0 0, .slice none 0 0]), 4, 64) := by kernel_rfl

set_option maxHeartbeats 4000000 in
theorem pcopy_any (s g base : Nat) (tv : Value) (raw : List Int) (l : List TM) (w : World) (h : PIs w base s g tv raw l) (hl8 : l.length ≤ 8) (hok : AllOk (l.map TM.t)) (hr64 : raw.length ≤ 64) :
    Calls Try.prog 14 #[.pointer (some ⟨s, 0, none⟩)] w (PCopyPost w raw (l.map TM.t)) := by
  obtain ⟨V, vc, hvv, hvc, hV⟩ := own_shapes h.ls.row
  have c1 : w.cell? ⟨s, 1, none⟩ = some (.slice V l.length vc) := by rw [← hvv]; exact (h.blk.cell 1).trans rfl
  have HCEL : Hid (∀ k (hk : k < l.length), ∃ T, V = some ⟨T, 0, none⟩ ∧ T < w.heap.size ∧ Cel w base T (k * 4 + 2) (k * 4 + 3) l[k] ∧ w.cell? ⟨T, k * 4, none⟩ = some (.int .i64 l[k].t.kind) ∧ w.cell? ⟨T, k * 4 + 1, none⟩ = some (.int .i64 l[k].t.most)) := Lib.hid fun k hk => by
    obtain ⟨T, cap, htv, hcel, ck, cm, hTl⟩ := h.cel hk
    rw [hvv] at htv
    injection htv with e1 e2 e3
    exact ⟨T, e1, hTl, hcel, ck, cm⟩
  obtain ⟨n, hn⟩ : ∃ n, n = l.length := ⟨_, rfl⟩
  have HN := Lib.hid hn
  have hsl := h.blk.lt
  rw [← hn] at c1 hl8
  obtain ⟨i0, hi0, hz0, hz1, hz2⟩ := info_parts info_th
  have HOK := Lib.hid hok
  have HRAW := Lib.hid (raw_any s g raw.length raw w hr64 rfl ((h.blk.cell 0).trans rfl) h.rawb)
  have HL : Hid (raw.length = raw.length) := Lib.hid rfl
  obtain ⟨rl, hrl⟩ : ∃ rl, rl = raw.length := ⟨_, rfl⟩
  rw [← hrl] at HRAW
  have HRL := Lib.hid hrl
  clear h hvv hV hok hn hvc hrl HL
  go_enter Try.func14, Try.ntmps14
  go_wp2_with fail
  refine HRAW.out.mono ?_
  rintro e w1 ⟨rfl, hrb, hb1⟩
  have hs1 := hb1.size
  have c1a : w1.cell? ⟨s, 1, none⟩ = some (.slice V n vc) := (hb1.cell (p := ⟨s, 1, none⟩) hsl).trans c1
  have hsl1 : s < w1.heap.size := Nat.lt_of_lt_of_le hsl hs1
  have HRB := Lib.hid hrb
  have HB1 := Lib.hid hb1
  clear hrb hb1 c1
  go_wp2_with fail
  have hP0 : PIs (w1.alloc (.cells #[.slice (some ⟨w.heap.size, 0, none⟩) rl rl, .slice none 0 0] 68)) w.heap.size w1.heap.size w.heap.size (.slice none 0 0) raw [] := by
    refine ⟨?_, HRB.out.alloc _, LIs.nil, by simp, hs1, Nat.le_refl _⟩
    rw [← HRL.out]
    exact Blk.new _ _ _
  have hbel0 : Below w.heap.size w (w1.alloc (.cells #[.slice (some ⟨w.heap.size, 0, none⟩) rl rl, .slice none 0 0] 68)) := HB1.out.alloc hs1 _
  have HP0 := Lib.hid hP0
  have HBEL0 := Lib.hid hbel0
  clear hP0 hbel0
  go_loopg [17] n (fun gk i wr => ∃ (k : Nat) (tv2 : Value) (lv : List TM), i = .int .i64 k ∧ k ≤ n ∧ gk = n - k ∧ PIs wr w.heap.size w1.heap.size w.heap.size tv2 raw lv ∧ lv.length = k ∧ lv.map TM.t = (l.take k).map TM.t ∧ Below w.heap.size w wr)
  case atStart => exact ⟨0, _, [], rfl, Nat.zero_le _, rfl, HP0.out, rfl, rfl, HBEL0.out⟩
  case round =>
    obtain ⟨k, tv2, lv, rfl, hk, hgk, hP, hll, hlt, hbel⟩ := hrel
    have HG := Lib.hid hgk
    have HLL := Lib.hid hll
    have HLT := Lib.hid hlt
    clear hgk hlt hll
    by_cases hkn : k < n
    · have hkl : k < l.length := by rw [← HN.out]; exact hkn
      obtain ⟨T, rfl, hTl, hcel, ck, cm⟩ := HCEL.out k hkl
      obtain ⟨x, hx⟩ : ∃ x, x = l[k] := ⟨_, rfl⟩
      rw [← hx] at hcel ck cm
      have hxok : TOk x.t := HOK.out _ (List.mem_map.2 ⟨x, by rw [hx]; exact List.getElem_mem hkl, rfl⟩)
      obtain ⟨A1, a1, hv1, ha1, hR1⟩ := own_shapes hcel.th.vs
      obtain ⟨A2, a2, hv2, ha2, hR2⟩ := own_shapes hcel.th.ps
      have hn1 := hxok.lv
      have hn2 := hxok.lp
      have cv := hcel.cv
      have cp := hcel.cp
      rw [hv1] at cv
      rw [hv2] at cp
      obtain ⟨kind, hkind⟩ : ∃ q, q = x.t.kind := ⟨_, rfl⟩
      obtain ⟨most, hmost⟩ : ∃ q, q = x.t.most := ⟨_, rfl⟩
      obtain ⟨nv, hnv⟩ : ∃ q, q = x.t.values.length := ⟨_, rfl⟩
      obtain ⟨np, hnp⟩ : ∃ q, q = x.t.pairs.length := ⟨_, rfl⟩
      rw [← hkind] at ck
      rw [← hmost] at cm
      rw [← hnv] at cv hn1 hR1
      rw [← hnp] at cp hn2 hR2
      have g0 : wr.cell? ⟨T, k * 4, none⟩ = some (.int .i64 kind) := (hbel.cell (p := ⟨T, k * 4, none⟩) hTl).trans ck
      have g1 : wr.cell? ⟨T, k * 4 + 1, none⟩ = some (.int .i64 most) := (hbel.cell (p := ⟨T, k * 4 + 1, none⟩) hTl).trans cm
      have g2 : wr.cell? ⟨T, k * 4 + 2, none⟩ = some (.slice A1 nv a1) := (hbel.cell (p := ⟨T, k * 4 + 2, none⟩) hTl).trans cv
      have g3 : wr.cell? ⟨T, k * 4 + 3, none⟩ = some (.slice A2 np a2) := (hbel.cell (p := ⟨T, k * 4 + 3, none⟩) hTl).trans cp
      have hTw : T < wr.heap.size := by have := hbel.size; omega
      have HV : Hid (∀ W, Below w.heap.size w W → Calls Try.prog 24 #[.slice A1 nv a1] W (ListPost W nv 2 (ints x.t.values))) := Lib.hid fun W hW =>
        (copied_any A1 nv a1 W.heap.size x.t.values W (by omega) (Nat.le_refl _) ((hR1.below hW).more hW.size)).mono fun e w' h => ⟨_, h.1, h.2.1, Nat.le_refl _, h.2.2⟩
      have HPP : Hid (∀ W, Below w.heap.size w W → Calls Try.prog 26 #[.slice A2 np a2] W (ListPost W np 54 (prs x.t.pairs))) := Lib.hid fun W hW =>
        (copiedp_any A2 np a2 W.heap.size x.t.pairs W (by omega) (Nat.le_refl _) ((hR2.below hW).more hW.size)).mono fun e w' h => ⟨_, h.1, h.2.1, Nat.le_refl _, h.2.2⟩
      have HX : Hid (kind = x.t.kind ∧ most = x.t.most ∧ nv = x.t.values.length ∧ np = x.t.pairs.length ∧ x = l[k]) := Lib.hid ⟨hkind, hmost, hnv, hnp, hx⟩
      have hB5 := Blk.new wr 71 #[.int .i64 kind, .int .i64 most, .slice A1 nv a1, .slice A2 np a2]
      have hL1 := hP.alloc (.cells #[.int .i64 kind, .int .i64 most, .slice A1 nv a1, .slice A2 np a2] 71)
      have hbx : Below w.heap.size w (wr.alloc (.cells #[.int .i64 kind, .int .i64 most, .slice A1 nv a1, .slice A2 np a2] 71)) := hbel.alloc hbel.size _
      have hm1 : lv.length + 1 ≤ maxLen := by have := HLL.out; unfold maxLen; omega
      have hnb : (lv.length + 1) * 64 ≤ 140737488355328 := by have := HLL.out; omega
      have HLB : Hid (∀ b, PBlk w1.heap.size w.heap.size tv2 lv b → b < wr.heap.size) := Lib.hid fun b hb => (hP.in_ hb).2
      have hBL := hbel.size
      clear ck cm cv cp hcel hxok hR1 hR2 hkind hmost hnv hnp hx hv1 hv2 ha1 ha2 hP hbel
      go_wp2_with fail
      generalize wr.alloc (.cells #[.int .i64 kind, .int .i64 most, .slice A1 nv a1, .slice A2 np a2] 71) = W1 at *
      have c52 : W1.cell? ⟨wr.heap.size, 2, none⟩ = some (.slice A1 nv a1) := (hB5.cell 2).trans rfl
      have c53 : W1.cell? ⟨wr.heap.size, 3, none⟩ = some (.slice A2 np a2) := (hB5.cell 3).trans rfl
      have hlt5 := hB5.lt
      clear g0 g1 g2 g3
      have f52 : W1.frozen? ⟨wr.heap.size, 2, none⟩ = false := hB5.frozen 2
      have f53 : W1.frozen? ⟨wr.heap.size, 3, none⟩ = false := hB5.frozen 3
      go_cut [5] from 21 to 28 (fun sv wx => sv = .pointer (some ⟨wr.heap.size, 0, none⟩) ∧ CopyMeet w wx w1.heap.size w.heap.size wr.heap.size nv np kind most tv2 raw lv x.t)
      case first =>
        go_region_law (first
          | (go_simp; go_at_call 24; refine (HV.out _ (by first | exact hbx | exact hbx.drew | exact below_drewN hbx _)).mono ?_; rintro e w2 ⟨bv, rfl, hBv, hbv, hb2⟩; have hbv := Nat.lt_of_lt_of_le hlt5 hbv; (try (have hBp := hBp.below hb2 hBp.lt)); have hbx2 : Below w.heap.size w w2 := (by first | exact hbx.trans (hb2.mono hbx.size) | exact hbx.drew.trans (hb2.mono hbx.size) | exact (below_drewN hbx _).trans (hb2.mono hbx.size)); have hB6 : Blk w2 wr.heap.size 71 #[.int .i64 kind, .int .i64 most, .slice A1 nv a1, .slice A2 np a2] := (by first | exact hB5.below hb2 hB5.lt | exact hB5.drew.below hb2 hB5.lt | exact (hB5.drewN _).below hb2 hB5.lt); have hL2 : PIs w2 w.heap.size w1.heap.size w.heap.size tv2 raw lv := (by first | exact hL1.below hb2 | exact hL1.drew1.below hb2 | exact (hL1.drewN _).below hb2); clear c52 c53 f52 f53 hlt5 hbx hL1 hB5; have hbx := hbx2; have hB5 := hB6; have hL1 := hL2; have c52 : w2.cell? ⟨wr.heap.size, 2, none⟩ = some (.slice A1 nv a1) := (hB5.cell 2).trans rfl; have c53 : w2.cell? ⟨wr.heap.size, 3, none⟩ = some (.slice A2 np a2) := (hB5.cell 3).trans rfl; have f52 : w2.frozen? ⟨wr.heap.size, 2, none⟩ = false := hB5.frozen 2; have f53 : w2.frozen? ⟨wr.heap.size, 3, none⟩ = false := hB5.frozen 3; have hlt5 := hB5.lt; clear hbx2 hB6 hL2)
          | (go_simp; go_at_call 26; refine (HPP.out _ (by first | exact hbx | exact hbx.drew | exact below_drewN hbx _)).mono ?_; rintro e w2 ⟨bp, rfl, hBp, hbp, hb2⟩; have hbp := Nat.lt_of_lt_of_le hlt5 hbp; (try (have hBv := hBv.below hb2 hBv.lt)); have hbx2 : Below w.heap.size w w2 := (by first | exact hbx.trans (hb2.mono hbx.size) | exact hbx.drew.trans (hb2.mono hbx.size) | exact (below_drewN hbx _).trans (hb2.mono hbx.size)); have hB6 : Blk w2 wr.heap.size 71 #[.int .i64 kind, .int .i64 most, .slice A1 nv a1, .slice A2 np a2] := (by first | exact hB5.below hb2 hB5.lt | exact hB5.drew.below hb2 hB5.lt | exact (hB5.drewN _).below hb2 hB5.lt); have hL2 : PIs w2 w.heap.size w1.heap.size w.heap.size tv2 raw lv := (by first | exact hL1.below hb2 | exact hL1.drew1.below hb2 | exact (hL1.drewN _).below hb2); clear c52 c53 f52 f53 hlt5 hbx hL1 hB5; have hbx := hbx2; have hB5 := hB6; have hL1 := hL2; have c52 : w2.cell? ⟨wr.heap.size, 2, none⟩ = some (.slice A1 nv a1) := (hB5.cell 2).trans rfl; have c53 : w2.cell? ⟨wr.heap.size, 3, none⟩ = some (.slice A2 np a2) := (hB5.cell 3).trans rfl; have f52 : w2.frozen? ⟨wr.heap.size, 2, none⟩ = false := hB5.frozen 2; have f53 : w2.frozen? ⟨wr.heap.size, 3, none⟩ = false := hB5.frozen 3; have hlt5 := hB5.lt; clear hbx2 hB6 hL2))
        all_goals
          go_wp2_with fail
          go_meet
          first
          | exact ⟨rfl, meet_a hbv hbp hBv hBp hL1 HLB.out hbx hBL hB5⟩
          | exact ⟨rfl, meet_b hbv hbp hBv hBp hL1 HLB.out hbx hBL hB5⟩
      case rest =>
        obtain ⟨rfl, bv, bp, hbv, hbp, hBv, hBp, hPx, hbx3, hB6⟩ := hcut
        clear c52 c53 f52 f53 hlt5 hB5 hL1 hbx
        have hsl3 := hPx.blk.lt
        have cs1 : wc.cell? ⟨w1.heap.size, 1, none⟩ = some tv2 := (hPx.blk.cell 1).trans rfl
        have fs1 : wc.frozen? ⟨w1.heap.size, 1, none⟩ = false := hPx.blk.frozen 1
        have t0 : wc.cell? ⟨wr.heap.size, 0, none⟩ = some (.int .i64 kind) := (hB6.cell 0).trans rfl
        have t1 : wc.cell? ⟨wr.heap.size, 1, none⟩ = some (.int .i64 most) := (hB6.cell 1).trans rfl
        have t2 : wc.cell? ⟨wr.heap.size, 2, none⟩ = some (.slice (some ⟨bv, 0, none⟩) nv nv) := (hB6.cell 2).trans rfl
        have t3 : wc.cell? ⟨wr.heap.size, 3, none⟩ = some (.slice (some ⟨bp, 0, none⟩) np np) := (hB6.cell 3).trans rfl
        have htl := hB6.lt
        have hown := hPx.ls.row
        have ns : tv2.ownBlock ≠ some w1.heap.size := fun e => hPx.ls.ne (.inl e) hPx.blk (by decide) (by decide) (by decide) rfl
        have hs3 : w.heap.size ≤ wc.heap.size := hbx3.size
        go_wp2_with fail
        go_region_law
          ((refine step_append_lies _ (by rfl) _ _ _ (by rfl) w.heap.size 71 i0 _ 4 64 Try.underlying66 hi0 hz0 hz1 hz2 rfl (by omega) tv2 lv.length (rows TM.cells lv) (by rfl) (show _ from hown.alloc _)
              ⟨wc.heap.size, 0, none⟩ 1 1 [.int .i64 kind, .int .i64 most, .slice (some ⟨bv, 0, none⟩) nv nv, .slice (some ⟨bp, 0, none⟩) np np] (by rfl) (by rfl) (World.news_of_block (cs := #[.int .i64 kind, .int .i64 most, .slice (some ⟨bv, 0, none⟩) nv nv, .slice (some ⟨bp, 0, none⟩) np np]) (t := 71) (fr := (0, 0)) (heap_alloc_new wc _)) (by simp [Value.oneCell'])
              (by omega) hm1 hnb (by simp; omega) (wc.heap.size + 1) (by simp) ?_; intro gg cap w2 hown1 hgrow hat hlt2; have fl2 : w2.frozen? ⟨w1.heap.size, 1, none⟩ = false := (hgrow.frozen_far ⟨w1.heap.size, 1, none⟩ (by simp; omega) (Ne.symm ns)).trans ((frozen?_alloc_cells wc _ _ ⟨w1.heap.size, 1, none⟩).trans fs1); have cl2 : w2.cell? ⟨w1.heap.size, 1, none⟩ = some tv2 := (hgrow.cell_far ⟨w1.heap.size, 1, none⟩ (by simp; omega) (Ne.symm ns)).trans ((World.cell?_alloc_lt wc _ ⟨w1.heap.size, 1, none⟩ hsl3).trans cs1)))
        all_goals
          have hfin := pcopy_snoc hPx hBv hBp HLB.out hbv hbp hBL HX.out.1 HX.out.2.1 HX.out.2.2.1 HX.out.2.2.2.1 hn1 hn2 hbx3 (by first | exact hgrow | exact grown_of_drew hgrow) hown1
          have HFIN := Lib.hid hfin
          clear hfin hgrow hown1 hPx hBv hBp hbx3 hB6 cs1 fs1 t0 t1 t2 t3 hat hown
          go_wp2_with fail
          go_roundg (n - (k + 1))
          case measure => have := HG.out; omega
          case rel =>
            obtain ⟨X, hX, hLX, hbX⟩ := HFIN.out
            refine ⟨k + 1, _, lv ++ [X], by go_num, by omega, rfl, hLX, by rw [List.length_append, HLL.out]; rfl, ?_, hbX⟩
            rw [List.map_append, HLT.out, List.take_succ_eq_append_getElem hkl, List.map_append, ← HX.out.2.2.2.2]
            simp [hX]
    · obtain rfl : k = n := by omega
      go_wp2_with fail
      go_ret
      exact ⟨_, _, _, lv, rfl, hP, by rw [HLT.out, List.take_of_length_le (by rw [← HN.out]; exact Nat.le_refl _)], hbel⟩
end Go.Proofs.Ytpmpgnhbpneloaa
