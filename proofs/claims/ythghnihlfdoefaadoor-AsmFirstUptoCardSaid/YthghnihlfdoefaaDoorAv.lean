/- carouselref14: Words; what Print of the document leans on. -/
import Derived.Test.YthghnihlfdoefaaDoorAu
namespace Go.Proofs.YthghnihlfdoefaaDoor
open Go.RowKit Go.Joins Go.ChangeShapes Go.WideShapes Go.Deep Go.Maps Go.Sort
set_option linter.unusedVariables false
set_option linter.unusedSimpArgs false
set_option maxRecDepth 100000

set_option maxHeartbeats 1000000 in
theorem rwords_any (w : World) : Calls Tryd.prog 27 #[] w fun e w' => e = .returned (.slice (some ⟨w.heap.size, 0, none⟩) 41 41) ∧ w' = w.alloc (.cells wordV.toArray 9) := by
  go_enter Tryd.func27, Tryd.ntmps27
  go_wp2
  go_ret
  exact ⟨rfl, rfl⟩
theorem info_int : (Tryd.prog.info? 3).map (fun i => (i.zero, i.size, i.bytes)) = some (some (.int .i64 0), 1, 8) := by kernel_rfl
theorem info_bool : (Tryd.prog.info? 4).map (fun i => (i.zero, i.size, i.bytes)) = some (some (.bool false), 1, 1) := by kernel_rfl
theorem made_bools (n x : Nat) (h : x < n) : (madeCells #[.bool false] n)[x]? = some (.bool false) := by
  rw [← Array.getElem?_toList, toList_madeCells_one, List.getElem?_replicate, if_pos h]
theorem made_size (n : Nat) : (madeCells #[.bool false] n).size = n := by rw [← Array.length_toList, toList_madeCells_one, List.length_replicate]
theorem mk_bools (m : Nat) (hm : m ≤ 1000000) (W : World) : (Instr.makeSlice 55 (.int .i64 ((m : Int) + 1)) (.int .i64 ((m : Int) + 1))).run Tryd.prog W = .ok (.slice (some ⟨W.heap.size, 0, none⟩) (m + 1) (m + 1)) (W.alloc (.cells (madeCells #[.bool false] (m + 1)) 4)) := by
  obtain ⟨i0, hi0, hz0, hz1, hz2⟩ := info_parts info_bool
  have := run_make (P := Tryd.prog) W 55 4 i0 _ Tryd.underlying55 hi0 hz0 .i64 .i64 ((m : Int) + 1) ((m : Int) + 1) (by omega) (Int.le_refl _) (by rw [hz2]; omega) (by omega)
  rw [hz1, show ((m : Int) + 1).toNat = m + 1 by omega, Nat.mul_one] at this
  exact this
/-- The marks, as cells. -/
def MarkIs (L : List AOp) (m z mb : Nat) (W : World) : Prop := ∃ cs, Blk W mb 4 cs ∧ ∀ k : Nat, k ≤ z → cs[k]? = some (.bool (markF L m (k : Int)))
theorem MarkIs.made (L : List AOp) (z : Nat) (W : World) : MarkIs L 0 z W.heap.size (W.alloc (.cells (madeCells #[.bool false] (z + 1)) 4)) :=
  ⟨_, Blk.new W _ _, fun k hk => made_bools _ _ (by omega)⟩
theorem MarkIs.none_ {L : List AOp} {m z mb : Nat} {W : World} (h : MarkIs L m z mb W) (ht : tgtAt L m = none) : MarkIs L (m + 1) z mb W := by
  obtain ⟨cs, h1, h2⟩ := h
  exact ⟨cs, h1, fun k hk => by rw [markF_none L m ht]; exact h2 k hk⟩
theorem MarkIs.some_ {L : List AOp} {m z mb t : Nat} {W : World} (h : MarkIs L m z mb W) (ht : tgtAt L m = some (t : Int)) (htz : t ≤ z) : MarkIs L (m + 1) z mb (W.setCell ⟨mb, t, none⟩ (.bool true)) := by
  obtain ⟨cs, h1, h2⟩ := h
  refine ⟨_, h1.set_ t _, fun k hk => ?_⟩
  rw [Array.getElem?_setIfInBounds, markF_some L m ht]
  have hsz : t < cs.size := (Array.getElem?_eq_some_iff.1 (h2 t htz)).1
  by_cases e : t = k
  · subst e
    simp [hsz]
  · rw [if_neg e, h2 k hk]
    have : ((k : Int) == (t : Int)) = false := by simp; omega
    rw [this, Bool.or_false]
theorem MarkIs.kept {L : List AOp} {m z mb : Nat} {W W' : World} (h : MarkIs L m z mb W) (hk : W'.heap[mb]? = W.heap[mb]?) : MarkIs L m z mb W' := by
  obtain ⟨cs, h1, h2⟩ := h
  exact ⟨cs, hk.trans h1, h2⟩
theorem MarkIs.cell {L : List AOp} {m z mb : Nat} {W : World} (h : MarkIs L m z mb W) (k : Nat) (hk : k ≤ z) : W.cell? ⟨mb, k, none⟩ = some (.bool (markF L m (k : Int))) ∧ W.frozen? ⟨mb, k, none⟩ = false ∧ mb < W.heap.size := by
  obtain ⟨cs, h1, h2⟩ := h
  exact ⟨(h1.cell k).trans (h2 k hk), h1.frozen k, h1.lt⟩
end Go.Proofs.YthghnihlfdoefaaDoor
