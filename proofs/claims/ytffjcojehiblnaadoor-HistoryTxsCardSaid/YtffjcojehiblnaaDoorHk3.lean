/- Final at two transactions: the sort by stamps. -/
import Derived.Test.YtffjcojehiblnaaDoorHk2
namespace Go.Proofs.YtffjcojehiblnaaDoor
open Go.RowKit Go.Joins Go.ChangeShapes Go.WideShapes Go.Deep
set_option linter.unusedVariables false
set_option linter.unusedSimpArgs false
set_option maxRecDepth 100000

set_option maxHeartbeats 400000 in
theorem fcmp_any {w : World} {base : Nat} {x y : TxM} (hx : TxAt w base x) (hy : TxAt w base y) : Calls Tryd.prog 25 #[.pointer (some ⟨x.g, 0, none⟩), .pointer (some ⟨y.g, 0, none⟩)] w fun r w' => r = .returned (.int .i64 (cmp3 x.t.stamp y.t.stamp)) ∧ ∃ k, w' = w.drewN k := by
  have c3 : w.cell? ⟨x.g, 3, none⟩ = some (.int .i64 x.t.stamp) := (hx.blk.cell 3).trans rfl
  have d3 : w.cell? ⟨y.g, 3, none⟩ = some (.int .i64 y.t.stamp) := (hy.blk.cell 3).trans rfl
  clear hx hy
  go_enter Tryd.func25, Tryd.ntmps25
  go_wp2_with fail
  go_quiet (exact Calls.quiet_of_same (cmp64_any _ _ _))
  go_wp2
  go_ret
  exact ⟨rfl, _, rfl⟩
/-- Two pointers that lie wrong change places. -/
structure PtrS (rb ro gx gy : Nat) (w : World) : Prop where
  x : w.cell? ⟨rb, ro, none⟩ = some (.pointer (some ⟨gx, 0, none⟩))
  y : w.cell? ⟨rb, ro + 1, none⟩ = some (.pointer (some ⟨gy, 0, none⟩))
theorem PtrS.below {rb ro gx gy : Nat} {w w' : World} (h : PtrS rb ro gx gy w) (hb : Below w.heap.size w w') : PtrS rb ro gx gy w' :=
  ⟨(hb.cell (World.block_lt_of_cell? w _ h.x)).trans h.x, (hb.cell (World.block_lt_of_cell? w _ h.y)).trans h.y⟩
set_option maxHeartbeats 1000000 in
theorem pins_two {w : World} {base rb ro cc : Nat} {x y : TxM} (hS : PtrS rb ro x.g y.g w) (hf : ∀ i, w.frozen? ⟨rb, i, none⟩ = false) (hx : TxAt w base x) (hy : TxAt w base y) (hp : y.t.stamp < x.t.stamp) :
    Calls Tryd.prog 53 #[.slice (some ⟨rb, ro, none⟩) 2 cc, .int .i64 0, .int .i64 2, .func (.func 25) #[] #[]] w fun r w' => r = .returned (.tuple #[]) ∧ ∃ k j, w' = (((w.drewN k).setCell ⟨rb, ro + 1, none⟩ (.pointer (some ⟨x.g, 0, none⟩))).setCell ⟨rb, ro, none⟩ (.pointer (some ⟨y.g, 0, none⟩))).drewN j := by
  have HC := Lib.hid (fcmp_any (w := w.drew) hy.drew hx.drew)
  have HS0 := Lib.hid hS
  have hc : cmp3 y.t.stamp x.t.stamp = -1 := by unfold cmp3; rw [if_pos hp]
  rw [hc] at HC
  clear hx hy hS hc hp
  have h1 : ∀ W, PtrS rb ro x.g y.g W → W.cell? ⟨rb, ro, none⟩ = some (.pointer (some ⟨x.g, 0, none⟩)) := fun W h => h.x
  have h2 : ∀ W, PtrS rb ro x.g y.g W → W.cell? ⟨rb, ro + 1, none⟩ = some (.pointer (some ⟨y.g, 0, none⟩)) := fun W h => h.y
  go_enter Tryd.func53, Tryd.ntmps53
  go_wp2_with fail
  refine wp_loop_rounds 2 ?_
  rw [rounds_succ]
  go_wp2_with fail
  refine wp_loop_rounds 2 ?_
  rw [rounds_succ]
  go_wp2_with fail
  go_region_held (PtrS rb ro x.g y.g) (first | exact ⟨HS0.out.x, HS0.out.y⟩) ((go_at_call 25; refine HC.out.mono ?_; rintro r w1 ⟨hr, k1, hw1⟩; subst hr; subst hw1))
  go_wp2_with fail
  refine wp_world fun W2 hW2 => ?_
  have q0 : W2.cell? ⟨rb, ro, none⟩ = some (.pointer (some ⟨x.g, 0, none⟩)) := by rw [hW2]; exact HS0.out.x
  have q1 : W2.cell? ⟨rb, ro + 1, none⟩ = some (.pointer (some ⟨y.g, 0, none⟩)) := by rw [hW2]; exact HS0.out.y
  have qf : ∀ i, W2.frozen? ⟨rb, i, none⟩ = false := fun i => by rw [hW2]; exact hf i
  have HW := Lib.hid hW2
  clear hW2 HC HS0 h1 h2 hf
  go_region
  go_wp2_with fail
  rw [rounds_succ]
  go_wp2_with fail
  go_quiet (fail)
  go_wp2_with fail
  rw [rounds_succ]
  go_wp2_with fail
  go_end0
  have e := HW.out
  subst e
  exact ⟨rfl, _, 1 + nq, by rw [← World.drewN_drewN]⟩
theorem sort_two {w : World} {base rb ro cc : Nat} {x y : TxM} (hS : PtrS rb ro x.g y.g w) (hf : ∀ i, w.frozen? ⟨rb, i, none⟩ = false) (hx : TxAt w base x) (hy : TxAt w base y) (hp : y.t.stamp < x.t.stamp) :
    Calls Tryd.prog 24 #[.slice (some ⟨rb, ro, none⟩) 2 cc, .func (.func 25) #[] #[]] w fun r w' => r = .returned (.tuple #[]) ∧ ∃ k j, w' = (((w.drewN k).setCell ⟨rb, ro + 1, none⟩ (.pointer (some ⟨x.g, 0, none⟩))).setCell ⟨rb, ro, none⟩ (.pointer (some ⟨y.g, 0, none⟩))).drewN j := by
  have H := Lib.hid (pins_two (cc := cc) hS hf hx hy hp)
  clear hS hx hy hp hf
  have HPD : Hid (∀ li : Int, Calls Tryd.prog 40 #[.slice (some ⟨rb, ro, none⟩) 2 cc, .int .i64 0, .int .i64 2, .int .i64 li, .func (.func 25) #[] #[]] w fun r w' => r = .returned (.tuple #[]) ∧ ∃ k j, w' = (((w.drewN k).setCell ⟨rb, ro + 1, none⟩ (.pointer (some ⟨x.g, 0, none⟩))).setCell ⟨rb, ro, none⟩ (.pointer (some ⟨y.g, 0, none⟩))).drewN j) := by
    refine Lib.hid fun li => ?_
    go_enter Tryd.func40, Tryd.ntmps40
    go_wp2_with fail
    refine wp_loop_rounds 1 ?_
    rw [rounds_succ]
    go_wp2_with (go_at_call 53; refine H.out.mono ?_; rintro r w1 ⟨hr, k1, j1, hw1⟩; subst hr)
    refine bodyPost_ret (results_none rfl _ _ _) rfl ?_
    exact ⟨rfl, _, _, rfl⟩
  have HLEN : Hid (∀ W, Calls Tryd.prog 41 #[.int .u64 2] W fun r w' => r = .returned (.int .i64 2) ∧ w' = W) := by
    refine Lib.hid fun W => ?_
    go_enter Tryd.func41, Tryd.ntmps41
    go_wp2
    go_ret
    exact ⟨by kernel_rfl, rfl⟩
  go_enter Tryd.func24, Tryd.ntmps24
  go_wp2_with (first
    | (go_at_call 41; refine (HLEN.out _).mono ?_; rintro r w1 ⟨hr, hw⟩; subst hr; subst hw)
    | (go_at_call 40; refine (HPD.out _).mono ?_; rintro r w1 ⟨hr, k1, j1, hw1⟩; subst hr))
  go_end0
  exact ⟨rfl, _, _, rfl⟩
end Go.Proofs.YtffjcojehiblnaaDoor
