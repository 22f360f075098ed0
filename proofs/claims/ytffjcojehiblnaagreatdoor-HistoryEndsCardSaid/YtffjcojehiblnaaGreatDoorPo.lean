/- slices.Sort at two ints, 0 and 1 in either order. -/
import Derived.Test.YtffjcojehiblnaaGreatDoorPn
import Derived.RangeFuncBox
import Derived.RangeFuncLeaves
import Derived.RangeFuncNested
import Derived.RangeFuncCalls
import Derived.Shelf.Abstract
import Derived.WalkKit
import Derived.OwnWalkIn
import Derived.TacticsInMore
import Derived.LoopNIn
import Derived.LoopIn
import Derived.Maps.AppendAt
namespace Go.Proofs.YtffjcojehiblnaaGreatDoor
open Go.RowKit Go.Joins Go.ChangeShapes Go.WideShapes Go.Deep
set_option linter.unusedVariables false
set_option linter.unusedSimpArgs false
set_option maxRecDepth 100000

theorem less_any (a b : Int) (w : World) : Calls Tryz.prog 85 #[.int .i64 a, .int .i64 b] w fun r w' => r = .returned (.bool (decide (a < b))) ∧ w' = w := by
  go_enter Tryz.func85, Tryz.ntmps85
  go_wp2
  go_ret
  exact ⟨rfl, rfl⟩
set_option maxHeartbeats 1000000 in
theorem iso_right {w : World} {g c : Nat} (h0 : w.cell? ⟨g, 0, none⟩ = some (.int .i64 0)) (h1 : w.cell? ⟨g, 1, none⟩ = some (.int .i64 1)) :
    Calls Tryz.prog 79 #[.slice (some ⟨g, 0, none⟩) 2 c, .int .i64 0, .int .i64 2] w fun r w' => r = .returned (.tuple #[]) ∧ w'.cell? ⟨g, 0, none⟩ = some (.int .i64 0) ∧ w'.cell? ⟨g, 1, none⟩ = some (.int .i64 1) ∧ ∀ B, B ≤ g → Below B w w' := by
  have HL : Hid (∀ W, Calls Tryz.prog 85 #[.int .i64 1, .int .i64 0] W fun r w' => r = .returned (.bool false) ∧ w' = W) := Lib.hid (less_any 1 0)
  go_enter Tryz.func79, Tryz.ntmps79
  go_wp2_with fail
  refine wp_loop_rounds 2 ?_
  rw [rounds_succ]
  go_wp2_with fail
  refine wp_loop_rounds 1 ?_
  rw [rounds_succ]
  go_wp2_with fail
  go_quiet (exact Calls.quiet_of_same (HL.out _))
  go_wp2_with fail
  rw [rounds_succ]
  go_wp2_with fail
  go_end0
  exact ⟨rfl, h0, h1, fun B _ => below_drewN (Below.refl _ _) _⟩
set_option maxHeartbeats 1000000 in
theorem iso_wrong {w : World} {g c : Nat} {cs : Array Value} (hG : Blk w g 3 cs) (e0 : cs[0]? = some (.int .i64 1)) (e1 : cs[1]? = some (.int .i64 0)) :
    Calls Tryz.prog 79 #[.slice (some ⟨g, 0, none⟩) 2 c, .int .i64 0, .int .i64 2] w fun r w' => r = .returned (.tuple #[]) ∧ w'.cell? ⟨g, 0, none⟩ = some (.int .i64 0) ∧ w'.cell? ⟨g, 1, none⟩ = some (.int .i64 1) ∧ ∀ B, B ≤ g → Below B w w' := by
  have h0 : w.cell? ⟨g, 0, none⟩ = some (.int .i64 1) := (hG.cell 0).trans e0
  have h1 : w.cell? ⟨g, 1, none⟩ = some (.int .i64 0) := (hG.cell 1).trans e1
  have hf : ∀ i, w.frozen? ⟨g, i, none⟩ = false := hG.frozen
  have HG := Lib.hid hG
  have HE := Lib.hid (And.intro e0 e1)
  clear hG e0 e1
  have HL : Hid (∀ W, Calls Tryz.prog 85 #[.int .i64 0, .int .i64 1] W fun r w' => r = .returned (.bool true) ∧ w' = W) := Lib.hid (less_any 0 1)
  go_enter Tryz.func79, Tryz.ntmps79
  go_wp2_with fail
  refine wp_loop_rounds 2 ?_
  rw [rounds_succ]
  go_wp2_with fail
  refine wp_loop_rounds 2 ?_
  rw [rounds_succ]
  go_wp2_with fail
  go_quiet (exact Calls.quiet_of_same (HL.out _))
  go_wp2_with fail
  refine wp_world fun W2 hW2 => ?_
  have q0 : W2.cell? ⟨g, 0, none⟩ = some (.int .i64 1) := by rw [hW2]; exact h0
  have q1 : W2.cell? ⟨g, 1, none⟩ = some (.int .i64 0) := by rw [hW2]; exact h1
  have qf : ∀ i, W2.frozen? ⟨g, i, none⟩ = false := fun i => by rw [hW2]; exact hf i
  have HB : Hid (∀ B, Below B w W2) := Lib.hid fun B => by rw [hW2]; exact below_drewN (Below.refl _ _) _
  have HG2 : Hid (Blk W2 g 3 cs) := Lib.hid (by rw [hW2]; exact HG.out.drewN _)
  clear hW2 h0 h1 hf HL HG
  go_region
  go_wp2_with fail
  rw [rounds_succ]
  go_wp2_with fail
  go_quiet (fail)
  go_wp2_with fail
  rw [rounds_succ]
  go_wp2_with fail
  go_end0
  have l0 : 1 < cs.size := by
    have h := HE.out.2
    rcases Nat.lt_or_ge 1 cs.size with hh | hh
    · exact hh
    · rw [Array.getElem?_eq_none hh] at h; simp at h
  refine ⟨rfl, ((((HG2.out.set_ 1 (.int .i64 1)).set_ 0 (.int .i64 0)).drewN _).cell 0).trans (by rw [Array.getElem?_setIfInBounds, if_pos rfl, if_pos (by rw [Array.size_setIfInBounds]; omega)]), ((((HG2.out.set_ 1 (.int .i64 1)).set_ 0 (.int .i64 0)).drewN _).cell 1).trans (by rw [Array.getElem?_setIfInBounds, Array.getElem?_setIfInBounds]; simp [l0]), fun B hB => below_drewN (Below.setCell (Below.setCell (HB.out B) hB _) hB _) _⟩
/-- slices.Sort at two ints, 0 and 1 in either order. -/
theorem sort_ints {w : World} {g c : Nat} {a b : Int} {cs : Array Value} (hB : Blk w g 3 cs) (e0 : cs[0]? = some (.int .i64 a)) (e1 : cs[1]? = some (.int .i64 b)) (hab : a = 0 ∧ b = 1 ∨ a = 1 ∧ b = 0) :
    Calls Tryz.prog 67 #[.slice (some ⟨g, 0, none⟩) 2 c] w fun r w' => r = .returned (.tuple #[]) ∧ w'.cell? ⟨g, 0, none⟩ = some (.int .i64 0) ∧ w'.cell? ⟨g, 1, none⟩ = some (.int .i64 1) ∧ ∀ B, B ≤ g → Below B w w' := by
  have HI : Hid (Calls Tryz.prog 79 #[.slice (some ⟨g, 0, none⟩) 2 c, .int .i64 0, .int .i64 2] w fun r w' => r = .returned (.tuple #[]) ∧ w'.cell? ⟨g, 0, none⟩ = some (.int .i64 0) ∧ w'.cell? ⟨g, 1, none⟩ = some (.int .i64 1) ∧ ∀ B, B ≤ g → Below B w w') := by
    refine Lib.hid ?_
    rcases hab with ⟨rfl, rfl⟩ | ⟨rfl, rfl⟩
    · exact iso_right ((hB.cell 0).trans e0) ((hB.cell 1).trans e1)
    · exact iso_wrong hB e0 e1
  clear hB hab e0 e1
  have HPD : Hid (∀ li : Int, Calls Tryz.prog 76 #[.slice (some ⟨g, 0, none⟩) 2 c, .int .i64 0, .int .i64 2, .int .i64 li] w fun r w' => r = .returned (.tuple #[]) ∧ w'.cell? ⟨g, 0, none⟩ = some (.int .i64 0) ∧ w'.cell? ⟨g, 1, none⟩ = some (.int .i64 1) ∧ ∀ B, B ≤ g → Below B w w') := by
    refine Lib.hid fun li => ?_
    go_enter Tryz.func76, Tryz.ntmps76
    go_wp2_with fail
    refine wp_loop_rounds 1 ?_
    rw [rounds_succ]
    go_wp2_with (go_at_call 79; refine HI.out.mono ?_; rintro r w1 ⟨hr, hw1⟩; subst hr)
    refine bodyPost_ret (results_none rfl _ _ _) rfl ?_
    exact ⟨rfl, hw1⟩
  have HLEN : Hid (∀ W, Calls Tryz.prog 38 #[.int .u64 2] W fun r w' => r = .returned (.int .i64 2) ∧ w' = W) := by
    refine Lib.hid fun W => ?_
    go_enter Tryz.func38, Tryz.ntmps38
    go_wp2
    go_ret
    exact ⟨by kernel_rfl, rfl⟩
  go_enter Tryz.func67, Tryz.ntmps67
  go_wp2_with (first
    | (go_at_call 38; refine (HLEN.out _).mono ?_; rintro r w1 ⟨hr, hw⟩; subst hr; subst hw)
    | (go_at_call 76; refine (HPD.out _).mono ?_; rintro r w1 ⟨hr, hw1⟩; subst hr))
  go_end0
  exact ⟨rfl, hw1⟩
end Go.Proofs.YtffjcojehiblnaaGreatDoor

/- slices.Values over a list of ints, gathered: slices.AppendSeq, slices.Collect, slices.Sorted at two ints. -/
namespace Go.Proofs.YtffjcojehiblnaaGreatDoor
open Go.RowKit Go.Shelf
set_option linter.unusedVariables false
set_option linter.unusedSimpArgs false
set_option maxRecDepth 100000
attribute [local go_sem] Oper.semAt_some

/-- What has come when k rounds are over. -/
def upto {α : Type} (f : Nat → α) (k : Nat) : List α := (List.range k).map f
theorem upto_succ {α : Type} (f : Nat → α) (k : Nat) : upto f (k + 1) = upto f k ++ [f k] := by simp [upto, List.range_succ]
theorem upto_length {α : Type} (f : Nat → α) (k : Nat) : (upto f k).length = k := by simp [upto]
theorem upto_all (zs : List Int) : upto (fun j => zs[j]?.getD 0) zs.length = zs := by
  apply List.ext_getElem
  · simp [upto]
  · intro i h1 h2
    simp [upto, h2]
theorem upto_take (zs : List Int) {k : Nat} (hk : k ≤ zs.length) : upto (fun j => zs[j]?.getD 0) k = zs.take k := by
  apply List.ext_getElem
  · simp [upto, hk]
  · intro i h1 h2
    have : i < zs.length := by simp [upto] at h1; omega
    simp [upto, this]

set_option maxHeartbeats 2000000 in
/-- slices.Values's closure, for every loop body that keeps what lay below n₀. -/
theorem vals1_in (F : Fence) (n : Nat) (h7 : F.fn 68) (hro : F.round = none) (hn : 1 ≤ n) (l Bs n₀ b off len cap : Nat) (zs : List Int) (hreach : len * 8 ≤ 140737488351232) (hb : b < n₀) (J Jx : List Int → World → Prop)
    (hY : ∀ pre x W, J pre W → pre.length < len → YieldAt F (n - 1) Tryz.prog l #[.int .i64 x] W fun e W' =>
      (e = .returned (.bool true) ∧ J (pre ++ [x]) W' ∧ Below n₀ W W') ∨ (e = .returned (.bool false) ∧ Jx (pre ++ [x]) W'))
    (W : World) (hBs : W.cell? ⟨Bs, 0, none⟩ = some (.slice (some ⟨b, off, none⟩) len cap)) (hc : ∀ j, j < len → W.cell? ⟨b, off + j, none⟩ = some (.int .i64 (zs[j]?.getD 0))) (h0 : J [] W) :
    CallsIn F n Tryz.prog 68 #[.func (.yield l) #[] #[], .pointer (some ⟨Bs, 0, none⟩)] W fun e W' => (∃ v, e = .returned v) ∧
      ((∃ ys, ys = upto (fun j => zs[j]?.getD 0) len ∧ J ys W') ∨ (∃ pre, (∃ k, k ≤ len ∧ pre = upto (fun j => zs[j]?.getD 0) k) ∧ Jx pre W')) := by
  refine callsIn_of_wp Tryz.func68 rfl h7 ?_ hro
  simp only [Tryz.ntmps68, List.size_toArray, List.length_cons, List.length_nil, Nat.reduceAdd, Nat.reduceSub, Array.replicate_succ, Array.replicate_zero, List.push_toArray, List.append_toArray, List.nil_append, List.cons_append]
  gi_wp2
  gi_loopw [7] (fun i wr => ∃ k : Nat, k ≤ len ∧ i = .int .i64 k ∧ J (upto (fun j => zs[j]?.getD 0) k) wr ∧ Below n₀ W wr)
    (fun i _ => len - (intOf i).toNat)
  case atStart => exact ⟨0, Nat.zero_le _, rfl, h0, Below.refl _ _⟩
  case round =>
    obtain ⟨k, hk, rfl, hJs, hnx⟩ := hrel
    have hcx : k < len → wr.cell? ⟨b, off + k, none⟩ = some (.int .i64 (zs[k]?.getD 0)) := fun h => (hnx.cell (p := ⟨b, off + k, none⟩) hb).trans (hc k h)
    by_cases hlt : k < len
    · obtain ⟨fn, tmps, assign, body, hy, hR⟩ := hY _ (zs[k]?.getD 0) wr hJs (by rw [upto_length]; exact hlt)
      have hcx' := hcx hlt
      gi_wp2
      refine hR.mono ?_
      rintro e W3 (⟨rfl, hJ3, hk3⟩ | ⟨rfl, hJx3⟩)
      · gi_wp2
        go_roundw
        case rel => exact ⟨k + 1, by omega, by simp, by rw [upto_succ]; exact hJ3, hnx.trans hk3⟩
        case measure => simp [intOf]; omega
      · gi_wp2
        refine bodyPost_ret (results_none rfl _ _ _) rfl ?_
        exact ⟨⟨_, rfl⟩, .inr ⟨_, ⟨k + 1, by omega, (upto_succ _ _).symm⟩, hJx3⟩⟩
    · obtain rfl : k = len := by omega
      gi_wp2
      go_end0
      exact ⟨⟨_, rfl⟩, .inl ⟨_, rfl, hJs⟩⟩
/-- The slice that slices.Values has boxed hands on all of it, in order. -/
theorem vals_stops (F : Fence) (n : Nat) (h7 : F.fn 68) (hro : F.round = none) (hn : 1 ≤ n) (Bs n₀ b off cap : Nat) (zs : List Int) (hreach : zs.length * 8 ≤ 140737488351232) (w : World) (hBs : Bs < w.heap.size) (hn₀ : n₀ ≤ w.heap.size)
    (hc : w.cell? ⟨Bs, 0, none⟩ = some (.slice (some ⟨b, off, none⟩) zs.length cap)) (hb : b < n₀) (hcs : ∀ j, j < zs.length → w.cell? ⟨b, off + j, none⟩ = some (.int .i64 (zs[j]?.getD 0))) :
    SeqStopsK F n Tryz.prog 68 #[.pointer (some ⟨Bs, 0, none⟩)] (fun x : Int => #[Value.int .i64 x]) (Below n₀) (fun ys => ys = zs) (fun pre => pre <+: zs) zs.length w := fun l J Jx W hW _ _ hY h0 => by
  have hc' := (hW.cell (p := ⟨Bs, 0, none⟩) hBs).trans hc
  refine (vals1_in F n h7 hro hn l Bs n₀ b off zs.length cap zs hreach hb J Jx hY W hc' (fun j hj => ((hW.mono hn₀).cell (p := ⟨b, off + j, none⟩) hb).trans (hcs j hj)) h0).mono ?_
  rintro e W' ⟨he, ⟨ys, rfl, hj⟩ | ⟨pre, ⟨k, hk, rfl⟩, hj⟩⟩
  · exact ⟨he, .inl ⟨_, upto_all zs, hj⟩⟩
  · exact ⟨he, .inr ⟨_, by rw [upto_take zs hk]; exact List.take_prefix _ _, hj⟩⟩
theorem info_i : (Tryz.prog.info? 3).map (fun i => (i.zero, i.size, i.bytes)) = some (some (.int .i64 0), 1, 8) := by kernel_rfl

set_option maxHeartbeats 2000000 in
/-- slices.AppendSeq at no list and slices.Values's closure: a new list of the same ints. -/
theorem aseq_in (n : Nat) (hn : 3 ≤ n) (Bs b off cap : Nat) (zs : List Int) (hreach : zs.length * 8 ≤ 140737488351232) (w : World) (hBs : Bs < w.heap.size)
    (hcB : w.cell? ⟨Bs, 0, none⟩ = some (.slice (some ⟨b, off, none⟩) zs.length cap)) (hb : b < w.heap.size) (hcs : ∀ j, j < zs.length → w.cell? ⟨b, off + j, none⟩ = some (.int .i64 (zs[j]?.getD 0))) :
    CallsIn Fence.wide n Tryz.prog 75 #[.slice none 0 0, .func (.func 68) #[] #[.pointer (some ⟨Bs, 0, none⟩)]] w fun e W' =>
      ∃ v, e = .returned v ∧ W'.ownsRow w.heap.size 3 1 v zs.length (zs.map (Value.int .i64)) ∧ Below w.heap.size w W' := by
  have h1 : 1 ≤ n := by omega
  have hm1 : zs.length ≤ maxLen := by unfold maxLen; omega
  obtain ⟨i0, hi, hz0, hz1, hz2⟩ := info_parts info_i
  refine callsIn_of_wp_marks Tryz.func75 rfl trivial ?_ rfl
  simp only [Tryz.ntmps75, List.size_toArray, List.length_cons, List.length_nil, Nat.reduceAdd, Nat.reduceSub, Array.replicate_succ, Array.replicate_zero, List.push_toArray, List.append_toArray, List.nil_append, List.cons_append]
  gi_wp2
  have bO := Boxed.new w 24 (.slice none 0 0)
  have hB0 : Below w.heap.size w (w.alloc (.cells #[.slice none 0 0] 24)) := (Below.refl _ w).alloc (Nat.le_refl _) _
  refine wpIn_rangeFunc_ownG rfl h1 (gf := 68) (lb := #[.pointer (some ⟨Bs, 0, none⟩)]) rfl trivial (enters_of Tryz.func68 (by kernel_rfl) rfl)
    (vals_stops Fence.wide (n - 1) trivial rfl (by omega) Bs w.heap.size b off cap zs hreach _ (by simp; omega) (by simp) ((hB0.cell (p := ⟨Bs, 0, none⟩) hBs).trans hcB) hb (fun j hj => (hB0.cell (p := ⟨b, off + j, none⟩) hb).trans (hcs j hj))) belowK_t (belowK_b (by simp)) (Below.refl _ _) (fun _ => rfl)
    (fun pre W => (∃ v, Boxed W w.heap.size 24 v ∧ W.ownsRow w.heap.size 3 1 v pre.length (pre.map (Value.int .i64)) ∧ (v = .slice none 0 0 ↔ pre = [])) ∧ Below w.heap.size w W)
    (fun _ _ _ => False)
    (OwnFrom.and (Own.from (holdsRow_own w.heap.size w.heap.size 24 3 1 (fun pre => pre.length) (fun pre => pre.map (Value.int .i64)) (fun pre v => v = .slice none 0 0 ↔ pre = [])) _) (ownFrom_below (Nat.le_refl _) (by simp)))
    (fun _ _ _ _ _ hs _ _ => hs)
    ⟨⟨_, bO, World.ownsRow_nil _ _ _ _, by simp⟩, hB0⟩
    (fun x => { tmps := #[.slice none 0 0, .func (.func 68) #[] #[.pointer (some ⟨Bs, 0, none⟩)], .pointer (some ⟨w.heap.size, 0, none⟩), undef, .slice none 0 0, .int .i64 x, .func (.func 68) #[] #[.pointer (some ⟨Bs, 0, none⟩)], .int .i64 x, undef, undef, undef, undef, undef], defers := [] }) ?assign ?body ?done ?stop
  case assign =>
    intro l x W K hK
    gi_wp2
    exact hK
  case body =>
    rintro l pre x W ⟨⟨v, hv, hrow, hnil⟩, hB⟩ hlt
    have hc := hv.cell
    gi_wp2_with (gi_at_builtin; refine wpListIn_append_own _ rfl _ _ 24 rfl w.heap.size 3 i0 (.int .i64 0) 1 8 Tryz.underlying24 hi hz0 hz1 hz2 rfl (by decide) _ _ _ rfl (hrow.alloc _) ⟨W.heap.size, 0, none⟩ 1 1 [.int .i64 x] rfl rfl (cell_one_new _ _ _) (by simp [Value.oneCell']) (by omega) (by omega) (by have := hB.size; simp; omega) ?_; intro v' w1 hown' hgrow _; obtain ⟨g', cap', rfl⟩ := ownsRow_succ hown'; obtain ⟨hv1, hv2, hr2, hk2, hb2⟩ := hv.appended (by decide) hrow hB.size (Nat.le_refl _) hown' hgrow; have hc1 := hv1.cell; have hf1 := hv1.frozen)
    exact ⟨hk2.from _, hb2, ⟨_, hv2, by simpa using hr2, by simp⟩, hB.trans hb2⟩
  case done =>
    rintro D ys W hD rfl ⟨⟨v, hv, hrow, hnil⟩, hB⟩ hK
    have hc := hv.cell
    gi_wp2
    refine ⟨by simp, .inl ⟨_, _, rfl, run_takeDeferred hK, ?_⟩⟩
    exact ⟨_, results_tmp rfl _ _ _, v, rfl, ownsRow_putObj hrow _ hK rfl, hB.trans (belowK_b (w := w) (Nat.le_refl _) W D _ _ (by simp at hD; omega) hK rfl rfl)⟩
  case stop =>
    rintro D c pre W _ _ h _
    exact h.elim
/-- slices.Collect of the same. -/
theorem collect_any (Bs b off cap : Nat) (zs : List Int) (hreach : zs.length * 8 ≤ 140737488351232) (w : World) (hBs : Bs < w.heap.size)
    (hcB : w.cell? ⟨Bs, 0, none⟩ = some (.slice (some ⟨b, off, none⟩) zs.length cap)) (hb : b < w.heap.size) (hcs : ∀ j, j < zs.length → w.cell? ⟨b, off + j, none⟩ = some (.int .i64 (zs[j]?.getD 0))) :
    Calls Tryz.prog 66 #[.func (.func 68) #[] #[.pointer (some ⟨Bs, 0, none⟩)]] w fun e W' =>
      ∃ v, e = .returned v ∧ W'.ownsRow w.heap.size 3 1 v zs.length (zs.map (Value.int .i64)) ∧ Below w.heap.size w W' := by
  have HA := Lib.hid (callsIn_wide.1 (aseq_in 3 (Nat.le_refl _) Bs b off cap zs hreach w hBs hcB hb hcs))
  clear hcs hb hcB hBs hreach
  go_enter Tryz.func66, Tryz.ntmps66
  go_wp2_with (go_at_call 75; refine HA.out.mono ?_; rintro r w2 ⟨v, hr, hown, hb2⟩; subst hr)
  go_ret
  exact ⟨v, rfl, hown, hb2⟩
/-- slices.Sorted over slices.Values of 0 and 1 in either order. -/
theorem sorts_ok : SortsOK := by
  intro w og oc a b hB hab W hW
  have hb0 : Below W.heap.size W (W.alloc (.cells #[.slice (some ⟨og, 0, none⟩) 2 oc] 24)) := (Below.refl _ W).alloc (Nat.le_refl _) _
  have hog := hB.lt
  have hWs := hW.size
  have hB1 : Blk W og 3 #[.int .i64 a, .int .i64 b] := hB.below hW hog
  have hB2 := hB1.below hb0 (by omega)
  have HC := Lib.hid (collect_any W.heap.size og 0 oc [a, b] (by simp) (W.alloc (.cells #[.slice (some ⟨og, 0, none⟩) 2 oc] 24)) (by simp) ((Blk.new W _ _).cell 0) (by simp; omega) (fun j hj => by
    match j, hj with
    | 0, _ => exact (hB2.cell 0).trans rfl
    | 1, _ => exact (hB2.cell 1).trans rfl))
  have HB0 := Lib.hid hb0
  clear hB1 hB2 hB hW hog hWs hb0
  go_enter Tryz.func47, Tryz.ntmps47
  go_wp2_with (first
    | (go_at_call 66; refine HC.out.mono ?_; rintro r w2 ⟨v, hr, hown, hb2⟩; subst hr; obtain ⟨g, cap, cs, hv, hgb, hBk, -, -, -, htk⟩ := (hown.2.resolve_left (by rintro ⟨-, h0⟩; simp at h0)); subst hv; (have e0 : cs[0]? = some (.int .i64 a) := by (have := congrArg (·[0]?) htk; simpa using this)); (have e1 : cs[1]? = some (.int .i64 b) := by (have := congrArg (·[1]?) htk; simpa using this)); (have HS := Lib.hid (sort_ints (c := cap) (show Blk w2 g 3 cs from hBk) e0 e1 hab)); clear e0 e1 htk hown hBk)
    | (go_at_call 67; refine HS.out.mono ?_; rintro r w3 ⟨hr, s0, s1, hb3⟩; subst hr))
  go_ret
  refine ⟨g, cap, rfl, s0, s1, ?_⟩
  simp at hgb
  exact HB0.out.trans ((hb2.mono HB0.out.size).trans (hb3 _ (by omega)))
end Go.Proofs.YtffjcojehiblnaaGreatDoor
