/- Two lists of transactions held against each other. -/
import Derived.Test.YtffjcojehiblnaaDoorHy1
namespace Go.Proofs.YtffjcojehiblnaaDoor
open Go.RowKit Go.Joins Go.ChangeShapes Go.WideShapes Go.Deep
set_option linter.unusedVariables false
set_option linter.unusedSimpArgs false
set_option maxRecDepth 100000

set_option maxHeartbeats 400000 in
theorem txs_same (A C : Option Addr) (n ac cc : Nat) (zs : List TxZ) (w : World) (hl : zs.length = n) (hn : n ≤ 925904528640) (hA : Reads w w.heap.size 6 A n (txzs zs)) (hC : Reads w w.heap.size 6 C n (txzs zs)) :
    Calls Tryd.prog 8 #[.slice A n ac, .slice C n cc] w fun r w' => r = .returned (.bool true) ∧ Below w.heap.size w w' := by
  have HA := Lib.hid hA
  have HC := Lib.hid hC
  have HL := Lib.hid hl
  clear hA hC hl
  go_enter Tryd.func8, Tryd.ntmps8
  go_wp2_with fail
  go_loopg [5] n (fun gk i wr => ∃ k : Nat, i = .int .i64 k ∧ k ≤ n ∧ gk = n - k ∧ Below w.heap.size w wr)
  case atStart => exact ⟨0, rfl, Nat.zero_le _, rfl, Below.refl _ _⟩
  case round =>
    obtain ⟨k, rfl, hk, hgk, hbel⟩ := hrel
    have HG := Lib.hid hgk
    have HB := Lib.hid hbel
    clear hgk hbel
    by_cases hkn : k < n
    · have hkl : k < zs.length := by rw [HL.out]; exact hkn
      obtain ⟨ab, ao, rfl, hab, hca⟩ := reads_flat HA.out (by omega) (by decide)
      obtain ⟨cb, co, rfl, hcb, hcc⟩ := reads_flat HC.out (by omega) (by decide)
      obtain ⟨z, hz⟩ : ∃ z, z = zs[k] := ⟨_, rfl⟩
      have hra : wr.rangeAt ab (ao + k * 6) z.cells := fun j v hv => (HB.out.cell (p := ⟨ab, ao + k * 6 + j, none⟩) hab).trans (txz_at hca hkl j v (hz ▸ hv))
      have hrc : wr.rangeAt cb (co + k * 6) z.cells := fun j v hv => (HB.out.cell (p := ⟨cb, co + k * 6 + j, none⟩) hcb).trans (txz_at hcc hkl j v (hz ▸ hv))
      have hk8 : (k : Int) + 1 ≤ 9223372036854775807 := by omega
      have hia : ∀ W : World, (Instr.indexAt 24 (.slice (some ⟨ab, ao, none⟩) n ac) (.int .i64 k)).run Tryd.prog W = .ok (.pointer (some ⟨ab, ao + k * 6, none⟩)) W := fun W => by go_simp
      have hic : ∀ W : World, (Instr.indexAt 24 (.slice (some ⟨cb, co, none⟩) n cc) (.int .i64 k)).run Tryd.prog W = .ok (.pointer (some ⟨cb, co + k * 6, none⟩)) W := fun W => by go_simp
      clear hca hcc hz hkl
      go_upto_region 6 with fail
      refine wp_abs fun a ha => ?_
      have f0 : a.eval (.tmp 0) = .slice (some ⟨ab, ao, none⟩) n ac := by rw [ha]; rfl
      have f1 : a.eval (.tmp 1) = .slice (some ⟨cb, co, none⟩) n cc := by rw [ha]; rfl
      have f2 : a.eval (.tmp 5) = .int .i64 k := by rw [ha]; rfl
      have hsz : 26 ≤ a.tmps.size := by rw [ha]; exact Nat.le_of_ble_eq_true rfl
      refine wp_region_held_drew (S := TwoS ab cb (ao + k * 6) (co + k * 6) z.cells z.cells) (by kernel_rfl) ⟨hra, hrc⟩ (fun hS => ?_)
      refine take_at 0 17 (v := .slice (some ⟨ab, ao, none⟩) n ac) rfl rfl (by kernel_rfl) (by kernel_rfl) (by kernel_rfl) (fun _ _ _ h => h) (yi_move rfl (.tmp 0) rfl (by (simp (discharger := (first | decide | omega | (simp only [Act.size_put]; omega))) only [Act.eval_put_same, Act.eval_put_ne, eval_const, f0, f1, f2]); all_goals rfl)) hS ?_
      refine take_at 1 18 (v := .int .i64 k) rfl rfl (by kernel_rfl) (by kernel_rfl) (by kernel_rfl) (fun _ _ _ h => h) (yi_move rfl (.tmp 5) rfl (by (simp (discharger := (first | decide | omega | (simp only [Act.size_put]; omega))) only [Act.eval_put_same, Act.eval_put_ne, eval_const, f0, f1, f2]); all_goals rfl)) hS ?_
      refine take_at 2 19 (v := .pointer (some ⟨ab, ao + k * 6, none⟩)) rfl rfl (by kernel_rfl) (by kernel_rfl) (by kernel_rfl) (fun _ _ _ h => h) (yi_index rfl 24 (.tmp 17) (.tmp 18) rfl (by (simp (discharger := (first | decide | omega | (simp only [Act.size_put]; omega))) only [Act.eval_put_same, Act.eval_put_ne, eval_const, f0, f1, f2]); all_goals rfl) (by (simp (discharger := (first | decide | omega | (simp only [Act.size_put]; omega))) only [Act.eval_put_same, Act.eval_put_ne, eval_const, f0, f1, f2]); all_goals rfl) hia) hS ?_
      refine take_at 3 20 (v := .agg z.cells.toArray) rfl rfl (by kernel_rfl) (by kernel_rfl) (by kernel_rfl) (fun _ _ _ h => h) (yi_load1 rfl 42 (.tmp 19) rfl (by (simp (discharger := (first | decide | omega | (simp only [Act.size_put]; omega))) only [Act.eval_put_same, Act.eval_put_ne, eval_const, f0, f1, f2]); all_goals rfl) (fun w' h => txz_load h.x)) hS ?_
      refine take_at 4 21 (v := .slice (some ⟨cb, co, none⟩) n cc) rfl rfl (by kernel_rfl) (by kernel_rfl) (by kernel_rfl) (fun _ _ _ h => h) (yi_move rfl (.tmp 1) rfl (by (simp (discharger := (first | decide | omega | (simp only [Act.size_put]; omega))) only [Act.eval_put_same, Act.eval_put_ne, eval_const, f0, f1, f2]); all_goals rfl)) hS ?_
      refine take_at 5 22 (v := .int .i64 k) rfl rfl (by kernel_rfl) (by kernel_rfl) (by kernel_rfl) (fun _ _ _ h => h) (yi_move rfl (.tmp 5) rfl (by (simp (discharger := (first | decide | omega | (simp only [Act.size_put]; omega))) only [Act.eval_put_same, Act.eval_put_ne, eval_const, f0, f1, f2]); all_goals rfl)) hS ?_
      refine take_at 6 23 (v := .pointer (some ⟨cb, co + k * 6, none⟩)) rfl rfl (by kernel_rfl) (by kernel_rfl) (by kernel_rfl) (fun _ _ _ h => h) (yi_index rfl 24 (.tmp 21) (.tmp 22) rfl (by (simp (discharger := (first | decide | omega | (simp only [Act.size_put]; omega))) only [Act.eval_put_same, Act.eval_put_ne, eval_const, f0, f1, f2]); all_goals rfl) (by (simp (discharger := (first | decide | omega | (simp only [Act.size_put]; omega))) only [Act.eval_put_same, Act.eval_put_ne, eval_const, f0, f1, f2]); all_goals rfl) hic) hS ?_
      refine take_at 7 24 (v := .agg z.cells.toArray) rfl rfl (by kernel_rfl) (by kernel_rfl) (by kernel_rfl) (fun _ _ _ h => h) (yi_load1 rfl 42 (.tmp 23) rfl (by (simp (discharger := (first | decide | omega | (simp only [Act.size_put]; omega))) only [Act.eval_put_same, Act.eval_put_ne, eval_const, f0, f1, f2]); all_goals rfl) (fun w' h => txz_load h.y)) hS ?_
      refine take_at 8 25 (v := .bool false) rfl rfl (by kernel_rfl) (by kernel_rfl) (by kernel_rfl) (fun _ _ _ h => h) (yi_neq rfl (.tmp 20) (.tmp 24) rfl (by (simp (discharger := (first | decide | omega | (simp only [Act.size_put]; omega))) only [Act.eval_put_same, Act.eval_put_ne, eval_const, f0, f1, f2]); all_goals rfl) (by (simp (discharger := (first | decide | omega | (simp only [Act.size_put]; omega))) only [Act.eval_put_same, Act.eval_put_ne, eval_const, f0, f1, f2]); all_goals rfl) (fun w' => run_eqGuard_agg w' _ _ _ _ _ _ (by kernel_rfl)) (txz_neq z)) hS ?_
      refine wpAnyH_done (by kernel_rfl) ?_ _
      clear hS f0 f1 f2 hsz hia hic
      subst ha
      simp only [Act.put, List.setIfInBounds_toArray, List.set_cons_zero, List.set_cons_succ]
      go_wp2_with fail
      go_roundg (n - (k + 1))
      case measure => have := HG.out; omega
      case rel => exact ⟨k + 1, by go_num, by omega, rfl, Below.drew HB.out⟩
    · have hkk : n = k := by omega
      subst hkk
      go_wp2_with fail
      go_ret
      exact ⟨rfl, HB.out⟩
end Go.Proofs.YtffjcojehiblnaaDoor
