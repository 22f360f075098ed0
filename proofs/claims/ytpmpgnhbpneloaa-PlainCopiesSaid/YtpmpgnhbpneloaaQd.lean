/- The library's Delete of one element at int64. -/
import Derived.Test.YtpmpgnhbpneloaaQc
namespace Go.Proofs.Ytpmpgnhbpneloaa
open Go.RowKit Go.Joins Go.ChangeShapes Go.WideShapes Go.Deep
set_option linter.unusedVariables false
set_option maxRecDepth 100000

set_option maxHeartbeats 2000000 in
theorem delete_rowV (g m c i : Nat) (cur : Array Value) (xs : List Value) (w : World) (hn16 : m ≤ 1000) (hi : i ≤ m) (hnc : m + 1 ≤ c) (hc63 : c ≤ 9223372036854775807) (hg : Blk w g 2 cur) (hcs : cur.size = c * 1) (hx : cur.toList.take ((m + 1) * 1) = xs)
    (h1 : ∀ v ∈ xs, v.oneCell' = true) :
    Calls Try.prog 65 #[.slice (some ⟨g, 0, none⟩) (m + 1) c, .int .i64 i, .int .i64 (((i + 1 : Nat) : Int))] w fun e w' => e = .returned (.slice (some ⟨g, 0, none⟩) m c) ∧
      ∃ cur1 cur', w' = (w.drew.setRow g cur1).setRow g cur' ∧ cur'.size = c * 1 ∧ cur'.toList.take (m * 1) = xs.take (i * 1) ++ xs.drop ((i + 1) * 1) := by
  obtain ⟨i0, hi0, hz0, hzs, hzb⟩ := info_parts info_insV
  have hxl : xs.length = (m + 1) * 1 := by rw [← hx]; simp; omega
  have hdl : (xs.drop ((i + 1) * 1)).length = (m - i) * 1 := by rw [List.length_drop, hxl]; omega
  obtain ⟨Z, hZ⟩ : ∃ Z, Z = (Builtin.zeroCells (.int .i64 0 : Value).cells 1).toList := ⟨_, rfl⟩
  have hZl : Z.length = 1 := by rw [hZ]; simp [Builtin.zeroCells, Value.cells]
  have hZa : (Builtin.zeroCells (.int .i64 0 : Value).cells 1).toList.all (·.oneCell') = true := by kernel_rfl
  have hZ1 : ∀ v ∈ Z, v.oneCell' = true := by
    rw [hZ]
    exact List.all_eq_true.1 hZa
  have HI := del_cells cur.toList xs Z (i * 1) 1 ((m + 1) * 1) hx (by omega) (by rw [Array.length_toList, hcs]; omega) hZl
  simp only [show i * 1 + 1 = (i + 1) * 1 by omega, show (m + 1) * 1 - 1 = m * 1 by omega] at HI
  have hsrc : ∀ j v, (xs.drop ((i + 1) * 1))[j]? = some v → w.drew.cell? ((⟨g, (i + 1) * 1, none⟩ : Addr).add j) = some v := by
    intro j v hj
    have hb' : Blk w.drew g 2 cur.toList.toArray := by rw [Array.toArray_toList]; exact hg.drew
    refine hb'.at0 ((i + 1) * 1) j v ?_
    rw [← hx, List.getElem?_drop, List.getElem?_take] at hj
    rw [List.getElem?_drop]
    split at hj
    · exact hj
    · cases hj
  obtain ⟨A, hA⟩ : ∃ A, A = cur.toList.take (i * 1) ++ xs.drop ((i + 1) * 1) ++ cur.toList.drop (i * 1 + (xs.drop ((i + 1) * 1)).length) := ⟨_, rfl⟩
  simp only [← hA] at HI
  obtain ⟨B, hB⟩ : ∃ B, B = A.take (m * 1) ++ Z ++ A.drop (m * 1 + Z.length) := ⟨_, rfl⟩
  simp only [← hB] at HI
  have hspare : ∀ j, j < (xs.drop ((i + 1) * 1)).length → (w.drew.cell? ⟨g, 0 + i * i0.size + j, none⟩).isSome = true ∧ w.drew.frozen? ⟨g, 0 + i * i0.size + j, none⟩ = false := by
    intro j hj
    rw [hdl] at hj
    rw [hzs, Nat.zero_add]
    refine ⟨?_, hg.drew.frozen _⟩
    rw [hg.drew.cell, Array.getElem?_eq_getElem (by rw [hcs]; omega)]
    rfl
  have hrunA : ∀ ad, (∀ j v, (xs.drop ((i + 1) * 1))[j]? = some v → w.drew.cell? (ad.add j) = some v) → ∀ ty sc, (Builtin.append_ #[34, 34] ty #[.slice (some ⟨g, 0, none⟩) i c, .slice (some ad) (m - i) sc]).run Try.prog w.drew = .ok (.slice (some ⟨g, 0, none⟩) m c) (w.drew.setRow g A.toArray) := fun ad had ty sc => by
    have h := run_append_room_cells (P := Try.prog) (w := w.drew) 34 ty 2 i0 Try.underlying34 hi0 g 0 i c ad (m - i) sc (xs.drop ((i + 1) * 1)) (by rw [hdl, hzs]) had (fun v hv => h1 v (List.mem_of_mem_drop hv)) (by omega) (fun j hj => (hspare j hj).1) (fun j hj => (hspare j hj).2)
    rw [h, hzs, Nat.zero_add, setCells_row g 2 _ _ cur w.drew hg.drew (by rw [hdl, hcs]; omega), ← hA, show i + (m - i) = m by omega]
  have hgA : Blk (w.drew.setRow g A.toArray) g 2 A.toArray := hg.drew.row
  have hclr : ∀ ty cc, (Builtin.clear_ #[34] ty #[.slice (some ⟨g, m * 1, none⟩) 1 cc]).run Try.prog (w.drew.setRow g A.toArray) = .ok (.tuple #[]) ((w.drew.setRow g A.toArray).setRow g B.toArray) := fun ty cc => by
    have h := clear_row (P := Try.prog) (w.drew.setRow g A.toArray) 34 2 ty (.int .i64 0) Try.underlying34 Try.zeroValue2 g (m * 1) 1 cc (by omega) A.toArray 2 hgA (by rw [← hZ]; exact hZ1) (by rw [← hZ, hZl]; have := HI.2.2; simp only [List.size_toArray, this, Array.length_toList, hcs]; omega)
    rw [← hZ] at h
    rw [h, hB]
  have hHI : B.length = cur.size ∧ B.take (m * 1) = xs.take (i * 1) ++ xs.drop ((i + 1) * 1) := by
    refine ⟨by rw [HI.2.1, Array.length_toList], ?_⟩
    rw [HI.1, ← hx, List.take_take, Nat.min_eq_left (by omega)]
  have HIH := Lib.hid hHI
  have HCS := Lib.hid hcs
  have e1 : ((i + 1 : Nat) : Int) = (i : Int) + 1 := by omega
  have hneq : ((i : Int) == (i : Int) + 1) = false := by simp; omega
  have hneq2 : ¬ ((i : Int) = (i : Int) + 1) := by omega
  have hw1 : IntKind.i64.wrap ((i : Int) + 1) = (i : Int) + 1 := by rw [IntKind.wrap_i64]; omega
  have hb1 : (0 : Int) ≤ (i : Int) + 1 := by omega
  have htn : ((i : Int) + 1).toNat = i + 1 := by omega
  have hic : i ≤ c := by omega
  have him : (i : Int) ≤ (m : Int) + 1 := by omega
  have him2 : (i : Int) + 1 ≤ (m : Int) + 1 := by omega
  have him3 : (i : Int) ≤ (m : Int) := by omega
  have hcm : ¬ (c = m) := by omega
  have hci : ¬ (c = i) := by omega
  by_cases hce : c = i + 1
  · have hemp : xs.drop ((i + 1) * 1) = [] := List.eq_nil_of_length_eq_zero (by rw [hdl]; omega)
    have hrun := hrunA ⟨g, 0, none⟩ (by rw [hemp]; simp)
    clear hrunA HI hA hB hsrc hZ hZ1 hZl hspare hgA hHI hxl hdl hx hcs h1 hi0 hz0 hzs hzb hemp
    obtain rfl : i = m := by omega
    subst hce
    simp only [Nat.sub_self] at hrun
    try simp only [Nat.mul_one] at hclr
    rw [e1]
    clear e1
    go_enter Try.func65, Try.ntmps65
    go_wp2_with fail
    go_region_law (refine step_append_is rfl _ _ 34 34 (by rfl) _ _ (by rfl) (by rfl) (hrun _ _) ?_)
    go_wp2_with (at_builtin; refine wpList_clear_is _ rfl _ 34 rfl _ rfl (hclr _ _) ?_)
    go_ret
    exact ⟨rfl, A.toArray, B.toArray, rfl, by rw [List.size_toArray, HIH.out.1, HCS.out], HIH.out.2⟩
  · have hrun := hrunA ⟨g, (i + 1) * 1, none⟩ hsrc
    clear hrunA HI hA hB hsrc hZ hZ1 hZl hspare hgA hHI hxl hdl hx hcs h1 hi0 hz0 hzs hzb
    try simp only [Nat.mul_one] at hclr hrun
    rw [e1]
    clear e1
    go_enter Try.func65, Try.ntmps65
    go_wp2_with fail
    go_region_law (refine step_append_is rfl _ _ 34 34 (by rfl) _ _ (by rfl) (by rfl) (hrun _ _) ?_)
    go_wp2_with (at_builtin; refine wpList_clear_is _ rfl _ 34 rfl _ rfl (hclr _ _) ?_)
    go_ret
    exact ⟨rfl, A.toArray, B.toArray, rfl, by rw [List.size_toArray, HIH.out.1, HCS.out], HIH.out.2⟩
theorem delete_anyV (base n i c : Nat) (a b : Int) (A : Option Addr) (xs : List Value) (w : World) (hn16 : n ≤ 1000) (hi : i < n) (ha : a = (i : Int)) (hb : b = (i : Int) + 1) (hown : w.ownsRow base 2 1 (.slice A n c) n xs) (h1 : ∀ v ∈ xs, v.oneCell' = true) :
    Calls Try.prog 65 #[.slice A n c, .int .i64 a, .int .i64 b] w fun e w' => e = .returned (.slice A (n - 1) c) ∧ w'.ownsRow base 2 1 (.slice A (n - 1) c) (n - 1) (xs.take (i * 1) ++ xs.drop ((i + 1) * 1)) ∧ w.grownBy w' (Value.slice A n c).ownBlock := by
  have hxl := hown.1
  rcases hown.2 with ⟨he, h0⟩ | ⟨g, cap, cur, he, hb0, hh, hnc, hm, hs, ht⟩
  · omega
  · injection he with e1 e2 e3
    subst e1 e3
    obtain ⟨m, rfl⟩ : ∃ m, n = m + 1 := ⟨n - 1, by omega⟩
    have e1 : b = ((i + 1 : Nat) : Int) := by omega
    rw [ha, e1]
    refine (delete_rowV g m c i cur xs w (by omega) (by omega) hnc hm hh hs ht h1).mono ?_
    rintro e w' ⟨rfl, cur1, cur', rfl, hc1, hc2⟩
    refine ⟨rfl, ⟨?_, .inr ⟨g, c, cur', rfl, hb0, ?_, by omega, hm, hc1, hc2⟩⟩, ?_⟩
    · simp [hxl]; omega
    · exact Blk.row (Blk.row (Blk.drew hh))
    · exact ⟨rfl, rfl, rfl, by simp [setRow_size], fun k hk hn => by
        have hkg : k ≠ g := fun e => hn (by rw [e]; rfl)
        rw [setRow_other _ _ _ _ hkg, setRow_other _ _ _ _ hkg]
        rfl⟩
end Go.Proofs.Ytpmpgnhbpneloaa
