/- slices.SortFunc at pairs, its contract laid by name off the library; the closure of dict.Shape; a sorted row of pairs. -/
import Derived.Test.YtjggcidaolnmbaaRw
import Derived.Shelf.SlSortCmp.WholeK
import Derived.Shelf.SlSortCmp.NoneTotal
namespace Go.Proofs.Ytjggcidaolnmbaa
open Go.RowKit Go.Joins Go.ChangeShapes Go.WideShapes Go.Deep Go.Shelf Go.Lib Go.Sort
set_option linter.unusedVariables false
set_option maxRecDepth 100000

def sortPair_ren : Go.Shelf.Ren := ⟨fun | 6 => 36 | 15 => 50 | 14 => 49 | 28 => 64 | 29 => 65 | 20 => 56 | 21 => 57 | 22 => 58 | 23 => 59 | 24 => 60 | 25 => 61 | 26 => 62 | 27 => 63 | 46 => 71 | 47 => 72 | 48 => 73 | 49 => 74 | 50 => 75 | 57 => 78 | n => n, fun | 22 => 45 | 24 => 54 | 25 => 70 | 3 => 3 | 39 => 75 | 0 => 0 | 53 => 94 | 55 => 74 | 4 => 4 | 46 => 87 | 45 => 86 | 50 => 91 | 5 => 5 | 9 => 9 | 66 => 97 | 70 => 101 | 76 => 103 | 77 => 104 | n => n, fun n => n⟩
theorem sortPair : Go.Proofs.SlLaysF0.n6 Try.prog sortPair_ren := {
  mixed := by kernel_rfl,
  f6 := ⟨Try.f36.name, by decide, Try.func36.trans (congrArg some (by kernel_rfl))⟩,
  f14 := ⟨Try.f49.name, by decide, Try.func49.trans (congrArg some (by kernel_rfl))⟩,
  f15 := Try.func50.trans (congrArg some (by kernel_rfl)),
  f20 := ⟨Try.f56.name, by decide, Try.func56.trans (congrArg some (by kernel_rfl))⟩,
  f21 := ⟨Try.f57.name, by decide, Try.func57.trans (congrArg some (by kernel_rfl))⟩,
  f22 := ⟨Try.f58.name, by decide, Try.func58.trans (congrArg some (by kernel_rfl))⟩,
  f23 := ⟨Try.f59.name, by decide, Try.func59.trans (congrArg some (by kernel_rfl))⟩,
  f24 := ⟨Try.f60.name, by decide, Try.func60.trans (congrArg some (by kernel_rfl))⟩,
  f25 := ⟨Try.f61.name, by decide, Try.func61.trans (congrArg some (by kernel_rfl))⟩,
  f26 := ⟨Try.f62.name, by decide, Try.func62.trans (congrArg some (by kernel_rfl))⟩,
  f27 := ⟨Try.f63.name, by decide, Try.func63.trans (congrArg some (by kernel_rfl))⟩,
  f28 := Try.func64.trans (congrArg some (by kernel_rfl)),
  f29 := Try.func65.trans (congrArg some (by kernel_rfl)),
  f46 := ⟨Try.f71.name, by decide, Try.func71.trans (congrArg some (by kernel_rfl))⟩,
  f47 := Try.func72.trans (congrArg some (by kernel_rfl)),
  f48 := Try.func73.trans (congrArg some (by kernel_rfl)),
  f49 := ⟨Try.f74.name, by decide, Try.func74.trans (congrArg some (by kernel_rfl))⟩,
  f50 := ⟨Try.f75.name, by decide, Try.func75.trans (congrArg some (by kernel_rfl))⟩,
  f57 := ⟨Try.f78.name, by decide, Try.func78.trans (congrArg some (by kernel_rfl))⟩,
  t0 := Try.underlying0,
  a0 := Try.isAgg0,
  z0 := Try.sizeOf0,
  v0 := Try.zeroValue0,
  t3 := Try.underlying3,
  a3 := Try.isAgg3,
  z3 := Try.sizeOf3,
  v3 := Try.zeroValue3,
  t4 := Try.underlying4,
  a4 := Try.isAgg4,
  z4 := Try.sizeOf4,
  v4 := Try.zeroValue4,
  t5 := Try.underlying5,
  a5 := Try.isAgg5,
  z5 := Try.sizeOf5,
  v5 := Try.zeroValue5,
  t9 := Try.underlying9,
  a9 := Try.isAgg9,
  z9 := Try.sizeOf9,
  v9 := Try.zeroValue9,
  t22 := Try.underlying45,
  a22 := Try.isAgg45,
  z22 := Try.sizeOf45,
  v22 := Try.zeroValue45,
  t25 := Try.underlying70,
  a25 := Try.isAgg70,
  z25 := Try.sizeOf70,
  v25 := Try.zeroValue70,
  t39 := Try.underlying75,
  a39 := Try.isAgg75,
  z39 := Try.sizeOf75,
  v39 := Try.zeroValue75,
  t45 := Try.underlying86,
  a45 := Try.isAgg86,
  z45 := Try.sizeOf86,
  v45 := Try.zeroValue86,
  t46 := Try.underlying87,
  a46 := Try.isAgg87,
  z46 := Try.sizeOf87,
  v46 := Try.zeroValue87,
  t50 := Try.underlying91,
  a50 := Try.isAgg91,
  z50 := Try.sizeOf91,
  v50 := Try.zeroValue91,
  t53 := Try.underlying94,
  a53 := Try.isAgg94,
  z53 := Try.sizeOf94,
  v53 := Try.zeroValue94,
  t55 := Try.underlying74,
  a55 := Try.isAgg74,
  z55 := Try.sizeOf74,
  v55 := Try.zeroValue74,
  t66 := Try.underlying97,
  a66 := Try.isAgg97,
  z66 := Try.sizeOf97,
  v66 := Try.zeroValue97,
  t70 := Try.underlying101,
  a70 := Try.isAgg101,
  z70 := Try.sizeOf101,
  v70 := Try.zeroValue101,
  t76 := Try.underlying103,
  a76 := Try.isAgg103,
  z76 := Try.sizeOf103,
  v76 := Try.zeroValue103,
  t77 := Try.underlying104,
  a77 := Try.isAgg104,
  z77 := Try.sizeOf104,
  v77 := Try.zeroValue104 }

/-- Compare of two numbers. -/
def cmpI (x y : Int) : Int := if x < y then -1 else if y < x then 1 else 0
theorem compare_any (x y : Int) (w : World) : Calls Try.prog 38 #[.int .i64 x, .int .i64 y] w fun e w' => e = .returned (.int .i64 (cmpI x y)) ∧ w = w' := by
  by_cases h1 : x < y
  · have hr : cmpI x y = -1 := by simp [cmpI, h1]
    rw [hr]
    have e1 : decide (x < y) = true := by simp [h1]
    clear hr
    go_enter Try.func38, Try.ntmps38
    go_wp2
    go_ret
    exact ⟨rfl, rfl⟩
  · by_cases h2 : y < x
    · have hr : cmpI x y = 1 := by simp [cmpI, h1, h2]
      rw [hr]
      have e1 : decide (x < y) = false := by simpa using h1
      have e2 : decide (y < x) = true := by simp [h2]
      clear hr
      go_enter Try.func38, Try.ntmps38
      go_wp2
      go_ret
      exact ⟨rfl, rfl⟩
    · have hr : cmpI x y = 0 := by simp [cmpI, h1, h2]
      rw [hr]
      have e1 : decide (x < y) = false := by simpa using h1
      have e2 : decide (y < x) = false := by simpa using h2
      clear hr
      go_enter Try.func38, Try.ntmps38
      go_wp2
      go_ret
      exact ⟨rfl, rfl⟩

theorem ltKey (x y : Int × Int) : ltOf (fun x y : Int × Int => cmpI x.1 y.1) x y = decide (x.1 < y.1) := by
  unfold ltOf cmpI
  by_cases h1 : x.1 < y.1
  · simp [h1]
  · by_cases h2 : y.1 < x.1 <;> simp [h1, h2]
theorem swoKey : SWO (ltOf fun x y : Int × Int => cmpI x.1 y.1) where
  irrefl x := by rw [ltKey]; simp
  trans x y z h1 h2 := by rw [ltKey] at *; simp at *; omega
  ntrans x y z h1 h2 := by rw [ltKey] at *; simp at *; omega

set_option maxHeartbeats 1000000 in
theorem closure_any (x y : Int × Int) (W : World) : Calls Try.prog 37 #[.agg #[.int .i64 x.1, .int .i64 x.2], .agg #[.int .i64 y.1, .int .i64 y.2]] W fun e w' => e = .returned (.int .i64 (cmpI x.1 y.1)) ∧ ∃ q os', w' = grow (W.drewN q) os' := by
  have hcon := fun W' => compare_any x.1 y.1 W'
  generalize cmpI x.1 y.1 = r at hcon ⊢
  go_enter Try.func37, Try.ntmps37
  go_wp2_with fail
  refine (hcon _).mono ?_
  rintro e w' ⟨rfl, rfl⟩
  go_wp2_with fail
  go_ret
  exact ⟨rfl, 0, _, by rw [alloc_eq_grow, alloc_eq_grow, grow_grow]; rfl⟩
theorem cmpLays (blk off size : Nat) (w : World) : CmpLays Try.prog 37 #[] prc 2 (fun x y => cmpI x.1 y.1) blk off size w :=
  fun _ _ _ _ x y => closure_any x y _

theorem pair_agg : ∀ w, (isAgg 54).run Try.prog w = .ok true w := Try.isAgg54
theorem pair_size : ∀ w, (Go.sizeOf 54).run Try.prog w = .ok 2 w := Try.sizeOf54

theorem flat_prs (l : List (Int × Int)) (t : Nat) (ht : t < l.length * 2) : (prs l)[t]? = some ((flatK prc 2 l.toArray)[t]!) := by
  have h2 : t / 2 < l.length := by omega
  have hm : t % 2 < 2 := Nat.mod_lt _ (by omega)
  rw [get_flatK _ _ _ _ (by simpa using ht)]
  have e : t = t / 2 * 2 + t % 2 := by omega
  conv => lhs; rw [e, prs_at l (t / 2) (t % 2) h2 hm]
  have h3 : l.toArray[t / 2]! = l[t / 2] := by simp [h2]
  rw [h3]
  generalize l[t / 2] = z
  generalize t % 2 = q at hm
  match q, hm with
  | 0, _ => rfl
  | 1, _ => rfl

/-- A row of pairs is sorted by their keys. -/
theorem sort_own (base n : Nat) (pv : Value) (l : List (Int × Int)) (w : World) (hl : l.length = n) (hn : n ≤ 4611686018427387903) (hown : w.ownsRow base 54 2 pv n (prs l)) :
    Calls Try.prog 36 #[pv, .func (.func 37) #[] #[]] w fun e w' => e = .returned (.tuple #[]) ∧
      ∃ l' : List (Int × Int), l'.Perm l ∧ l'.Pairwise (fun a b => a.1 ≤ b.1) ∧ w'.ownsRow base 54 2 pv n (prs l') ∧ w.grownBy w' pv.ownBlock := by
  rcases hown.2 with ⟨rfl, rfl⟩ | ⟨g, cap, cur, rfl, hg, hh, hnc, hcm, hcs, htake⟩
  · obtain rfl : l = [] := List.eq_nil_of_length_eq_zero hl
    have h := AnyF.slices_SortFunc_none sortPair none 0 (.func (.func 37) #[] #[]) w
    change Calls Try.prog 36 _ _ _ at h
    refine h.mono ?_
    rintro e w' ⟨rfl, rfl⟩
    exact ⟨rfl, [], List.Perm.refl _, .nil, hown, World.grownBy.refl _ _⟩
  · subst hl
    have hglt : g < w.heap.size := (Array.getElem?_eq_some_iff.1 hh).1
    have hH : HoldsK prc 2 w g 0 l.toArray := by
      intro j hj
      rw [size_flatK] at hj
      simp only [List.size_toArray] at hj
      have hc := hown.cellAt j hj
      rw [flat_prs l j hj] at hc
      exact ⟨by rw [Nat.zero_add]; exact hc, hown.frozenAt _⟩
    have eg : ∀ args w, (callFunc 37 args).run Try.prog w = .ok (.enter 37 args) w := enters_of Try.func37 (by kernel_rfl) rfl
    have h := AnyQ.slices_SortFunc sortPair 2 pair_agg pair_size prc (fun _ => rfl) (fun x v hv => by simp [prc] at hv; rcases hv with rfl | rfl <;> rfl) (fun x y => cmpI x.1 y.1) swoKey 37 #[] g 0 cap l.toArray w eg (cmpLays g 0 _ w) hH hglt (by simp; omega)
    change Calls Try.prog 36 _ _ _ at h
    rw [show l.toArray.size = l.length by simp] at h
    refine h.mono ?_
    rintro e w' ⟨rfl, d', q, os, hp, hs, rfl⟩
    obtain ⟨hsz, -, hperm⟩ := hp
    have hsz' : d'.size = l.length := by simpa using hsz
    have hp2 : d'.toList.Perm l := by
      have e1 : (d'.extract 0 l.length).toList = d'.toList := by rw [← hsz']; simp
      have e2 : ((l.toArray).extract 0 l.length).toList = l := by simp
      rw [e1, e2] at hperm
      exact hperm
    refine ⟨rfl, d'.toList, hp2, ?_, ?_, ?_⟩
    · rw [List.pairwise_iff_getElem]
      intro i j hi hj hij
      have := hs i j (Nat.zero_le _) hij (by simpa [hsz'] using hj)
      rw [ltKey] at this
      simp only [Array.length_toList] at hi hj
      simp [hi, hj] at this
      simpa using this
    · refine ⟨by rw [prs_length, Array.length_toList, hsz'], .inr ⟨g, cap, putCells id 0 (flatK prc 2 d') cur, rfl, hg, ?_, hnc, hcm, by simp [putCells, hcs], ?_⟩⟩
      · have hm : (w.heap.modify g (onCells (putCells id 0 (flatK prc 2 d'))))[g]? = some (.cells (putCells id 0 (flatK prc 2 d') cur) 54 (0, 0)) := by
          rw [Array.getElem?_modify, if_pos rfl, hh]
          rfl
        show (w.heap.modify g (onCells (putCells id 0 (flatK prc 2 d'))) ++ os)[g]? = _
        rw [Array.getElem?_append_left (by simpa using hglt)]
        exact hm
      · apply List.ext_getElem?
        intro t
        by_cases ht : t < l.length * 2
        · have h1 := flat_prs d'.toList t (by rw [Array.length_toList, hsz']; exact ht)
          rw [Array.toArray_toList] at h1
          rw [h1, List.getElem?_take, if_pos ht, Array.getElem?_toList]
          have hc : t < cur.size := by rw [hcs]; have := Nat.mul_le_mul_right 2 hnc; omega
          have hf : t < 0 + (flatK prc 2 d').size := by rw [size_flatK, hsz']; omega
          simp only [putCells, Array.getElem?_mapIdx, Array.getElem?_eq_getElem hc, Option.map_some, Nat.zero_le, true_and, hf, if_true, Nat.sub_zero, id]
        · rw [List.getElem?_take, if_neg ht, List.getElem?_eq_none (by rw [prs_length, Array.length_toList, hsz']; omega)]
    · refine ⟨rfl, rfl, rfl, ?_, fun i hi hne => ?_⟩
      · show w.heap.size ≤ (w.heap.modify g (onCells (putCells id 0 (flatK prc 2 d'))) ++ os).size
        simp
      · show (w.heap.modify g (onCells (putCells id 0 (flatK prc 2 d'))) ++ os)[i]? = w.heap[i]?
        rw [Array.getElem?_append_left (by simpa using hi), Array.getElem?_modify, if_neg (by rintro rfl; exact hne rfl)]

end Go.Proofs.Ytjggcidaolnmbaa
