/- A row of touches is sorted by their addresses. -/
import Derived.Test.YtnpeldbnnneijaaMsp
namespace Go.Proofs.Ytnpeldbnnneijaa
open Go.RowKit Go.Joins Go.ChangeShapes Go.WideShapes Go.Deep Go.Shelf Go.Lib Go.Sort
set_option linter.unusedVariables false
set_option maxRecDepth 100000

instance : Inhabited Tch := ⟨⟨0, 0, 0, 0, 0, 0⟩⟩
theorem ltT (x y : Tch) : ltOf (fun x y : Tch => rise3 x.key y.key) x y = decide (lt3 x.key y.key) := rise3_lt _ _
theorem swoT : SWO (ltOf fun x y : Tch => rise3 x.key y.key) where
  irrefl x := by rw [ltT]; simp [lt3_irr]
  trans x y z h1 h2 := by rw [ltT] at *; simp at *; exact lt3_trans h1 h2
  ntrans x y z h1 h2 := by rw [ltT] at *; simp at *; unfold lt3 at *; omega

set_option maxHeartbeats 1000000 in
theorem closure_any (x y : Tch) (W : World) : Calls Try.prog 33 #[.agg #[.int .i64 x.k, .int .i64 x.i, .int .i64 x.j, .int .i64 x.loads, .int .i64 x.stores, .int .i64 x.swaps], .agg #[.int .i64 y.k, .int .i64 y.i, .int .i64 y.j, .int .i64 y.loads, .int .i64 y.stores, .int .i64 y.swaps]] W fun e w' =>
    e = .returned (.int .i64 (rise3 x.key y.key)) ∧ ∃ q os', w' = grow (W.drewN q) os' := by
  have hcon := fun W' => rises_any x.k x.i x.j y.k y.i y.j W'
  show Calls _ _ _ _ fun e w' => e = .returned (.int .i64 (rise3 (x.k, x.i, x.j) (y.k, y.i, y.j))) ∧ _
  generalize rise3 (x.k, x.i, x.j) (y.k, y.i, y.j) = r at hcon ⊢
  go_enter Try.func33, Try.ntmps33
  go_wp2_with fail
  refine (hcon _).mono ?_
  rintro e w' ⟨rfl, q, os', rfl⟩
  go_wp2_with fail
  go_ret
  exact ⟨rfl, q, _, by simp only [alloc_eq_grow, grow_grow, grow_drewN]; rfl⟩
theorem cmpLays (blk off size : Nat) (w : World) : CmpLays Try.prog 33 #[] Tch.cells 6 (fun x y => rise3 x.key y.key) blk off size w :=
  fun _ _ _ _ x y => closure_any x y _

theorem touch_agg : ∀ w, (isAgg 75).run Try.prog w = .ok true w := Try.isAgg75
theorem touch_size : ∀ w, (Go.sizeOf 75).run Try.prog w = .ok 6 w := Try.sizeOf75

def tchs (l : List Tch) : List Value := rows Tch.cells l
theorem tchs_length (l : List Tch) : (tchs l).length = l.length * 6 := rows_length Tch.cells 6 (fun _ => rfl) l
theorem tchs_at (l : List Tch) (n t : Nat) (h : n < l.length) (ht : t < 6) : (tchs l)[n * 6 + t]? = (l[n].cells)[t]? := rows_at Tch.cells 6 (fun _ => rfl) l n t h ht
theorem flat_tchs (l : List Tch) (t : Nat) (ht : t < l.length * 6) : (tchs l)[t]? = some ((flatK Tch.cells 6 l.toArray)[t]!) := by
  have h2 : t / 6 < l.length := by omega
  have hm : t % 6 < 6 := Nat.mod_lt _ (by omega)
  rw [get_flatK _ _ _ _ (by simpa using ht)]
  have e : t = t / 6 * 6 + t % 6 := by omega
  conv => lhs; rw [e, tchs_at l (t / 6) (t % 6) h2 hm]
  have h3 : l.toArray[t / 6]! = l[t / 6] := by simp [h2]
  rw [h3]
  generalize l[t / 6] = z
  generalize t % 6 = q at hm
  match q, hm with
  | 0, _ => rfl
  | 1, _ => rfl
  | 2, _ => rfl
  | 3, _ => rfl
  | 4, _ => rfl
  | 5, _ => rfl

theorem sort_own (base n : Nat) (pv : Value) (l : List Tch) (w : World) (hl : l.length = n) (hn : n ≤ 4611686018427387903) (hown : w.ownsRow base 75 6 pv n (tchs l)) :
    Calls Try.prog 32 #[pv, .func (.func 33) #[] #[]] w fun e w' => e = .returned (.tuple #[]) ∧
      ∃ l' : List Tch, l'.Perm l ∧ l'.Pairwise (fun a b => ¬ lt3 b.key a.key) ∧ w'.ownsRow base 75 6 pv n (tchs l') ∧ w.grownBy w' pv.ownBlock := by
  rcases hown.2 with ⟨rfl, rfl⟩ | ⟨g, cap, cur, rfl, hg, hh, hnc, hcm, hcs, htake⟩
  · obtain rfl : l = [] := List.eq_nil_of_length_eq_zero hl
    have h := AnyF.slices_SortFunc_none sortTouch none 0 (.func (.func 33) #[] #[]) w
    change Calls Try.prog 32 _ _ _ at h
    refine h.mono ?_
    rintro e w' ⟨rfl, rfl⟩
    exact ⟨rfl, [], List.Perm.refl _, .nil, hown, World.grownBy.refl _ _⟩
  · subst hl
    have hglt : g < w.heap.size := (Array.getElem?_eq_some_iff.1 hh).1
    have hH : HoldsK Tch.cells 6 w g 0 l.toArray := by
      intro j hj
      rw [size_flatK] at hj
      simp only [List.size_toArray] at hj
      have hc := hown.cellAt j hj
      rw [flat_tchs l j hj] at hc
      exact ⟨by rw [Nat.zero_add]; exact hc, hown.frozenAt _⟩
    have eg : ∀ args w, (callFunc 33 args).run Try.prog w = .ok (.enter 33 args) w := enters_of Try.func33 (by kernel_rfl) rfl
    have h := AnyQ.slices_SortFunc sortTouch 6 touch_agg touch_size Tch.cells (fun _ => rfl) (fun x v hv => by simp [Tch.cells] at hv; rcases hv with rfl | rfl | rfl | rfl | rfl | rfl <;> rfl) (fun x y => rise3 x.key y.key) swoT 33 #[] g 0 cap l.toArray w eg (cmpLays g 0 _ w) hH hglt (by simp; omega)
    change Calls Try.prog 32 _ _ _ at h
    rw [show l.toArray.size = l.length by simp] at h
    refine h.mono ?_
    rintro e w' ⟨rfl, d', q, os, hp, hs, rfl⟩
    obtain ⟨hsz, -, hperm⟩ := hp
    have hsz' : d'.size = l.length := by simpa using hsz
    have hp2 : d'.toList.Perm l := by
      have e1 : (d'.extract 0 l.length).toList = d'.toList := by rw [← hsz']; simp
      have e2 : ((l.toArray).extract 0 l.length).toList = l := by simp
      rw [e1, e2] at hperm
      exact hperm
    refine ⟨rfl, d'.toList, hp2, ?_, ?_, ?_⟩
    · rw [List.pairwise_iff_getElem]
      intro i j hi hj hij
      have := hs i j (Nat.zero_le _) hij (by simpa [hsz'] using hj)
      rw [ltT] at this
      simp only [Array.length_toList] at hi hj
      simp [hi, hj] at this
      simpa using this
    · refine ⟨by rw [tchs_length, Array.length_toList, hsz'], .inr ⟨g, cap, putCells id 0 (flatK Tch.cells 6 d') cur, rfl, hg, ?_, hnc, hcm, by simp [putCells, hcs], ?_⟩⟩
      · have hm : (w.heap.modify g (onCells (putCells id 0 (flatK Tch.cells 6 d'))))[g]? = some (.cells (putCells id 0 (flatK Tch.cells 6 d') cur) 75 (0, 0)) := by
          rw [Array.getElem?_modify, if_pos rfl, hh]
          rfl
        show (w.heap.modify g (onCells (putCells id 0 (flatK Tch.cells 6 d'))) ++ os)[g]? = _
        rw [Array.getElem?_append_left (by simpa using hglt)]
        exact hm
      · apply List.ext_getElem?
        intro t
        by_cases ht : t < l.length * 6
        · have h1 := flat_tchs d'.toList t (by rw [Array.length_toList, hsz']; exact ht)
          rw [Array.toArray_toList] at h1
          rw [h1, List.getElem?_take, if_pos ht, Array.getElem?_toList]
          have hc : t < cur.size := by rw [hcs]; have := Nat.mul_le_mul_right 6 hnc; omega
          have hf : t < 0 + (flatK Tch.cells 6 d').size := by rw [size_flatK, hsz']; omega
          simp only [putCells, Array.getElem?_mapIdx, Array.getElem?_eq_getElem hc, Option.map_some, Nat.zero_le, true_and, hf, if_true, Nat.sub_zero, id]
        · rw [List.getElem?_take, if_neg ht, List.getElem?_eq_none (by rw [tchs_length, Array.length_toList, hsz']; omega)]
    · refine ⟨rfl, rfl, rfl, ?_, fun i hi hne => ?_⟩
      · show w.heap.size ≤ (w.heap.modify g (onCells (putCells id 0 (flatK Tch.cells 6 d'))) ++ os).size
        simp
      · show (w.heap.modify g (onCells (putCells id 0 (flatK Tch.cells 6 d'))) ++ os)[i]? = w.heap[i]?
        rw [Array.getElem?_append_left (by simpa using hi), Array.getElem?_modify, if_neg (by rintro rfl; exact hne rfl)]
end Go.Proofs.Ytnpeldbnnneijaa
