/- Proves Rows.DictShapesSaid: for every input 'carousellaw17.DictShapes' returns true and each argument reads behind the call as it read before. Conditions: none beyond the row's own. -/
import Derived.Test.YtjggcidaolnmbaaS6
import Derived.Test.YtjggcidaolnmbaaArg2
namespace Go.Proofs.Ytjggcidaolnmbaa.dictShapes
open Go.RowKit Go.Joins Go.ChangeShapes Go.WideShapes Go.ChangeAt Go.Deep
set_option linter.unusedVariables false
set_option maxRecDepth 100000

theorem shapePost_open {K E : Int} {L : List (Int × Int)} {w w' : World} {e : Ending} (h : ShapePost (K, E, L) w e w') :
    ∃ P pc, e = .returned (.tuple #[.agg #[.int .i64 K, .slice none 0 0, .slice P L.length pc], .int .i64 E]) ∧ Reads w' w'.heap.size 2 P L.length (prs L) ∧ Below w.heap.size w w' := by
  obtain ⟨pv, he, hown, hb⟩ := h
  obtain ⟨P, pc, rfl, _, hP⟩ := own_shapes hown
  exact ⟨P, pc, he, hP, hb⟩

theorem walk (most : Int) (cs : List Int) (A : Option Addr) (n nc : Nat) (w : World) (hl : cs.length = n) (hn : n * 8 ≤ 140737488351232) (hA : Reads w w.heap.size 1 A n (ints cs)) :
    Calls Try.prog 10 #[.int .i64 most, .slice A n nc] w fun e w' => e = .returned (.bool true) ∧ Below w.heap.size w w' := by
  have HDA := dshape_any most cs
  have HRA := rshape_any most cs
  have h16 := shapeR_len most cs
  generalize shapeR most cs = D at HDA HRA h16
  obtain ⟨K, E, L⟩ := D
  simp only at h16
  have HDA' := Lib.hid HDA
  have HRA' := Lib.hid HRA
  have heE : (E == E) = true := by simp
  have heK : (K == K) = true := by simp
  clear HDA HRA
  go_enter Try.func10, Try.ntmps10
  go_wp2_with fail
  refine (numbers_any A n nc cs _ hn hA).mono ?_
  rintro e w1 ⟨v, rfl, hown, hb1⟩
  obtain ⟨V, vc, rfl, hvc, hV⟩ := own_shapes hown
  have hA1 := hA.below hb1
  have hs1 := hb1.size
  go_wp2_with fail
  refine (HDA'.out A n nc _ hl (by exact hA1.more hs1)).mono ?_
  intro e w2 h2
  obtain ⟨P, pc, rfl, hP, hb2⟩ := shapePost_open h2
  have hA2 := (hA1.more hs1).below hb2
  have hV2 := hV.below hb2
  have hs2 := hb2.size
  have hbw2 : Below w.heap.size w w2 := hb1.trans (hb2.mono hs1)
  clear h2 hown hb1 hA1 hV hb2
  go_wp2_with fail
  refine (HRA'.out V n vc _ hl (by exact ((hV2.more hs2).alloc (Nat.le_refl _) _).more (by simp))).mono ?_
  intro e w3 h3
  obtain ⟨Q, qc, rfl, hQ, hb3⟩ := shapePost_open h3
  have hB3 : Blk w3 w2.heap.size 47 #[.int .i64 K, .slice none 0 0, .slice P L.length pc] := (Blk.new w2 _ _).below hb3 (by simp)
  have hbw3 : Below w.heap.size w w3 := (hbw2.alloc hbw2.size _).trans (hb3.mono (B' := w.heap.size) (by simp; omega))
  have hA3 := ((hA2.more hs2).alloc (Nat.le_refl _) (.cells #[.int .i64 K, .slice none 0 0, .slice P L.length pc] 47)).below (hb3.mono (B' := w2.heap.size) (by simp))
  have hV3 := ((hV2.more hs2).alloc (Nat.le_refl _) (.cells #[.int .i64 K, .slice none 0 0, .slice P L.length pc] 47)).below (hb3.mono (B' := w2.heap.size) (by simp))
  have hP3 := (hP.alloc (Nat.le_refl _) (.cells #[.int .i64 K, .slice none 0 0, .slice P L.length pc] 47)).below (hb3.mono (B' := w2.heap.size) (by simp))
  have hs3 : w2.heap.size < w3.heap.size := hB3.lt
  have c0 : w3.cell? ⟨w2.heap.size, 0, none⟩ = some (.int .i64 K) := (hB3.cell 0).trans rfl
  have c1 : w3.cell? ⟨w2.heap.size, 1, none⟩ = some (.slice none 0 0) := (hB3.cell 1).trans rfl
  have c2 : w3.cell? ⟨w2.heap.size, 2, none⟩ = some (.slice P L.length pc) := (hB3.cell 2).trans rfl
  clear h3 hA2 hV2 hP hb3 hbw2 hA
  go_wp2_with fail
  refine (sameshape_yes K P Q L.length pc qc L _ (by omega) (by exact ((hP3.more (Nat.le_of_lt hs3)).alloc (Nat.le_refl _) _).more (by simp)) (by exact (hQ.alloc (Nat.le_refl _) _).more (by simp))).mono ?_
  rintro e w4 ⟨rfl, hb4⟩
  have hB4 := (hB3.alloc (.cells #[.int .i64 K, .slice none 0 0, .slice Q L.length qc] 47)).below hb4 (by simp; omega)
  have hC4 : Blk w4 w3.heap.size 47 #[.int .i64 K, .slice none 0 0, .slice Q L.length qc] := (Blk.new w3 _ _).below hb4 (by simp)
  have d0 : w4.cell? ⟨w2.heap.size, 0, none⟩ = some (.int .i64 K) := (hB4.cell 0).trans rfl
  have e0 : w4.cell? ⟨w3.heap.size, 0, none⟩ = some (.int .i64 K) := (hC4.cell 0).trans rfl
  have hbw4 : Below w.heap.size w w4 := (hbw3.alloc hbw3.size _).trans (hb4.mono (B' := w.heap.size) (by have := hbw3.size; simp; omega))
  have hA4 := ((hA3.more (Nat.le_of_lt hs3)).alloc (Nat.le_refl _) (.cells #[.int .i64 K, .slice none 0 0, .slice Q L.length qc] 47)).below (hb4.mono (B' := w3.heap.size) (by simp))
  have hV4 := ((hV3.more (Nat.le_of_lt hs3)).alloc (Nat.le_refl _) (.cells #[.int .i64 K, .slice none 0 0, .slice Q L.length qc] 47)).below (hb4.mono (B' := w3.heap.size) (by simp))
  clear hA3 hV3 hP3 hQ hb4 c0 c1 c2 hB3 hB4 hC4 hbw3
  go_wp2_with fail
  refine (same_yes A V n nc vc cs w4 w3.heap.size w3.heap.size (by omega) hA4 hV4).mono ?_
  rintro e w5 ⟨rfl, j, rfl⟩
  go_wp2_with fail
  go_ret
  exact ⟨rfl, below_drewN hbw4 _⟩

theorem opened {H : Type} (enc : TypeId × Value → H) (W : World) (b0 : Nat) (v0 : Value) (d0 : DataW H) (p0 : List MemPlace) (v1 : Value) (d1 : DataW H) (p1 : List MemPlace)
    (hv0 : Value.okWide Try.prog W .any b0 3 v0) (h0 : DataW.Trod enc Try.prog W 0 (fun _ => true) true 3 v0 d0 p0)
    (hv1 : Value.okWide Try.prog W .any b0 24 v1) (h1 : DataW.Trod enc Try.prog W 0 (fun _ => true) true 24 v1 d1 p1)
    (hsz : (DataW.weightsEach Try.prog [3, 24] [d0, d1]).all (· ≤ reachBytes) = true) :
    Calls Try.prog 10 #[v0, v1] W fun e W' => e = .returned (.bool true) ∧ Below W.heap.size W W' := by
  obtain ⟨a0, rfl, rfl, rfl, w0⟩ := open_int Try.underlying3 hv0 h0
  obtain ⟨A, n, nc, zs, rfl, hzl, hn, hnc, hA, wz, hd⟩ := param_ints Try.underlying24 Try.underlying2 (by kernel_rfl) (by kernel_rfl) hv1 h1
  exact walk a0 zs A n nc W hzl (hd hsz (j := 1) rfl rfl) hA

/-! ### The row -/
set_option maxRecDepth 100000 in
theorem lifted (os : Os) (started : os.Started) (H : Type) (enc : TypeId × Value → H) :
    ReturnsInHanded {} Try.checked os 10 .any (Rows.dictShapesSpec.pre6 enc Try.prog Try.f10 Rows.dictShapesRow.domain false) (Rows.dictShapesSpec.post enc Try.prog Try.f10 false true false false) := by
  refine returnsInHanded_of_change_sized (C := Try.checked) own started (by kernel_rfl) Try.func10
    (ChangeSpec.witness6 (enc := enc) (C := Try.checked) false ⟨#[], #[.int .i64 0, .slice none 0 0], []⟩ 8 (by kernel_rfl) (by kernel_rfl) (by kernel_rfl) (by kernel_rfl)) ?_
  intro W base args ds gs before hval0 hW hcnd hsz0 hholds
  have hval : ∀ (j : Nat) t v, Try.f10.params[j]? = some t → args[j]? = some v → Value.okWide Try.prog W .any base t v := hval0
  have hsz : (DataW.weightsEach Try.prog (Try.f10.params.toList ++ Rows.dictShapesSpec.plain.varTypes Try.prog) (ds ++ gs)).all (· ≤ reachBytes) = true := hsz0
  have hW' := hW
  obtain ⟨p, q, hA0, hV, rfl, hfz, hnd⟩ := hW
  have hA : DataW.TrodAll enc Try.prog W 0 (fun _ => true) true Try.f10.params.toList args.toList ds p := hA0
  obtain ⟨rfl, rfl⟩ := trodVars_none hV
  have hlt : ∀ x ∈ p, x.block < W.heap.size := fun x hx => hW'.lt x (by simpa using hx)
  rw [Try.params10] at hA hval hsz
  obtain ⟨v0, vs0, d0, ds0, p0, q0, hargs, rfl, rfl, h0, r0⟩ := trodAll_cons hA
  obtain ⟨v1, vs1, d1, ds1, p1, q1, rfl, rfl, rfl, h1, r1⟩ := trodAll_cons r0
  obtain ⟨rfl, rfl, rfl⟩ := trodAll_nil r1
  obtain rfl : args = #[v0, v1] := by cases args; simp_all
  clear hA0 hval0 hsz0
  refine (opened enc W base v0 d0 p0 v1 d1 p1 (hval 0 _ v0 rfl rfl) h0 (hval 1 _ v1 rfl rfl) h1 hsz).mono fun e W' ⟨he, bel⟩ => ?_
  subst he
  exact ⟨_, rfl, _, _, _, [], _, [], hW', trodAll_mk1 (shut_bool Try.underlying4 _), Below.trodAll laidOut (by intro t ht; have ht' : t ∈ [3, 24] := ht; clear ht; simp only [List.mem_cons, List.not_mem_nil, or_false] at ht'; rcases ht' with rfl | rfl <;> exact ⟨by kernel_rfl, of_decide_eq_true (by kernel_rfl)⟩) hA bel hlt, rfl, bel.frame _, fun h => by cases h⟩

theorem over : Rows.dictShapesRow.holds Try.pinned (OpenSpec.ofChange Rows.dictShapesSpec) :=
  OpenClaim.holds_of_wide 10 Try.f10 rfl rfl rfl rfl rfl rfl rfl ⟨rfl, rfl, rfl, rfl, rfl⟩ rfl rfl rfl rfl rfl (by kernel_rfl) Try.func10 (by kernel_rfl)
    (of_decide_eq_true (by kernel_rfl)) (by unfold Func.isWrapper; first | (rw [if_pos (by decide +kernel)]; kernel_rfl) | (rw [if_neg (by decide +kernel)]; exact ⟨rfl, rfl⟩))
    (fun os started H enc _ => lifted os started H enc)

/-- THE STATEMENT -/
theorem proved : Rows.DictShapesSaid := over
#print axioms proved
end Go.Proofs.Ytjggcidaolnmbaa.dictShapes
