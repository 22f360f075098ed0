/- Proves Rows.DictPlaysSaid: for every input 'carousellaw17.DictPlays' returns true and each argument reads behind the call as it read before. Conditions: none beyond the row's own. -/
import Derived.Test.YtjggcidaolnmbaaDpl
import Derived.Test.YtjggcidaolnmbaaDr1
namespace Go.Proofs.Ytjggcidaolnmbaa.dictPlays
open Go.RowKit Go.Joins Go.ChangeShapes Go.WideShapes Go.ChangeAt Go.Deep
set_option linter.unusedVariables false
set_option maxRecDepth 100000

theorem below_of_only {a w : World} {g B : Nat} (h : a.grownBy w (some g)) (hB : B ≤ g) (hs : B ≤ a.heap.size) : Below B a w :=
  ⟨h.os, h.tape, h.output, h.size, fun q hq => h.block q (by omega) (by intro hh; injection hh with hh; omega)⟩

theorem walk_yes (base most call : Int) (args words : List Int) (A Wd : Option Addr) (n nc m mc : Nat) (w : World) (hn : n ≤ 9223372036854775807) (hm : m * 8 ≤ 140737488351232)
    (hA : Reads w w.heap.size 1 A n (ints args)) (hR : Reads w w.heap.size 1 Wd m (ints words)) (hok : callOk base most call args) :
    Calls Try.prog 4 #[.agg #[.int .i64 base, .int .i64 most, .int .i64 call, .slice A n nc, .slice Wd m mc]] w fun e w' => e = .returned (.bool true) ∧ Below w.heap.size w w' := by
  have HOK := Lib.hid hok
  clear hok
  go_enter Try.func4, Try.ntmps4
  go_wp2_with fail
  refine (new_yes base most call args A n nc w.heap.size _ hn (by exact hA.alloc (Nat.le_refl _) _) HOK.out).mono ?_
  rintro e w1 ⟨rfl, hM, hb1⟩
  have hB0 : Blk w1 w.heap.size 26 #[.int .i64 base, .int .i64 most, .int .i64 call, .slice A n nc, .slice Wd m mc] := (Blk.new w _ _).below hb1 (by simp)
  have c0 : w1.cell? ⟨w.heap.size, 0, none⟩ = some (.int .i64 base) := (hB0.cell 0).trans rfl
  have c1 : w1.cell? ⟨w.heap.size, 1, none⟩ = some (.int .i64 most) := (hB0.cell 1).trans rfl
  have c2 : w1.cell? ⟨w.heap.size, 2, none⟩ = some (.int .i64 call) := (hB0.cell 2).trans rfl
  have c3 : w1.cell? ⟨w.heap.size, 3, none⟩ = some (.slice A n nc) := (hB0.cell 3).trans rfl
  have c4 : w1.cell? ⟨w.heap.size, 4, none⟩ = some (.slice Wd m mc) := (hB0.cell 4).trans rfl
  have hbw : Below w.heap.size w w1 := ((Below.refl _ _).alloc (Nat.le_refl _) _).trans (hb1.mono (B' := w.heap.size) (by simp))
  have hs1 : w.heap.size + 1 ≤ w1.heap.size := by have := hb1.size; simpa using this
  have hM' : MIs w1 (w.heap.size + 1) (startF base most call args) (fun _ => False) := by simpa using hM
  clear hM
  go_wp2_with fail
  refine (right_yes base most call args A n nc w.heap.size _ (by exact hA.below hbw) HOK.out).mono ?_
  rintro e w2 ⟨rfl, rfl⟩
  go_wp2_with fail
  refine (play_any base most call args words A Wd n nc m mc _ (w.heap.size + 1) (fun _ => False) hn hm (fun _ h => h.elim) w.heap.size (by omega) (by exact hA.below hbw) (by exact hR.below hbw) HOK.out hM').mono ?_
  rintro e w2 ⟨rfl, hg⟩
  go_wp2
  go_ret
  exact ⟨rfl, hbw.trans (below_of_only hg (by omega) (by omega))⟩

theorem walk_no (base most call : Int) (args : List Int) (A Wd : Option Addr) (n nc m mc : Nat) (w : World) (hn : n ≤ 9223372036854775807)
    (hA : Reads w w.heap.size 1 A n (ints args)) (hno : ¬ callOk base most call args) :
    Calls Try.prog 4 #[.agg #[.int .i64 base, .int .i64 most, .int .i64 call, .slice A n nc, .slice Wd m mc]] w fun e w' => e = .returned (.bool true) ∧ Below w.heap.size w w' := by
  have HNO := Lib.hid hno
  clear hno
  go_enter Try.func4, Try.ntmps4
  go_wp2_with fail
  refine (new_no base most call args A n nc w.heap.size _ hn (by exact hA.alloc (Nat.le_refl _) _) HNO.out).mono ?_
  rintro e w1 ⟨rfl, rfl⟩
  go_wp2_with fail
  refine (right_no base most call args A n nc w.heap.size _ (by exact hA.alloc (Nat.le_refl _) _) HNO.out).mono ?_
  rintro e w2 ⟨rfl, rfl⟩
  go_wp2_with fail
  go_ret
  exact ⟨rfl, (Below.refl _ _).alloc (Nat.le_refl _) _⟩

theorem opened {H : Type} (enc : TypeId × Value → H) (W : World) (b0 : Nat) (v0 : Value) (d0 : DataW H) (p0 : List MemPlace) (hv : Value.okWide Try.prog W .any b0 26 v0)
    (h0 : DataW.Trod enc Try.prog W 0 (fun _ => true) true 26 v0 d0 p0) (hsz : (DataW.weightsEach Try.prog [26] [d0]).all (· ≤ reachBytes) = true) :
    Calls Try.prog 4 #[v0] W fun e W' => e = .returned (.bool true) ∧ Below W.heap.size W W' := by
  obtain ⟨base, most, call, args, words, A, Wd, n, nc, m, mc, rfl, hn, hnc, hm, hmc, hA, hB, _, hsize⟩ := asked_open hv h0
  have hms := (hsize hsz (j := 0) rfl rfl).2
  by_cases hok : callOk base most call args
  · exact walk_yes base most call args words A Wd n nc m mc W (by omega) hms hA hB hok
  · exact walk_no base most call args A Wd n nc m mc W (by omega) hA hok

/-! ### The row -/
set_option maxRecDepth 100000 in
theorem lifted (os : Os) (started : os.Started) (H : Type) (enc : TypeId × Value → H) :
    ReturnsInHanded {} Try.checked os 4 .any (Rows.dictPlaysSpec.pre6 enc Try.prog Try.f4 Rows.dictPlaysRow.domain false) (Rows.dictPlaysSpec.post enc Try.prog Try.f4 false true false false) := by
  refine returnsInHanded_of_change_sized (C := Try.checked) own started (by kernel_rfl) Try.func4
    (ChangeSpec.witness6 (enc := enc) (C := Try.checked) false ⟨#[], #[.agg #[.int .i64 0, .int .i64 0, .int .i64 0, .slice none 0 0, .slice none 0 0]], []⟩ 8 (by kernel_rfl) (by kernel_rfl) (by kernel_rfl) (by kernel_rfl)) ?_
  intro W base args ds gs before hval0 hW hcnd hsz0 hholds
  have hval : ∀ (j : Nat) t v, Try.f4.params[j]? = some t → args[j]? = some v → Value.okWide Try.prog W .any base t v := hval0
  have hsz : (DataW.weightsEach Try.prog (Try.f4.params.toList ++ Rows.dictPlaysSpec.plain.varTypes Try.prog) (ds ++ gs)).all (· ≤ reachBytes) = true := hsz0
  have hW' := hW
  obtain ⟨p, q, hA0, hV, rfl, hfz, hnd⟩ := hW
  have hA : DataW.TrodAll enc Try.prog W 0 (fun _ => true) true Try.f4.params.toList args.toList ds p := hA0
  obtain ⟨rfl, rfl⟩ := trodVars_none hV
  have hlt : ∀ x ∈ p, x.block < W.heap.size := fun x hx => hW'.lt x (by simpa using hx)
  rw [Try.params4] at hA hval hsz
  obtain ⟨v0, vs0, d0, ds0, p0, q0, hargs, rfl, rfl, h0, r0⟩ := trodAll_cons hA
  obtain ⟨rfl, rfl, rfl⟩ := trodAll_nil r0
  obtain rfl : args = #[v0] := by cases args; simp_all
  clear hA0 hval0 hsz0
  refine (opened enc W base v0 d0 p0 (hval 0 _ v0 rfl rfl) h0 hsz).mono fun e W' ⟨he, bel⟩ => ?_
  subst he
  exact ⟨_, rfl, _, _, _, [], _, [], hW', trodAll_mk1 (shut_bool Try.underlying4 _), Below.trodAll laidOut (by intro t ht; have ht' : t ∈ [26] := ht; clear ht; simp only [List.mem_cons, List.not_mem_nil, or_false] at ht'; rcases ht' with rfl <;> exact ⟨by kernel_rfl, of_decide_eq_true (by kernel_rfl)⟩) hA bel hlt, rfl, bel.frame _, fun h => by cases h⟩

theorem over : Rows.dictPlaysRow.holds Try.pinned (OpenSpec.ofChange Rows.dictPlaysSpec) :=
  OpenClaim.holds_of_wide 4 Try.f4 rfl rfl rfl rfl rfl rfl rfl ⟨rfl, rfl, rfl, rfl, rfl⟩ rfl rfl rfl rfl rfl (by kernel_rfl) Try.func4 (by kernel_rfl)
    (of_decide_eq_true (by kernel_rfl)) (by unfold Func.isWrapper; first | (rw [if_pos (by decide +kernel)]; kernel_rfl) | (rw [if_neg (by decide +kernel)]; exact ⟨rfl, rfl⟩))
    (fun os started H enc _ => lifted os started H enc)

/-- THE STATEMENT -/
theorem proved : Rows.DictPlaysSaid := over
#print axioms proved
end Go.Proofs.Ytjggcidaolnmbaa.dictPlays
