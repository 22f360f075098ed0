/- carousellaw24.ScriptPrints returns true at all arguments of bulk at most 1048576, which read as they read; the listed variables as the program's text lays them. -/
import Derived.Test.YtiheggkkgbfndaaGreatDoorK46
import Derived.Test.YtiheggkkgbfndaaGreatDoorCards
namespace Go.Proofs.YtiheggkkgbfndaaGreatDoor.scriptPrints
open Go.ChangeShapes Go.WideShapes Go.ChangeAt Go.RowKit Go.Lib
set_option linter.unusedVariables false
set_option linter.unusedSimpArgs false
set_option maxRecDepth 100000

theorem envp {W : World} (h : laidMetH Tryz.prog Rows.scriptPrintsUptoRow.laid W) (hS : W.ShapedOpen Tryz.prog) : EnvP W.heap.size W := by
 have h' : laidMet Tryz.prog Rows.scriptPrintsUptoRow.laid W := h
 exact envp_of h' ⟨laidMet.reads h' (by simp [Rows.scriptPrintsUptoRow]), laidMet.reads h' (by simp [Rows.scriptPrintsUptoRow]), laidMet.reads h' (by simp [Rows.scriptPrintsUptoRow]), laidMet.reads h' (by simp [Rows.scriptPrintsUptoRow])⟩ hS rfl rfl
theorem contract (H : Type) (enc : TypeId × Value → H) (W : World) (base : Nat) (args : Array Value) (ds gs : List (DataW H)) (before : List MemPlace)
  (hval : ∀ (j : Nat) t v, Tryz.f4.params[j]? = some t → args[j]? = some v → Value.okWide Tryz.prog W .any base t v)
  (hW : DataW.Whole enc Tryz.prog Tryz.f4.params.toList Rows.scriptPrintsSpec.vars false W args.toList ds gs before) (hL : laidMetH Tryz.prog Rows.scriptPrintsUptoRow.laid W) (hS : W.ShapedOpen Tryz.prog)
  (hk : Rows.uptoSmall H (ds ++ gs) = true) :
  Calls Tryz.prog 4 args W fun e W' => ∃ v, e = .returned v ∧ Rows.scriptPrintsSpec.post enc Tryz.prog Tryz.f4 false true false false W args v W' := by
 have hW' := hW
 obtain ⟨p, q, hA0, hV, rfl, hfz, hnd⟩ := hW
 have hA : DataW.TrodAll enc Tryz.prog W 0 (fun _ => true) true Tryz.f4.params.toList args.toList ds p := hA0
 rw [Tryz.params4] at hA hval
 obtain ⟨v0, vs0, d0, ds0, p0, q0, hargs0, rfl, rfl, h0, r0⟩ := trodAll_cons hA
 obtain ⟨v1, vs1, d1, ds1, p1, q1, hargs1, rfl, rfl, h1, r1⟩ := trodAll_cons r0
 obtain ⟨rfl, rfl, rfl⟩ := trodAll_nil r1
 obtain rfl : args = #[v0, v1] := by cases args; simp_all
 obtain ⟨rfl, rfl⟩ := trodVars_none hV
 have hbulk : Rows.uptoBulkAll [d0, d1] ≤ 1048576 := of_decide_eq_true hk
 simp only [Rows.uptoBulkAll] at hbulk
 obtain ⟨cs, rfl, hz⟩ := okWide_struct Tryz.underlying29 (hval 0 29 v0 rfl rfl)
 obtain ⟨fuel0, hf0⟩ := h0
 have hf0' : DataW.trod enc Tryz.prog W 0 (fun _ => true) true fuel0 29 cs.toList = some (d0, p0) := by simpa [Value.cells] using hf0
 obtain ⟨s, rv, pv, tv, ec, hSR, hpl, h64⟩ := setup_open hf0'
 obtain rfl : cs = setupC s.cfg rv pv tv := Array.ext' ec
 obtain ⟨a, ln, cp, rfl⟩ := okWide_slice Tryz.underlying30 (hval 1 30 v1 rfl rfl)
 obtain ⟨fuel1, hf1⟩ := h1
 have hf1' : DataW.trod enc Tryz.prog W 0 (fun _ => true) true fuel1 30 [.slice a ln cp] = some (d1, p1) := by simpa [Value.cells] using hf1
 obtain ⟨l, hLR, hml, hl64⟩ := lines_open hf1'
 have hlt := fun (x : MemPlace) hx => hW'.lt x hx
 simp only at hml hpl
 simp only [List.append_nil] at hW' hlt hA
 clear hA0
 refine (law_prints24 s l rv pv tv _ W (envp hL hS) hSR hLR (by omega) (by omega) (fun p hp => by have := hpl p hp; omega) h64 hl64).mono fun e W' ⟨he, bel⟩ => ?_
 subst he
 exact ⟨_, rfl, _, _, _, [], _, [], hW', trodAll_mk1 (shut_bool Tryz.underlying4 _), Below.trodAll laidOut (by intro t ht; have ht' : t ∈ ([29, 30] : List TypeId) := ht; clear ht; simp only [List.mem_cons, List.not_mem_nil, or_false] at ht'; rcases ht' with rfl | rfl <;> exact ⟨by kernel_rfl, of_decide_eq_true (by kernel_rfl)⟩) hA bel hlt, rfl, bel.frame _, fun h => by cases h⟩
theorem laid_met (os : Os) : laidMet Tryz.prog Rows.scriptPrintsUptoRow.laid ((parseWorld os).forCall (fun _ _ => 0) ⟨#[], #[.agg #[.int .i64 0, .int .i64 0, .int .i64 0, .int .i64 0, .bool false, .int .i64 0, .slice none 0 0, .slice none 0 0, .slice none 0 0], .slice none 0 0], []⟩).memory :=
 laidMet_of_runs 10 4294967296 (by kernel_rfl) (by kernel_rfl) (by kernel_rfl)
theorem reads (os : Os) {H : Type} (enc : TypeId × Value → H) : ∃ places, DataW.whole enc Tryz.prog ((parseWorld os).forCall (fun _ _ => 0) ⟨#[], #[.agg #[.int .i64 0, .int .i64 0, .int .i64 0, .int .i64 0, .bool false, .int .i64 0, .slice none 0 0, .slice none 0 0, .slice none 0 0], .slice none 0 0], []⟩).memory Tryz.f4.params.toList Rows.scriptPrintsSpec.vars false #[Value.agg #[.int .i64 0, .int .i64 0, .int .i64 0, .int .i64 0, .bool false, .int .i64 0, .slice none 0 0, .slice none 0 0, .slice none 0 0], Value.slice none 0 0].toList 8 = some ([.agg [.agg [.lit (.int .i64 0), .lit (.int .i64 0), .lit (.int .i64 0), .lit (.int .i64 0), .lit (.bool false), .lit (.int .i64 0), .nil], .nil, .nil], .nil], [], places) :=
 ⟨[], by kernel_rfl⟩
set_option maxRecDepth 100000 in
theorem lifted (os : Os) (started : os.Started) (H : Type) (enc : TypeId × Value → H) (F : Stop.Interp) :
  ReturnsInHanded {} Tryz.checked os 4 .any ((Rows.OpenSpec.upto Rows.scriptPrintsSpec).preRow enc Tryz.prog Tryz.f4 Rows.scriptPrintsUptoRow.domain false Rows.scriptPrintsUptoRow.laid) (((Rows.OpenSpec.upto Rows.scriptPrintsSpec).at F).post enc Tryz.prog Tryz.f4 false true false false) := by
 obtain ⟨places, hx⟩ := reads os enc
 refine returnsInHanded_of_row (C := Tryz.checked) (s := Rows.OpenSpec.upto Rows.scriptPrintsSpec) own started (by kernel_rfl) Tryz.func4
  (witness_row_atRef (enc := enc) (C := Tryz.checked) false (parseWorld os) #[.agg #[.int .i64 0, .int .i64 0, .int .i64 0, .int .i64 0, .bool false, .int .i64 0, .slice none 0 0, .slice none 0 0, .slice none 0 0], .slice none 0 0] rfl (by kernel_rfl) (by kernel_rfl) (by kernel_rfl)
   (OpenSpec.preRow_of_cond 8 hx (by kernel_rfl) (fun k hk => by cases hk; kernel_rfl) (by kernel_rfl) (laid_met os))) ?_
 intro W base args ds gs before hval hW _ hcond _ hL hS _
 exact contract H enc W base args ds gs before hval hW hL hS (hcond _ rfl)
theorem said : Rows.ScriptPrintsUptoSaid :=
 OpenClaim.holds_of_cond 4 Tryz.f4 rfl rfl rfl rfl rfl rfl rfl ⟨rfl, rfl, rfl, rfl, rfl⟩ rfl rfl rfl rfl rfl (by kernel_rfl) Tryz.func4 (by kernel_rfl)
  (of_decide_eq_true (by kernel_rfl)) (by unfold Func.isWrapper; first | (rw [if_pos (by decide +kernel)]; kernel_rfl) | (rw [if_neg (by decide +kernel)]; exact ⟨rfl, rfl⟩))
  (fun os started H enc _ F => by rw [OpenClaim.pre_eq_preRow]; exact lifted os started H enc F)
theorem plain (f : FuncId) (fn : Func) (hf : Tryz.pinned.checked.prog.funcNamed "carousel/carousellaw24.ScriptPrints" = some f) (hfn : Tryz.pinned.checked.prog.funcs[f]? = some fn) :
  true = Tryz.pinned.checked.prog.looks [] ∧ ∀ (j : Nat) t, fn.params[j]? = some t → Tryz.pinned.checked.prog.wantsStandIn t = false := by
 obtain rfl : f = 4 := Option.some.inj ((show Tryz.prog.funcNamed "carousel/carousellaw24.ScriptPrints" = some 4 by kernel_rfl).symm.trans hf) |>.symm
 obtain rfl : fn = Tryz.f4 := (Option.some.inj (Tryz.func4.symm.trans hfn)).symm
 refine ⟨by kernel_rfl, fun j t ht => ?_⟩
 rw [Tryz.params4] at ht
 have ht' : t = 29 ∨ t = 30 := by simpa using Array.mem_of_getElem? ht
 rcases ht' with rfl | rfl
 ·exact (show Tryz.prog.wantsStandIn 29 = false by kernel_rfl)
 ·exact (show Tryz.prog.wantsStandIn 30 = false by kernel_rfl)
theorem proved : Rows.ScriptPrintsUptoCardSaid :=
 Claim7.holds_tied_plain_at .later [] _ _ _ _ said (fun _ h => by cases h) (by kernel_rfl) (fun _ h => by cases h) scriptPrintsUpto_row_tie rfl ⟨rfl, rfl⟩ (by kernel_rfl) rfl plain (by kernel_rfl)
#print axioms proved
end Go.Proofs.YtiheggkkgbfndaaGreatDoor.scriptPrints
