/- carousellaw23.HistoryEnds returns true at every list of events and every number, its arguments reading as they read; the two listed variables as the program's text lays them. -/
import Derived.Test.YtffjcojehiblnaaGreatDoorPo
import Derived.Test.YtffjcojehiblnaaGreatDoorPz8
import Derived.Test.YtffjcojehiblnaaGreatDoorPx
import Derived.Test.YtffjcojehiblnaaGreatDoorCards
namespace Go.Proofs.YtffjcojehiblnaaGreatDoor.historyEnds
open Go.ChangeShapes Go.WideShapes Go.RowKit
set_option linter.unusedVariables false
set_option linter.unusedSimpArgs false
set_option maxRecDepth 100000

theorem opened {H : Type} (enc : TypeId × Value → H) (W : World) (b0 : Nat) (v0 v1 : Value) (d0 d1 : DataW H) (p0 p1 : List MemPlace) (ev : Addr) (hE : LaidAt W ev) (hv : Value.okWide Tryz.prog W .any b0 22 v0)
    (h0 : DataW.Trod enc Tryz.prog W 0 (fun _ => true) true 22 v0 d0 p0) (hv1 : Value.okWide Tryz.prog W .any b0 3 v1) (h1 : DataW.Trod enc Tryz.prog W 0 (fun _ => true) true 3 v1 d1 p1) (hsz : (DataW.weightsEach Tryz.prog [22, 3] [d0, d1]).all (· ≤ reachBytes) = true) :
    Calls Tryz.prog 4 #[v0, v1] W fun e W' => e = .returned (.bool true) ∧ Below W.heap.size W W' := by
  obtain ⟨N, rfl⟩ := okWide_int Tryz.underlying3 hv1
  obtain ⟨A, n, nc, l, rfl, hl, hn, hnc, hR, hs⟩ := param_evs hv h0
  exact law_ends A n nc N l ev W hl (hs hsz (j := 0) rfl rfl) hR hE (fun W' h => shown_any sorts_ok ev W' h)
/-! ### The card -/
set_option maxRecDepth 100000 in
theorem lifted (os : Os) (started : os.Started) (H : Type) (enc : TypeId × Value → H) :
    ReturnsInHanded {} Tryz.checked os 4 .any (fun w args => (Rows.historyEndsSpec.pre enc Tryz.prog Tryz.f4 [] false w args ∧ laidMetH Tryz.prog laidL w) ∧ sizedMet enc Tryz.prog Tryz.f4 (OpenSpec.ofChange Rows.historyEndsSpec) false w args)
      (Rows.historyEndsSpec.post enc Tryz.prog Tryz.f4 false true false false) := by
  refine returnsInHanded_of_change_and (C := Tryz.checked) (X := fun w _ => laidMetH Tryz.prog laidL w) (fun _ _ _ hh h => h.of_heap hh) own started (by kernel_rfl) Tryz.func4
    (ChangeSpec.witness_at (enc := enc) (C := Tryz.checked) (os := os) (X := fun w _ => laidMetH Tryz.prog laidL w) false (laidWorld os) #[.slice none 0 0, .int .i64 0] 8 rfl (by kernel_rfl) (by kernel_rfl) (by kernel_rfl) (by kernel_rfl) (by kernel_rfl) (laidWorld_met os _)) ?_
  intro W base args ds gs before hval0 hW _ hsz0 hL _
  have hval : ∀ (j : Nat) t v, Tryz.f4.params[j]? = some t → args[j]? = some v → Value.okWide Tryz.prog W .any base t v := hval0
  have hsz : (DataW.weightsEach Tryz.prog (Tryz.f4.params.toList ++ Rows.historyEndsSpec.plain.varTypes Tryz.prog) (ds ++ gs)).all (· ≤ reachBytes) = true := hsz0
  have hW' := hW
  obtain ⟨p, q, hA0, hV, rfl, hfz, hnd⟩ := hW
  have hA : DataW.TrodAll enc Tryz.prog W 0 (fun _ => true) true Tryz.f4.params.toList args.toList ds p := hA0
  obtain ⟨rfl, rfl⟩ := trodVars_none hV
  have hlt : ∀ x ∈ p, x.block < W.heap.size := fun x hx => hW'.lt x (by simpa using hx)
  rw [Tryz.params4] at hA hval hsz
  obtain ⟨v0, vs0, d0, ds0, p0, q0, hargs, rfl, rfl, h0, r0⟩ := trodAll_cons hA
  obtain ⟨v1, vs1, d1, ds1, p1, q1, rfl, rfl, rfl, h1, r1⟩ := trodAll_cons r0
  obtain ⟨rfl, rfl, rfl⟩ := trodAll_nil r1
  obtain rfl : args = #[v0, v1] := by cases args; simp_all
  clear hA0 hval0 hsz0
  obtain ⟨ev, hE⟩ := laid_at hL
  refine (opened enc W base v0 v1 d0 d1 p0 p1 ev hE (hval 0 _ v0 rfl rfl) h0 (hval 1 _ v1 rfl rfl) h1 hsz).mono fun e W' ⟨he, bel⟩ => ?_
  subst he
  exact ⟨_, rfl, _, _, _, [], _, [], hW', trodAll_mk1 (shut_bool Tryz.underlying4 _), Below.trodAll laidOut (by intro t ht; have ht' : t ∈ [22, 3] := ht; clear ht; simp only [List.mem_cons, List.not_mem_nil, or_false] at ht'; rcases ht' with rfl | rfl <;> exact ⟨by kernel_rfl, of_decide_eq_true (by kernel_rfl)⟩) hA bel hlt, rfl, bel.frame _, fun h => by cases h⟩

theorem over : Rows.historyEndsRow.holds Tryz.pinned (OpenSpec.ofChange Rows.historyEndsSpec) :=
  OpenClaim.holds_of_wide 4 Tryz.f4 rfl rfl rfl rfl rfl rfl rfl ⟨rfl, rfl, rfl, rfl, rfl⟩ rfl rfl rfl rfl rfl (by kernel_rfl) Tryz.func4 (by kernel_rfl)
    (of_decide_eq_true (by kernel_rfl)) (by unfold Func.isWrapper; first | (rw [if_pos (by decide +kernel)]; kernel_rfl) | (rw [if_neg (by decide +kernel)]; exact ⟨rfl, rfl⟩))
    (fun os started H enc _ => lifted os started H enc)

/-- THE STATEMENT -/
theorem proved : Rows.HistoryEndsCardSaid :=
  Claim7.holds_tied_plain_at .later [] [.handle, .sentinel] true (true, "06f883db52394a3574326fa438c4ebff54d05d2309f4965430dc575f290d2356") true
    over (fun _ h => by cases h) (by kernel_rfl) (fun _ h => by cases h) historyEnds_row_tie rfl ⟨rfl, rfl⟩ (by kernel_rfl) rfl
    (fun f fn hf hfn => by
      obtain rfl : f = 4 := Option.some.inj ((show Tryz.prog.funcNamed "carousel/carousellaw23.HistoryEnds" = some 4 by kernel_rfl).symm.trans hf) |>.symm
      obtain rfl : fn = Tryz.f4 := (Option.some.inj (Tryz.func4.symm.trans hfn)).symm
      exact ⟨by kernel_rfl, fun j t ht => by
        rw [Tryz.params4] at ht
        have h3 : t = 22 ∨ t = 3 := by
          rcases j with _ | j
          · exact .inl (by simpa using ht.symm)
          · rcases j with _ | j
            · exact .inr (by simpa using ht.symm)
            · simp at ht
        rcases h3 with rfl | rfl
        · exact (show Tryz.prog.wantsStandIn 22 = false by kernel_rfl)
        · exact (show Tryz.prog.wantsStandIn 3 = false by kernel_rfl)⟩)
    (by kernel_rfl)
#print axioms proved
end Go.Proofs.YtffjcojehiblnaaGreatDoor.historyEnds
