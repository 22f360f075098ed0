/- Proves Rows.PlainPlaysSaid: for every input 'carousellaw20.PlainPlays' returns true and each argument reads behind the call as it read before. Conditions: none beyond the row's own. -/
import Derived.Test.YtpmpgnhbpneloaaRe
namespace Go.Proofs.Ytpmpgnhbpneloaa.plainPlays
open Go.RowKit Go.Joins Go.ChangeShapes Go.WideShapes Go.ChangeAt Go.Deep
set_option linter.unusedVariables false
set_option maxRecDepth 100000

theorem walk_no (c : Cfg) (regs : List Reg) (A : Option Addr) (n nc : Nat) (u : Value) (w : World) (hl : regs.length = n) (hn : n ≤ 9223372036854775807) (hA : Reads w w.heap.size 2 A n (rows Reg.cells regs)) (hno : ¬ cfgOk c regs) :
    Calls Try.prog 6 #[.agg #[.int .i64 c.raw, .int .i64 c.ring, .int .i64 c.writes, .int .i64 c.stamps, .bool c.multi, .int .i64 c.tries, .slice A n nc], u] w fun e w' => e = .returned (.bool true) ∧ Below w.heap.size w w' := by
  have HNO := Lib.hid hno
  clear hno
  go_enter Try.func6, Try.ntmps6
  go_wp2_with fail
  refine (both_no c regs A n nc _ hl hn (by exact (hA.alloc (Nat.le_refl _) _).more (by simp)) HNO.out).mono ?_
  rintro e w1 ⟨rfl, hb⟩
  go_wp2_with fail
  go_ret
  exact ⟨rfl, (by refine Below.trans ?_ (hb.mono (by simp)); repeat (first | with_reducible exact Below.refl _ _ | with_reducible refine Below.drew ?_ | with_reducible refine below_drewN ?_ _ | ((with_reducible refine Below.alloc ?_ ?_ _); (rotate_left; focus (first | with_reducible exact Nat.le_refl _ | omega | (simp; done) | (simp; omega) | (simp [World.setCell]; done) | (simp [World.setCell]; omega)))) | ((with_reducible refine Below.setCell ?_ ?_ _); (rotate_left; focus (first | with_reducible exact Nat.le_refl _ | omega | (simp; done) | (simp; omega) | (simp [World.setCell]; done) | (simp [World.setCell]; omega))))))⟩

theorem walk_yes (c : Cfg) (regs : List Reg) (A : Option Addr) (n nc R : Nat) (l : List StepZ) (B : Option Addr) (m mc : Nat) (w : World) (hl : regs.length = n) (hA : Reads w w.heap.size 2 A n (rows Reg.cells regs)) (hok : cfgOk c regs) (hR : c.raw = (R : Int)) (hR1 : 1 ≤ R) (hR64 : R ≤ 64)
    (hm : m ≤ 9223372036854775807) (hll : l.length = m) (hB : Reads w w.heap.size 6 B m (rows StepZ.cells l)) (hz : ∀ z ∈ l, StepZ.Good w z) :
    Calls Try.prog 6 #[.agg #[.int .i64 c.raw, .int .i64 c.ring, .int .i64 c.writes, .int .i64 c.stamps, .bool c.multi, .int .i64 c.tries, .slice A n nc], .slice B m mc] w fun e w' => e = .returned (.bool true) ∧ Below w.heap.size w w' := by
  have hn8 : n ≤ 8 := by rw [← hl]; exact hok.2.2.2.2.2.2.2.2.2.2.1
  have HOK := Lib.hid hok
  have HR := Lib.hid hR
  have HZ := Lib.hid hz
  have HB := Lib.hid hB
  clear hok hR hz hB
  go_enter Try.func6, Try.ntmps6
  go_wp2_with fail
  refine (both_yes c regs A n nc R _ hl hn8 (by exact (hA.alloc (Nat.le_refl _) _).more (by simp)) HOK.out HR.out hR64).mono ?_
  intro e w1 hbp
  obtain ⟨s, s', S, rfl, hBI, hb⟩ := both_is (base := w.heap.size) hbp HOK.out hR1 hR64 (by simp)
  have hbel : Below w.heap.size w w1 := (by refine Below.trans ?_ (hb.mono (by simp)); repeat (first | with_reducible exact Below.refl _ _ | with_reducible refine Below.drew ?_ | with_reducible refine below_drewN ?_ _ | ((with_reducible refine Below.alloc ?_ ?_ _); (rotate_left; focus (first | with_reducible exact Nat.le_refl _ | omega | (simp; done) | (simp; omega) | (simp [World.setCell]; done) | (simp [World.setCell]; omega)))) | ((with_reducible refine Below.setCell ?_ ?_ _); (rotate_left; focus (first | with_reducible exact Nat.le_refl _ | omega | (simp; done) | (simp; omega) | (simp [World.setCell]; done) | (simp [World.setCell]; omega))))))
  have HBI := Lib.hid hBI
  have HBEL := Lib.hid hbel
  clear hbp hBI hb hbel
  go_wp2_with fail
  refine (plays_any l B m mc s s' w.heap.size _ _ S w1 HBI.out HBEL.out.size hm hll (HB.out.below HBEL.out) fun z hz => ⟨(HZ.out z hz).1, (HZ.out z hz).2.1, (HZ.out z hz).2.2.below HBEL.out⟩).mono ?_
  rintro e w2 ⟨rfl, raw', ts', hst⟩
  have HF := Lib.hid (HBEL.out.trans (hst.belowb (fun b hb => (HBI.out.1 b hb).1) HBEL.out.size))
  clear hst
  go_wp2_with fail
  go_ret
  exact ⟨rfl, HF.out⟩

theorem opened {H : Type} (enc : TypeId × Value → H) (W : World) (b0 : Nat) (v0 : Value) (d0 : DataW H) (p0 : List MemPlace) (v1 : Value) (d1 : DataW H) (p1 : List MemPlace)
    (hv0 : Value.okWide Try.prog W .any b0 24 v0) (h0 : DataW.Trod enc Try.prog W 0 (fun _ => true) true 24 v0 d0 p0)
    (hv1 : Value.okWide Try.prog W .any b0 44 v1) (h1 : DataW.Trod enc Try.prog W 0 (fun _ => true) true 44 v1 d1 p1)
    (hsz : (DataW.weightsEach Try.prog [24, 44] [d0, d1]).all (· ≤ reachBytes) = true) :
    Calls Try.prog 6 #[v0, v1] W fun e W' => e = .returned (.bool true) ∧ Below W.heap.size W W' := by
  obtain ⟨c, A, n, nc, regs, rfl, hl, hn, hA⟩ := open_cfg hv0 h0
  obtain ⟨B, m, mc, l, rfl, hll, hm, hB, hz⟩ := param_steps hv1 h1
  by_cases hok : cfgOk c regs
  · obtain ⟨R, hR⟩ := Int.eq_ofNat_of_zero_le (show 0 ≤ c.raw by have := hok.1; omega)
    have h1 := hok.1
    have h2 := hok.2.1
    exact walk_yes c regs A n nc R l B m mc W hl hA hok hR (by omega) (by omega) hm hll hB hz
  · exact walk_no c regs A n nc _ W hl hn hA hok

/-! ### The row -/
set_option maxRecDepth 100000 in
theorem lifted (os : Os) (started : os.Started) (H : Type) (enc : TypeId × Value → H) :
    ReturnsInHanded {} Try.checked os 6 .any (Rows.plainPlaysSpec.pre6 enc Try.prog Try.f6 Rows.plainPlaysRow.domain false) (Rows.plainPlaysSpec.post enc Try.prog Try.f6 false true false false) := by
  refine returnsInHanded_of_change_sized (C := Try.checked) own started (by kernel_rfl) Try.func6
    (ChangeSpec.witness6 (enc := enc) (C := Try.checked) false ⟨#[], #[.agg #[.int .i64 0, .int .i64 0, .int .i64 0, .int .i64 0, .bool false, .int .i64 0, .slice none 0 0], .slice none 0 0], []⟩ 8 (by kernel_rfl) (by kernel_rfl) (by kernel_rfl) (by kernel_rfl)) ?_
  intro W base args ds gs before hval0 hW hcnd hsz0 hholds
  have hval : ∀ (j : Nat) t v, Try.f6.params[j]? = some t → args[j]? = some v → Value.okWide Try.prog W .any base t v := hval0
  have hsz : (DataW.weightsEach Try.prog (Try.f6.params.toList ++ Rows.plainPlaysSpec.plain.varTypes Try.prog) (ds ++ gs)).all (· ≤ reachBytes) = true := hsz0
  have hW' := hW
  obtain ⟨p, q, hA0, hV, rfl, hfz, hnd⟩ := hW
  have hA : DataW.TrodAll enc Try.prog W 0 (fun _ => true) true Try.f6.params.toList args.toList ds p := hA0
  obtain ⟨rfl, rfl⟩ := trodVars_none hV
  have hlt : ∀ x ∈ p, x.block < W.heap.size := fun x hx => hW'.lt x (by simpa using hx)
  rw [Try.params6] at hA hval hsz
  obtain ⟨v0, vs0, d0, ds0, p0, q0, hargs, rfl, rfl, h0, r0⟩ := trodAll_cons hA
  obtain ⟨v1, vs1, d1, ds1, p1, q1, rfl, rfl, rfl, h1, r1⟩ := trodAll_cons r0
  obtain ⟨rfl, rfl, rfl⟩ := trodAll_nil r1
  obtain rfl : args = #[v0, v1] := by cases args; simp_all
  clear hA0 hval0 hsz0
  refine (opened enc W base v0 d0 p0 v1 d1 p1 (hval 0 _ v0 rfl rfl) h0 (hval 1 _ v1 rfl rfl) h1 hsz).mono fun e W' ⟨he, bel⟩ => ?_
  subst he
  exact ⟨_, rfl, _, _, _, [], _, [], hW', trodAll_mk1 (shut_bool Try.underlying4 _), Below.trodAll laidOut (by intro t ht; have ht' : t ∈ [24, 44] := ht; clear ht; simp only [List.mem_cons, List.not_mem_nil, or_false] at ht'; rcases ht' with rfl | rfl <;> exact ⟨by kernel_rfl, of_decide_eq_true (by kernel_rfl)⟩) hA bel hlt, rfl, bel.frame _, fun h => by cases h⟩

theorem over : Rows.plainPlaysRow.holds Try.pinned (OpenSpec.ofChange Rows.plainPlaysSpec) :=
  OpenClaim.holds_of_wide 6 Try.f6 rfl rfl rfl rfl rfl rfl rfl ⟨rfl, rfl, rfl, rfl, rfl⟩ rfl rfl rfl rfl rfl (by kernel_rfl) Try.func6 (by kernel_rfl)
    (of_decide_eq_true (by kernel_rfl)) (by unfold Func.isWrapper; first | (rw [if_pos (by decide +kernel)]; kernel_rfl) | (rw [if_neg (by decide +kernel)]; exact ⟨rfl, rfl⟩))
    (fun os started H enc _ => lifted os started H enc)

/-- THE STATEMENT -/
theorem proved : Rows.PlainPlaysSaid := over
#print axioms proved
end Go.Proofs.Ytpmpgnhbpneloaa.plainPlays
