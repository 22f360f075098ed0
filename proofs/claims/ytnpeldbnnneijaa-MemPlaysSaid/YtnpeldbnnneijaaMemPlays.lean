/- Proves Rows.MemPlaysSaid: for every input 'carousellaw03.MemPlays' returns true and each argument reads behind the call as it read before. Conditions: none beyond the row's own. -/
import Derived.Test.YtnpeldbnnneijaaMu6
namespace Go.Proofs.Ytnpeldbnnneijaa.memPlays
open Go.RowKit Go.Joins Go.ChangeShapes Go.WideShapes Go.ChangeAt Go.Deep
set_option linter.unusedVariables false
set_option maxRecDepth 100000

theorem walk_no (c r : Int) (u : Value) (w : World) (hno : ¬ (1 ≤ c ∧ c ≤ 1024 ∧ 1 ≤ r ∧ r ≤ 16)) :
    Calls Try.prog 5 #[.int .i64 c, .int .i64 r, u] w fun e w' => e = .returned (.bool true) ∧ Below w.heap.size w w' := by
  have HNO := Lib.hid hno
  clear hno
  go_enter Try.func5, Try.ntmps5
  go_wp2_with fail
  refine (shown_any _).mono ?_
  rintro e w1 ⟨rfl, hb⟩
  go_wp2_with fail
  refine (new_no c r _ HNO.out).mono ?_
  rintro e w2 ⟨rfl, rfl⟩
  go_wp2_with fail
  refine (takes_no c r _ HNO.out).mono ?_
  rintro e w2 ⟨rfl, rfl⟩
  go_wp2_with fail
  go_ret
  exact ⟨rfl, hb⟩

set_option maxHeartbeats 4000000 in
theorem walk_yes (C R : Nat) (l : List Actz) (A : Option Addr) (n nc : Nat) (w : World) (hl : l.length = n) (hn : n * 64 ≤ 140737488351232) (hc1 : 1 ≤ C) (hc2 : C ≤ 1024) (hr1 : 1 ≤ R) (hr2 : R ≤ 16) (hA : Reads w w.heap.size 8 A n (acts l)) :
    Calls Try.prog 5 #[.int .i64 C, .int .i64 R, .slice A n nc] w fun e w' => e = .returned (.bool true) ∧ Below w.heap.size w w' := by
  have HL := Lib.hid hl
  have HA := Lib.hid hA
  clear hl hA
  go_enter Try.func5, Try.ntmps5
  go_wp2_with fail
  refine (shown_any _).mono ?_
  rintro e w1 ⟨rfl, hb1⟩
  go_wp2_with fail
  refine (new_yes C R w1 hc1 hc2 hr1 hr2).mono ?_
  rintro e w2 ⟨b, gh, gs, gc, rfl, hM2, hb2⟩
  have HM2 := Lib.hid hM2
  have hs1 := hb1.size
  have hs2 := hb2.size
  have HB2 := Lib.hid (hb1.trans (hb2.mono hs1))
  clear hM2 hb1 hb2
  go_wp2_with fail
  refine (takes_yes C R _ ⟨by omega, by omega, by omega, by omega⟩).mono ?_
  rintro e w3 ⟨rfl, rfl⟩
  go_wp2_with fail
  have hSZ := sizes_any HM2.out
  rw [(newM_sized C R).cells, (newM_sized C R).heads] at hSZ
  refine hSZ.mono ?_
  rintro e w3 ⟨rfl, k3, rfl⟩
  have hcc : ((C : Int) != (C : Int)) = false := by simp
  have hrr : ((R : Int) != (R : Int)) = false := by simp
  clear hSZ
  go_wp2_with fail
  refine (rnew_any C R _).mono ?_
  rintro e w4 ⟨rb, rfl, hR4, hb4⟩
  obtain ⟨S0, hD0, hS0, -⟩ := Duo.start HM2.out (below_drewN (Below.refl _ _) _) hR4 hb4 hs2
  have HD0 := Lib.hid hD0
  have HS0 := Lib.hid hS0
  have HB4 := Lib.hid (HB2.out.trans (b := w2) ((below_drewN (Below.refl w2.heap.size w2) k3).trans (hb4.mono (Nat.le_refl _)) |>.mono HB2.out.size))
  have hs4 := HB4.out.size
  have hs24 : w2.heap.size ≤ w4.heap.size := hb4.size
  clear hD0 hS0 hR4 hb4
  go_wp2_with fail
  go_loopg [14] n (fun gk i wr => ∃ q : Nat, i = .int .i64 q ∧ q ≤ n ∧ gk = n - q ∧ DStep w4 wr w1.heap.size C R b rb q S0)
  case atStart => exact ⟨0, rfl, Nat.zero_le _, rfl, DStep.refl HD0.out⟩
  case round =>
    obtain ⟨q, rfl, hq, hgk, hst⟩ := hrel
    have HG := Lib.hid hgk
    have hbel : Below w.heap.size w wr := HB4.out.trans (hst.bel (fun q hq => by have := HS0.out q hq; omega) hs4)
    have HBEL := Lib.hid hbel
    have hwr := hbel.size
    obtain ⟨S1, hD1, hF1, hN1⟩ := hst
    have hw4r := hF1.size
    have HD1 := Lib.hid hD1
    have HF1 := Lib.hid hF1
    have HN1 := Lib.hid hN1
    clear hgk hbel hD1 hF1 hN1
    by_cases hqn : q < n
    · obtain ⟨lb, lo, rfl, hlb, X, hx⟩ := acts_flat2 (HA.out.below HBEL.out) (HL.out) (hqn)
      obtain ⟨kd, th, xk, xi, xj, ol, vl, xn⟩ := X
      have hlbr : lb < wr.heap.size := by omega
      have x0 : wr.cell? ⟨lb, lo + q * 8, none⟩ = some (.int .i64 kd) := hx 0 _ (by omega) rfl
      have x1 : wr.cell? ⟨lb, lo + q * 8 + 1, none⟩ = some (.int .i64 th) := hx 1 _ (by omega) rfl
      have x2 : wr.cell? ⟨lb, lo + q * 8 + 2, none⟩ = some (.int .i64 xk) := hx 2 _ (by omega) rfl
      have x3 : wr.cell? ⟨lb, lo + q * 8 + 3, none⟩ = some (.int .i64 xi) := hx 3 _ (by omega) rfl
      have x4 : wr.cell? ⟨lb, lo + q * 8 + 4, none⟩ = some (.int .i64 xj) := hx 4 _ (by omega) rfl
      have x5 : wr.cell? ⟨lb, lo + q * 8 + 5, none⟩ = some (.int .i64 ol) := hx 5 _ (by omega) rfl
      have x6 : wr.cell? ⟨lb, lo + q * 8 + 6, none⟩ = some (.int .i64 vl) := hx 6 _ (by omega) rfl
      have x7 : wr.cell? ⟨lb, lo + q * 8 + 7, none⟩ = some (.int .i64 xn) := hx 7 _ (by omega) rfl
      clear hx
      have hqi : (q : Int) < (n : Int) := by omega
      go_wp2_with fail
      refine (does_any HD1.out ⟨kd, th, xk, xi, xj, ol, vl, xn⟩ hc2 hr2 (by omega) (by omega)).mono ?_
      rintro e w5 ⟨rfl, hst5⟩
      have HST5 := Lib.hid (DStep.go HN1.out HF1.out hst5)
      clear hst5
      go_wp2_with fail
      go_roundg (n - (q + 1))
      case measure => have := HG.out; omega
      case rel => exact ⟨q + 1, by go_num, by omega, rfl, HST5.out⟩
    · obtain rfl : q = n := by omega
      obtain ⟨gh', gs', gc', lv', m', rlv', hD, hlen⟩ := HD1.out
      have HD := Lib.hid hD
      have hqi : decide ((q : Int) < (q : Int)) = false := by simp
      clear hD
      go_wp2_with fail
      refine (logs_any HD.out.p HD.out.r 0 (by omega)).mono ?_
      rintro e w6 ⟨rfl, hb6⟩
      have HB6 := Lib.hid hb6
      clear hb6
      go_wp2_with fail
      refine (ltouched_any (HD.out.p.below HB6.out) (HD.out.r.below HB6.out) (fun x hx => isW_wf hc2 hr2 (HD.out.keys x hx)) (by omega)).mono ?_
      rintro e w7 ⟨rfl, hb7⟩
      have HFIN := Lib.hid (HBEL.out.trans ((HB6.out.mono hwr).trans (hb7.mono (by have := HB6.out.size; omega))))
      clear hb7
      go_wp2_with fail
      go_ret
      exact ⟨rfl, HFIN.out⟩

theorem opened {H : Type} (enc : TypeId × Value → H) (W : World) (b0 : Nat) (v0 : Value) (d0 : DataW H) (p0 : List MemPlace) (v1 : Value) (d1 : DataW H) (p1 : List MemPlace) (v2 : Value) (d2 : DataW H) (p2 : List MemPlace)
    (hv0 : Value.okWide Try.prog W .any b0 3 v0) (h0 : DataW.Trod enc Try.prog W 0 (fun _ => true) true 3 v0 d0 p0)
    (hv1 : Value.okWide Try.prog W .any b0 3 v1) (h1 : DataW.Trod enc Try.prog W 0 (fun _ => true) true 3 v1 d1 p1)
    (hv2 : Value.okWide Try.prog W .any b0 22 v2) (h2 : DataW.Trod enc Try.prog W 0 (fun _ => true) true 22 v2 d2 p2)
    (hsz : (DataW.weightsEach Try.prog [3, 3, 22] [d0, d1, d2]).all (· ≤ reachBytes) = true) :
    Calls Try.prog 5 #[v0, v1, v2] W fun e W' => e = .returned (.bool true) ∧ Below W.heap.size W W' := by
  obtain ⟨c, rfl, rfl, rfl, w0⟩ := open_int Try.underlying3 hv0 h0
  obtain ⟨r, rfl, rfl, rfl, w1⟩ := open_int Try.underlying3 hv1 h1
  obtain ⟨A, n, nc, l, rfl, hl, hA, hs⟩ := param_acts hv2 h2
  have hn := hs hsz (j := 2) rfl rfl
  by_cases hok : 1 ≤ c ∧ c ≤ 1024 ∧ 1 ≤ r ∧ r ≤ 16
  · obtain ⟨h1, h2, h3, h4⟩ := hok
    obtain ⟨C, rfl⟩ := Int.eq_ofNat_of_zero_le (show 0 ≤ c by omega)
    obtain ⟨R, rfl⟩ := Int.eq_ofNat_of_zero_le (show 0 ≤ r by omega)
    exact walk_yes C R l A n nc W hl hn (by omega) (by omega) (by omega) (by omega) hA
  · exact walk_no c r _ W hok

/-! ### The row -/
set_option maxRecDepth 100000 in
theorem lifted (os : Os) (started : os.Started) (H : Type) (enc : TypeId × Value → H) :
    ReturnsInHanded {} Try.checked os 5 .any (Rows.memPlaysSpec.pre6 enc Try.prog Try.f5 Rows.memPlaysRow.domain false) (Rows.memPlaysSpec.post enc Try.prog Try.f5 false true false false) := by
  refine returnsInHanded_of_change_sized (C := Try.checked) own started (by kernel_rfl) Try.func5
    (ChangeSpec.witness6 (enc := enc) (C := Try.checked) false ⟨#[], #[.int .i64 0, .int .i64 0, .slice none 0 0], []⟩ 8 (by kernel_rfl) (by kernel_rfl) (by kernel_rfl) (by kernel_rfl)) ?_
  intro W base args ds gs before hval0 hW hcnd hsz0 hholds
  have hval : ∀ (j : Nat) t v, Try.f5.params[j]? = some t → args[j]? = some v → Value.okWide Try.prog W .any base t v := hval0
  have hsz : (DataW.weightsEach Try.prog (Try.f5.params.toList ++ Rows.memPlaysSpec.plain.varTypes Try.prog) (ds ++ gs)).all (· ≤ reachBytes) = true := hsz0
  have hW' := hW
  obtain ⟨p, q, hA0, hV, rfl, hfz, hnd⟩ := hW
  have hA : DataW.TrodAll enc Try.prog W 0 (fun _ => true) true Try.f5.params.toList args.toList ds p := hA0
  obtain ⟨rfl, rfl⟩ := trodVars_none hV
  have hlt : ∀ x ∈ p, x.block < W.heap.size := fun x hx => hW'.lt x (by simpa using hx)
  rw [Try.params5] at hA hval hsz
  obtain ⟨v0, vs0, d0, ds0, p0, q0, hargs, rfl, rfl, h0, r0⟩ := trodAll_cons hA
  obtain ⟨v1, vs1, d1, ds1, p1, q1, rfl, rfl, rfl, h1, r1⟩ := trodAll_cons r0
  obtain ⟨v2, vs2, d2, ds2, p2, q2, rfl, rfl, rfl, h2, r2⟩ := trodAll_cons r1
  obtain ⟨rfl, rfl, rfl⟩ := trodAll_nil r2
  obtain rfl : args = #[v0, v1, v2] := by cases args; simp_all
  clear hA0 hval0 hsz0
  refine (opened enc W base v0 d0 p0 v1 d1 p1 v2 d2 p2 (hval 0 _ v0 rfl rfl) h0 (hval 1 _ v1 rfl rfl) h1 (hval 2 _ v2 rfl rfl) h2 hsz).mono fun e W' ⟨he, bel⟩ => ?_
  subst he
  exact ⟨_, rfl, _, _, _, [], _, [], hW', trodAll_mk1 (shut_bool Try.underlying4 _), Below.trodAll laidOut (by intro t ht; have ht' : t ∈ [3, 3, 22] := ht; clear ht; simp only [List.mem_cons, List.not_mem_nil, or_false] at ht'; rcases ht' with rfl | rfl | rfl <;> exact ⟨by kernel_rfl, of_decide_eq_true (by kernel_rfl)⟩) hA bel hlt, rfl, bel.frame _, fun h => by cases h⟩

theorem over : Rows.memPlaysRow.holds Try.pinned (OpenSpec.ofChange Rows.memPlaysSpec) :=
  OpenClaim.holds_of_wide 5 Try.f5 rfl rfl rfl rfl rfl rfl rfl ⟨rfl, rfl, rfl, rfl, rfl⟩ rfl rfl rfl rfl rfl (by kernel_rfl) Try.func5 (by kernel_rfl)
    (of_decide_eq_true (by kernel_rfl)) (by unfold Func.isWrapper; first | (rw [if_pos (by decide +kernel)]; kernel_rfl) | (rw [if_neg (by decide +kernel)]; exact ⟨rfl, rfl⟩))
    (fun os started H enc _ => lifted os started H enc)

/-- THE STATEMENT -/
theorem proved : Rows.MemPlaysSaid := over
#print axioms proved
end Go.Proofs.Ytnpeldbnnneijaa.memPlays
