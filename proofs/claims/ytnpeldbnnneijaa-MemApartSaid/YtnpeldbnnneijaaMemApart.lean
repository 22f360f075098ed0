/- Proves Rows.MemApartSaid: for every input 'carousellaw03.MemApart' returns true and each argument reads behind the call as it read before. Conditions: none beyond the row's own. -/
import Derived.Test.YtnpeldbnnneijaaMu6
namespace Go.Proofs.Ytnpeldbnnneijaa.memApart
open Go.RowKit Go.Joins Go.ChangeShapes Go.WideShapes Go.ChangeAt Go.Deep
set_option linter.unusedVariables false
set_option maxRecDepth 100000

section
variable {w w' : World} {B B1 B2 C R b rb b2 rb2 n n' m : Nat} {S1 S2 : Nat → Prop}
theorem DuoIs.bd_ (h : DuoIs w B C R b rb n S1) : ∀ q, S1 q → B ≤ q ∧ q < w.heap.size := by
  obtain ⟨_, _, _, _, _, _, hD, _⟩ := h
  exact hD.bd
theorem DuoIs.more (h : DuoIs w B C R b rb n S1) (hn : n ≤ n') : DuoIs w B C R b rb n' S1 := by
  obtain ⟨gh, gs, gc, lv, m, rlv, hD, hl⟩ := h
  exact ⟨gh, gs, gc, lv, m, rlv, hD, by omega⟩
theorem pair_step (h1 : DuoIs w B1 C R b rb n S1) (h2 : DuoIs w B2 C R b2 rb2 m S2) (hd : ∀ q, S1 q → ¬ S2 q) (hst : DStep w w' B1 C R b rb n' S1) (hB : B ≤ B1) (hw : B ≤ w.heap.size) :
    ∃ S1', DuoIs w' B1 C R b rb n' S1' ∧ DuoIs w' B2 C R b2 rb2 m S2 ∧ (∀ q, S1' q → ¬ S2 q) ∧ Below B w w' := by
  obtain ⟨S1', hD, hF, hN⟩ := hst
  refine ⟨S1', hD, h2.frm hF fun q hq h => hd q h hq, fun q hq hq2 => ?_, hF.below hw fun q hq => by have := (DuoIs.bd_ h1 q hq).1; omega⟩
  rcases hN q hq with h | h
  · exact hd q h hq2
  · have := (DuoIs.bd_ h2 q hq2).2; omega
end
def ARel (w : World) (B1 B2 b rb b2 rb2 N : Nat) (gk : Nat) (i : Value) (wr : World) : Prop :=
  ∃ q : Nat, i = .int .i64 q ∧ q ≤ N ∧ gk = N - q ∧ ∃ S1 S2, DuoIs wr B1 5 3 b rb q S1 ∧ DuoIs wr B2 5 3 b2 rb2 q S2 ∧ (∀ q, S1 q → ¬ S2 q) ∧ Below w.heap.size w wr ∧ B1 ≤ wr.heap.size ∧ B2 ≤ wr.heap.size

set_option maxHeartbeats 8000000 in
theorem walk (l : List Actz) (A : Option Addr) (n nc : Nat) (l2 : List Actz) (A2 : Option Addr) (n2 nc2 : Nat) (w : World) (hl : l.length = n) (hn : n * 64 ≤ 140737488351232) (hA : Reads w w.heap.size 8 A n (acts l))
    (hl2 : l2.length = n2) (hn2 : n2 * 64 ≤ 140737488351232) (hA2 : Reads w w.heap.size 8 A2 n2 (acts l2)) :
    Calls Try.prog 4 #[.slice A n nc, .slice A2 n2 nc2] w fun e w' => e = .returned (.bool true) ∧ Below w.heap.size w w' := by
  have HL := Lib.hid hl
  have HA := Lib.hid hA
  have HL2 := Lib.hid hl2
  have HA2 := Lib.hid hA2
  obtain ⟨N, hN1, hN2, hN3⟩ : ∃ N, n ≤ N ∧ n2 ≤ N ∧ (N = n ∨ N = n2) := ⟨max n n2, by omega, by omega, by omega⟩
  have HN3 := Lib.hid hN3
  have hNb : N ≤ 2199023255488 := by omega
  clear hl hA hl2 hA2 hN3
  go_enter Try.func4, Try.ntmps4
  go_wp2_with fail
  refine (shown_any _).mono ?_
  rintro e w1 ⟨rfl, hb1⟩
  have hs1 := hb1.size
  go_wp2_with fail
  refine (new_yes 5 3 w1 (by omega) (by omega) (by omega) (by omega)).mono ?_
  rintro e w2 ⟨b, gh, gs, gc, rfl, hM2, hb2⟩
  have hs2 := hb2.size
  have HB2 := Lib.hid (hb1.trans (hb2.mono hs1))
  have HM2 := Lib.hid hM2
  clear hb1 hb2 hM2
  go_wp2_with fail
  refine (new_yes 5 3 w2 (by omega) (by omega) (by omega) (by omega)).mono ?_
  rintro e w3 ⟨b2, gh2, gs2, gc2, rfl, hM3, hb3⟩
  have hs3 := hb3.size
  have HB23 := Lib.hid hb3
  have HM3 := Lib.hid hM3
  clear hb3 hM3
  go_wp2_with fail
  refine (rnew_any 5 3 _).mono ?_
  rintro e w4 ⟨rb, rfl, hR4, hb4⟩
  have hs4 := hb4.size
  have HR4 := Lib.hid hR4
  have HB34 := Lib.hid hb4
  clear hR4 hb4
  go_wp2_with fail
  refine (rnew_any 5 3 _).mono ?_
  rintro e w5 ⟨rb2, rfl, hR5, hb5⟩
  have hs5 := hb5.size
  obtain ⟨S1, hD1, -, hS1⟩ := Duo.start HM2.out HB23.out HR4.out HB34.out hs2
  obtain ⟨S2, hD2, -, hS2⟩ := Duo.start HM3.out HB34.out hR5 hb5 hs3
  have HST : Hid (∃ S1 S2, DuoIs w5 w1.heap.size 5 3 b rb 0 S1 ∧ DuoIs w5 w2.heap.size 5 3 b2 rb2 0 S2 ∧ (∀ q, S1 q → ¬ S2 q)) := Lib.hid (by
    obtain ⟨gh0, gs0, gc0, lv0, m0, rlv0, hD, hl0⟩ := hD1
    refine ⟨S1, S2, ⟨gh0, gs0, gc0, lv0, m0, rlv0, hD.below hb5, hl0⟩, hD2, fun q h1 h2 => ?_⟩
    have := hS1 q h1
    have := hS2 q h2
    omega)
  have HB5 := Lib.hid (HB2.out.trans (((HB23.out.trans (HB34.out.mono hs3)).trans (hb5.mono (by omega))).mono HB2.out.size))
  clear hD1 hD2 hS1 hS2 hR5 hb5
  go_wp2_with fail
  go_loopg [12] N (fun gk i wr => ARel w w1.heap.size w2.heap.size b rb b2 rb2 N gk i wr)
  case atStart =>
    obtain ⟨S1, S2, h1, h2, h3⟩ := HST.out
    exact ⟨0, rfl, Nat.zero_le _, rfl, S1, S2, h1, h2, h3, HB5.out, by omega, by omega⟩
  case round =>
    obtain ⟨q, rfl, hq, hgk, S1, S2, hD1, hD2, hd, hbel, hbr⟩ := hrel
    have HBR := Lib.hid hbr
    clear hbr
    have HG := Lib.hid hgk
    have HD1 := Lib.hid hD1
    have HD2 := Lib.hid hD2
    have HDJ := Lib.hid hd
    have HBEL := Lib.hid hbel
    have hwr := hbel.size
    have hs12 : w.heap.size ≤ w2.heap.size := by omega
    clear hgk hD1 hD2 hd hbel
    by_cases hqn : q < n
    · have hqi : (q : Int) < (n : Int) := by omega
      obtain ⟨lb, lo, rfl, hlb, X, hx⟩ := acts_flat2 (HA.out.below HBEL.out) (HL.out) (hqn)
      obtain ⟨kd, th, xk, xi, xj, ol, vl, xn⟩ := X
      have hlbr : lb < wr.heap.size := by omega
      have x0 : wr.cell? ⟨lb, lo + q * 8, none⟩ = some (.int .i64 kd) := hx 0 _ (by omega) rfl
      have x1 : wr.cell? ⟨lb, lo + q * 8 + 1, none⟩ = some (.int .i64 th) := hx 1 _ (by omega) rfl
      have x2 : wr.cell? ⟨lb, lo + q * 8 + 2, none⟩ = some (.int .i64 xk) := hx 2 _ (by omega) rfl
      have x3 : wr.cell? ⟨lb, lo + q * 8 + 3, none⟩ = some (.int .i64 xi) := hx 3 _ (by omega) rfl
      have x4 : wr.cell? ⟨lb, lo + q * 8 + 4, none⟩ = some (.int .i64 xj) := hx 4 _ (by omega) rfl
      have x5 : wr.cell? ⟨lb, lo + q * 8 + 5, none⟩ = some (.int .i64 ol) := hx 5 _ (by omega) rfl
      have x6 : wr.cell? ⟨lb, lo + q * 8 + 6, none⟩ = some (.int .i64 vl) := hx 6 _ (by omega) rfl
      have x7 : wr.cell? ⟨lb, lo + q * 8 + 7, none⟩ = some (.int .i64 xn) := hx 7 _ (by omega) rfl
      clear hx
      go_wp2_with fail
      refine (does_any HD1.out ⟨kd, th, xk, xi, xj, ol, vl, xn⟩ (by omega) (by omega) (by omega) (by have := HBR.out; omega)).mono ?_
      rintro e w6 ⟨rfl, hst⟩
      obtain ⟨S1', hE1, hE2, hdj, hb6⟩ := pair_step (B := w.heap.size) HD1.out HD2.out HDJ.out hst (by omega) hwr
      have HE1 := Lib.hid hE1
      have HE2 := Lib.hid hE2
      have HDJ2 := Lib.hid hdj
      have HBEL6 := Lib.hid (HBEL.out.trans hb6)
      have hw6 := hb6.size
      clear hst hE1 hE2 hdj hb6 x0 x1 x2 x3 x4 x5 x6 x7 hlbr
      by_cases hqm : q < n2
      · have hqi2 : (q : Int) < (n2 : Int) := by omega
        obtain ⟨lb, lo, rfl, hlb, X, hx⟩ := acts_flat2 (HA2.out.below HBEL6.out) (HL2.out) (hqm)
        obtain ⟨kd, th, xk, xi, xj, ol, vl, xn⟩ := X
        have hlbr : lb < w6.heap.size := by omega
        have x0 : w6.cell? ⟨lb, lo + q * 8, none⟩ = some (.int .i64 kd) := hx 0 _ (by omega) rfl
        have x1 : w6.cell? ⟨lb, lo + q * 8 + 1, none⟩ = some (.int .i64 th) := hx 1 _ (by omega) rfl
        have x2 : w6.cell? ⟨lb, lo + q * 8 + 2, none⟩ = some (.int .i64 xk) := hx 2 _ (by omega) rfl
        have x3 : w6.cell? ⟨lb, lo + q * 8 + 3, none⟩ = some (.int .i64 xi) := hx 3 _ (by omega) rfl
        have x4 : w6.cell? ⟨lb, lo + q * 8 + 4, none⟩ = some (.int .i64 xj) := hx 4 _ (by omega) rfl
        have x5 : w6.cell? ⟨lb, lo + q * 8 + 5, none⟩ = some (.int .i64 ol) := hx 5 _ (by omega) rfl
        have x6 : w6.cell? ⟨lb, lo + q * 8 + 6, none⟩ = some (.int .i64 vl) := hx 6 _ (by omega) rfl
        have x7 : w6.cell? ⟨lb, lo + q * 8 + 7, none⟩ = some (.int .i64 xn) := hx 7 _ (by omega) rfl
        clear hx
        go_wp2_with fail
        refine (does_any HE2.out ⟨kd, th, xk, xi, xj, ol, vl, xn⟩ (by omega) (by omega) (by omega) (by have := HBR.out; omega)).mono ?_
        rintro e w7 ⟨rfl, hst⟩
        obtain ⟨S2', hE2, hE1, hdj, hb7⟩ := pair_step (B := w.heap.size) HE2.out HE1.out (fun q h1 h2 => HDJ2.out q h2 h1) hst (by omega) (by omega)
        have HE3 := Lib.hid hE1
        have HE4 := Lib.hid hE2
        have HDJ3 := Lib.hid hdj
        have HBEL7 := Lib.hid (HBEL6.out.trans hb7)
        have hw7 := hb7.size
        clear hst hE1 hE2 hdj hb7
        go_wp2_with fail
        go_roundg (N - (q + 1))
        case measure => have := HG.out; omega
        case rel => exact ⟨q + 1, by go_num, by omega, rfl, _, _, HE3.out, HE4.out, fun q h1 h2 => HDJ3.out q h2 h1, HBEL7.out, by have := HBR.out; omega, by have := HBR.out; omega⟩
      · have hqi2 : decide ((q : Int) < (n2 : Int)) = false := by simp; omega
        go_wp2_with fail
        go_roundg (N - (q + 1))
        case measure => have := HG.out; omega
        case rel => exact ⟨q + 1, by go_num, by omega, rfl, _, _, HE1.out, DuoIs.more HE2.out (Nat.le_succ _), HDJ2.out, HBEL6.out, by have := HBR.out; omega, by have := HBR.out; omega⟩
    · have hqi : decide ((q : Int) < (n : Int)) = false := by simp; omega
      by_cases hqm : q < n2
      · have hqi2 : (q : Int) < (n2 : Int) := by omega
        obtain ⟨lb, lo, rfl, hlb, X, hx⟩ := acts_flat2 (HA2.out.below HBEL.out) (HL2.out) (hqm)
        obtain ⟨kd, th, xk, xi, xj, ol, vl, xn⟩ := X
        have hlbr : lb < wr.heap.size := by omega
        have x0 : wr.cell? ⟨lb, lo + q * 8, none⟩ = some (.int .i64 kd) := hx 0 _ (by omega) rfl
        have x1 : wr.cell? ⟨lb, lo + q * 8 + 1, none⟩ = some (.int .i64 th) := hx 1 _ (by omega) rfl
        have x2 : wr.cell? ⟨lb, lo + q * 8 + 2, none⟩ = some (.int .i64 xk) := hx 2 _ (by omega) rfl
        have x3 : wr.cell? ⟨lb, lo + q * 8 + 3, none⟩ = some (.int .i64 xi) := hx 3 _ (by omega) rfl
        have x4 : wr.cell? ⟨lb, lo + q * 8 + 4, none⟩ = some (.int .i64 xj) := hx 4 _ (by omega) rfl
        have x5 : wr.cell? ⟨lb, lo + q * 8 + 5, none⟩ = some (.int .i64 ol) := hx 5 _ (by omega) rfl
        have x6 : wr.cell? ⟨lb, lo + q * 8 + 6, none⟩ = some (.int .i64 vl) := hx 6 _ (by omega) rfl
        have x7 : wr.cell? ⟨lb, lo + q * 8 + 7, none⟩ = some (.int .i64 xn) := hx 7 _ (by omega) rfl
        clear hx
        go_wp2_with fail
        refine (does_any HD2.out ⟨kd, th, xk, xi, xj, ol, vl, xn⟩ (by omega) (by omega) (by omega) (by have := HBR.out; omega)).mono ?_
        rintro e w7 ⟨rfl, hst⟩
        obtain ⟨S2', hE2, hE1, hdj, hb7⟩ := pair_step (B := w.heap.size) HD2.out HD1.out (fun q h1 h2 => HDJ.out q h2 h1) hst (by omega) (by omega)
        have HE3 := Lib.hid hE1
        have HE4 := Lib.hid hE2
        have HDJ3 := Lib.hid hdj
        have HBEL7 := Lib.hid (HBEL.out.trans hb7)
        have hw7 := hb7.size
        clear hst hE1 hE2 hdj hb7
        go_wp2_with fail
        go_roundg (N - (q + 1))
        case measure => have := HG.out; omega
        case rel => exact ⟨q + 1, by go_num, by omega, rfl, _, _, DuoIs.more HE3.out (Nat.le_succ _), HE4.out, fun q h1 h2 => HDJ3.out q h2 h1, HBEL7.out, by have := HBR.out; omega, by have := HBR.out; omega⟩
      · have hqi2 : decide ((q : Int) < (n2 : Int)) = false := by simp; omega
        obtain ⟨gha, gsa, gca, lva, ma, rlva, hDa, hla⟩ := HD1.out
        obtain ⟨ghb, gsb, gcb, lvb, mb, rlvb, hDb, hlb⟩ := HD2.out
        have HDa := Lib.hid hDa
        have HDb := Lib.hid hDb
        clear hDa hDb
        go_wp2_with fail
        refine (logs_any HDa.out.p HDa.out.r 0 (by omega)).mono ?_
        rintro e w6 ⟨rfl, hb6⟩
        have HB6 := Lib.hid hb6
        clear hb6
        go_wp2_with fail
        refine (logs_any (HDb.out.p.below HB6.out) (HDb.out.r.below HB6.out) 0 (by omega)).mono ?_
        rintro e w7 ⟨rfl, hb7⟩
        have HFIN := Lib.hid (HBEL.out.trans ((HB6.out.mono hwr).trans (hb7.mono (by have := HB6.out.size; omega))))
        clear hb7
        go_wp2_with fail
        go_ret
        exact ⟨rfl, HFIN.out⟩

theorem opened {H : Type} (enc : TypeId × Value → H) (W : World) (b0 : Nat) (v0 : Value) (d0 : DataW H) (p0 : List MemPlace) (v1 : Value) (d1 : DataW H) (p1 : List MemPlace)
    (hv0 : Value.okWide Try.prog W .any b0 22 v0) (h0 : DataW.Trod enc Try.prog W 0 (fun _ => true) true 22 v0 d0 p0)
    (hv1 : Value.okWide Try.prog W .any b0 22 v1) (h1 : DataW.Trod enc Try.prog W 0 (fun _ => true) true 22 v1 d1 p1)
    (hsz : (DataW.weightsEach Try.prog [22, 22] [d0, d1]).all (· ≤ reachBytes) = true) :
    Calls Try.prog 4 #[v0, v1] W fun e W' => e = .returned (.bool true) ∧ Below W.heap.size W W' := by
  obtain ⟨A, n, nc, l, rfl, hl, hA, hs⟩ := param_acts hv0 h0
  obtain ⟨A2, n2, nc2, l2, rfl, hl2, hA2, hs2⟩ := param_acts hv1 h1
  exact walk l A n nc l2 A2 n2 nc2 W hl (hs hsz (j := 0) rfl rfl) hA hl2 (hs2 hsz (j := 1) rfl rfl) hA2

/-! ### The row -/
set_option maxRecDepth 100000 in
theorem lifted (os : Os) (started : os.Started) (H : Type) (enc : TypeId × Value → H) :
    ReturnsInHanded {} Try.checked os 4 .any (Rows.memApartSpec.pre6 enc Try.prog Try.f4 Rows.memApartRow.domain false) (Rows.memApartSpec.post enc Try.prog Try.f4 false true false false) := by
  refine returnsInHanded_of_change_sized (C := Try.checked) own started (by kernel_rfl) Try.func4
    (ChangeSpec.witness6 (enc := enc) (C := Try.checked) false ⟨#[], #[.slice none 0 0, .slice none 0 0], []⟩ 8 (by kernel_rfl) (by kernel_rfl) (by kernel_rfl) (by kernel_rfl)) ?_
  intro W base args ds gs before hval0 hW hcnd hsz0 hholds
  have hval : ∀ (j : Nat) t v, Try.f4.params[j]? = some t → args[j]? = some v → Value.okWide Try.prog W .any base t v := hval0
  have hsz : (DataW.weightsEach Try.prog (Try.f4.params.toList ++ Rows.memApartSpec.plain.varTypes Try.prog) (ds ++ gs)).all (· ≤ reachBytes) = true := hsz0
  have hW' := hW
  obtain ⟨p, q, hA0, hV, rfl, hfz, hnd⟩ := hW
  have hA : DataW.TrodAll enc Try.prog W 0 (fun _ => true) true Try.f4.params.toList args.toList ds p := hA0
  obtain ⟨rfl, rfl⟩ := trodVars_none hV
  have hlt : ∀ x ∈ p, x.block < W.heap.size := fun x hx => hW'.lt x (by simpa using hx)
  rw [Try.params4] at hA hval hsz
  obtain ⟨v0, vs0, d0, ds0, p0, q0, hargs, rfl, rfl, h0, r0⟩ := trodAll_cons hA
  obtain ⟨v1, vs1, d1, ds1, p1, q1, rfl, rfl, rfl, h1, r1⟩ := trodAll_cons r0
  obtain ⟨rfl, rfl, rfl⟩ := trodAll_nil r1
  obtain rfl : args = #[v0, v1] := by cases args; simp_all
  clear hA0 hval0 hsz0
  refine (opened enc W base v0 d0 p0 v1 d1 p1 (hval 0 _ v0 rfl rfl) h0 (hval 1 _ v1 rfl rfl) h1 hsz).mono fun e W' ⟨he, bel⟩ => ?_
  subst he
  exact ⟨_, rfl, _, _, _, [], _, [], hW', trodAll_mk1 (shut_bool Try.underlying4 _), Below.trodAll laidOut (by intro t ht; have ht' : t ∈ [22, 22] := ht; clear ht; simp only [List.mem_cons, List.not_mem_nil, or_false] at ht'; rcases ht' with rfl | rfl <;> exact ⟨by kernel_rfl, of_decide_eq_true (by kernel_rfl)⟩) hA bel hlt, rfl, bel.frame _, fun h => by cases h⟩

theorem over : Rows.memApartRow.holds Try.pinned (OpenSpec.ofChange Rows.memApartSpec) :=
  OpenClaim.holds_of_wide 4 Try.f4 rfl rfl rfl rfl rfl rfl rfl ⟨rfl, rfl, rfl, rfl, rfl⟩ rfl rfl rfl rfl rfl (by kernel_rfl) Try.func4 (by kernel_rfl)
    (of_decide_eq_true (by kernel_rfl)) (by unfold Func.isWrapper; first | (rw [if_pos (by decide +kernel)]; kernel_rfl) | (rw [if_neg (by decide +kernel)]; exact ⟨rfl, rfl⟩))
    (fun os started H enc _ => lifted os started H enc)

/-- THE STATEMENT -/
theorem proved : Rows.MemApartSaid := over
#print axioms proved
end Go.Proofs.Ytnpeldbnnneijaa.memApart
