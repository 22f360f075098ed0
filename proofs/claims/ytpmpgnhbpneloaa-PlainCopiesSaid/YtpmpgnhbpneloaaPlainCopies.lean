/- Proves Rows.PlainCopiesSaid: for every input 'carousellaw20.PlainCopies' returns true and each argument reads behind the call as it read before. Conditions: none beyond the row's own. -/
import Derived.Test.YtpmpgnhbpneloaaRh
namespace Go.Proofs.Ytpmpgnhbpneloaa.plainCopies
open Go.RowKit Go.Joins Go.ChangeShapes Go.WideShapes Go.ChangeAt Go.Deep
set_option linter.unusedVariables false
set_option maxRecDepth 100000

theorem walk_no (c : Cfg) (regs : List Reg) (A : Option Addr) (n nc : Nat) (u u2 : Value) (w : World) (hl : regs.length = n) (hn : n ≤ 9223372036854775807) (hA : Reads w w.heap.size 2 A n (rows Reg.cells regs)) (hno : ¬ cfgOk c regs) :
    Calls Try.prog 7 #[.agg #[.int .i64 c.raw, .int .i64 c.ring, .int .i64 c.writes, .int .i64 c.stamps, .bool c.multi, .int .i64 c.tries, .slice A n nc], u, u2] w fun e w' => e = .returned (.bool true) ∧ Below w.heap.size w w' := by
  have HNO := Lib.hid hno
  clear hno
  go_enter Try.func7, Try.ntmps7
  go_wp2_with fail
  refine (both_no c regs A n nc _ hl hn (by exact (hA.alloc (Nat.le_refl _) _).more (by simp)) HNO.out).mono ?_
  rintro e w1 ⟨rfl, hb⟩
  go_wp2_with fail
  go_ret
  exact ⟨rfl, (by refine Below.trans ?_ (hb.mono (by simp)); repeat (first | with_reducible exact Below.refl _ _ | with_reducible refine Below.drew ?_ | with_reducible refine below_drewN ?_ _ | ((with_reducible refine Below.alloc ?_ ?_ _); (rotate_left; focus (first | with_reducible exact Nat.le_refl _ | omega | (simp; done) | (simp; omega) | (simp [World.setCell]; done) | (simp [World.setCell]; omega)))) | ((with_reducible refine Below.setCell ?_ ?_ _); (rotate_left; focus (first | with_reducible exact Nat.le_refl _ | omega | (simp; done) | (simp; omega) | (simp [World.setCell]; done) | (simp [World.setCell]; omega))))))⟩

theorem walk_yes (c : Cfg) (regs : List Reg) (A : Option Addr) (n nc R : Nat) (l lm : List StepZ) (B : Option Addr) (m mc : Nat) (B2 : Option Addr) (m2 mc2 : Nat) (w : World) (hl : regs.length = n) (hA : Reads w w.heap.size 2 A n (rows Reg.cells regs)) (hok : cfgOk c regs) (hR : c.raw = (R : Int)) (hR1 : 1 ≤ R) (hR64 : R ≤ 64)
    (hm : m ≤ 9223372036854775807) (hll : l.length = m) (hB : Reads w w.heap.size 6 B m (rows StepZ.cells l)) (hz : ∀ z ∈ l, StepZ.Good w z) (hm2 : m2 ≤ 9223372036854775807) (hll2 : lm.length = m2) (hB2 : Reads w w.heap.size 6 B2 m2 (rows StepZ.cells lm)) (hz2 : ∀ z ∈ lm, StepZ.Good w z) :
    Calls Try.prog 7 #[.agg #[.int .i64 c.raw, .int .i64 c.ring, .int .i64 c.writes, .int .i64 c.stamps, .bool c.multi, .int .i64 c.tries, .slice A n nc], .slice B m mc, .slice B2 m2 mc2] w fun e w' => e = .returned (.bool true) ∧ Below w.heap.size w w' := by
  have hn8 : n ≤ 8 := by rw [← hl]; exact hok.2.2.2.2.2.2.2.2.2.2.1
  have HOK := Lib.hid hok
  have HR := Lib.hid hR
  have HPL : Hid (∀ s s' raw ts S K W, Below w.heap.size w W → BothIs W w.heap.size s s' raw ts S K → Calls Try.prog 19 #[.pointer (some ⟨s, 0, none⟩), .pointer (some ⟨s', 0, none⟩), .slice B m mc] W (PlaysPost w.heap.size s s' S K W)) := Lib.hid fun s s' raw ts S K W hW h =>
    plays_any l B m mc s s' w.heap.size raw ts S K W h hW.size hm hll (hB.below hW) fun z hh => ⟨(hz z hh).1, (hz z hh).2.1, (hz z hh).2.2.below hW⟩
  have HPM : Hid (∀ s s' raw ts S K W, Below w.heap.size w W → BothIs W w.heap.size s s' raw ts S K → Calls Try.prog 19 #[.pointer (some ⟨s, 0, none⟩), .pointer (some ⟨s', 0, none⟩), .slice B2 m2 mc2] W (PlaysPost w.heap.size s s' S K W)) := Lib.hid fun s s' raw ts S K W hW h =>
    plays_any lm B2 m2 mc2 s s' w.heap.size raw ts S K W h hW.size hm2 hll2 (hB2.below hW) fun z hh => ⟨(hz2 z hh).1, (hz2 z hh).2.1, (hz2 z hh).2.2.below hW⟩
  clear hok hR hz hB hz2 hB2
  go_enter Try.func7, Try.ntmps7
  go_wp2_with fail
  refine (both_yes c regs A n nc R _ hl hn8 (by exact (hA.alloc (Nat.le_refl _) _).more (by simp)) HOK.out HR.out hR64).mono ?_
  intro e w1 hbp
  obtain ⟨s, s', S, K, rfl, hBI, hb⟩ := both_is (base := w.heap.size) hbp HOK.out hR1 hR64 (by simp)
  have hbel : Below w.heap.size w w1 := (by refine Below.trans ?_ (hb.mono (by simp)); repeat (first | with_reducible exact Below.refl _ _ | with_reducible refine Below.drew ?_ | with_reducible refine below_drewN ?_ _ | ((with_reducible refine Below.alloc ?_ ?_ _); (rotate_left; focus (first | with_reducible exact Nat.le_refl _ | omega | (simp; done) | (simp; omega) | (simp [World.setCell]; done) | (simp [World.setCell]; omega)))) | ((with_reducible refine Below.setCell ?_ ?_ _); (rotate_left; focus (first | with_reducible exact Nat.le_refl _ | omega | (simp; done) | (simp; omega) | (simp [World.setCell]; done) | (simp [World.setCell]; omega))))))
  have HBI := Lib.hid hBI
  have HBEL := Lib.hid hbel
  clear hbp hBI hb hbel hA hl hll hll2
  go_wp2_with fail
  refine (HPL.out _ _ _ _ _ _ _ HBEL.out HBI.out).mono ?_
  rintro e w2 ⟨rfl, raw2, ts2, hst⟩
  have hbel2 := HBEL.out.trans (hst.belowb (fun b hb => (HBI.out.1 b hb).1) HBEL.out.size)
  obtain ⟨S2, hB2, hF2, hN2⟩ := hst
  have HB2 := Lib.hid hB2
  have HBEL2 := Lib.hid hbel2
  obtain ⟨hS, hK, g, g', rv, rc, tv, tv', c2, regs2, l1, l2, hBo⟩ := hB2
  have HBO := Lib.hid hBo
  have HK := Lib.hid hK
  have hln : l1.length ≤ 8 ∧ l2.length ≤ 8 := ⟨by have := hBo.n8; rw [← hBo.pt] at this; simpa using this, by have := hBo.n8; rw [← hBo.rt] at this; simpa using this⟩
  clear hF2 hN2 hbel2 hS hK hBo
  go_wp2_with fail
  refine (pcopy_any s g w.heap.size tv raw2 l1 w2 HBO.out.p hln.1 (by rw [HBO.out.pt]; exact HBO.out.ok) HBO.out.r64).mono ?_
  rintro e w3 ⟨t, gt, tvt, lt, rfl, hpt, htt, hb3⟩
  have hsz3 := hb3.size
  have HPT := Lib.hid hpt
  have HB3 := Lib.hid hb3
  clear hpt hb3
  go_wp2_with fail
  refine (rcopy_any s' g' w.heap.size rv rc tv' c2 regs2 raw2 l2 w3 (HBO.out.r.below HB3.out) hln.2 (by rw [HBO.out.rt]; exact HBO.out.ok) HBO.out.r1 HBO.out.r64 (by have := HBEL2.out.size; omega)).mono ?_
  rintro e w4 ⟨q, gq, cap, tvq, lq, rfl, hrq, htq, hnew, hb4⟩
  have HC : Hid (BothIs w4 w.heap.size t q raw2 ts2 (fun b => w2.heap.size ≤ b ∧ b < w4.heap.size) K) := Lib.hid (both_copy HBO.out HK.out.1 HBEL2.out.size HB3.out HPT.out (htt.trans HBO.out.pt) hb4 hrq (htq.trans HBO.out.rt) hnew)
  have HBEL4 := Lib.hid (HB3.out.trans (hb4.mono hsz3))
  have hsz4 := hb4.size
  clear hrq hnew hb4
  go_wp2_with fail
  refine (alike_any t q w.heap.size raw2 ts2 _ K w4 HC.out).mono ?_
  rintro e w5 ⟨rfl, hb5⟩
  have hsz5 := hb5.size
  have HBEL5 := Lib.hid (HBEL4.out.trans (hb5.mono (by omega)))
  have HC5 := Lib.hid (HC.out.below hb5)
  have HB5 := Lib.hid (HB2.out.below HBEL5.out)
  have HW5 := Lib.hid (HBEL2.out.trans (HBEL5.out.mono HBEL2.out.size))
  clear hb5
  go_wp2_with fail
  refine (HPM.out _ _ _ _ _ _ _ HW5.out HB5.out).mono ?_
  rintro e w6 ⟨rfl, raw6, ts6, hst⟩
  have hbel6 := HW5.out.trans (hst.belowb (fun b hb => (HB5.out.1 b hb).1) HW5.out.size)
  obtain ⟨S6, hB6, hF6, hN6⟩ := hst
  have hsz6 := hF6.size
  have HS2 : Hid (∀ b, S2 b → b < w2.heap.size) := Lib.hid fun b hb => (HB2.out.1 b hb).2
  have HC6 := Lib.hid (HC5.out.frm hF6 (fun b hb h2 => by have := HS2.out b h2; omega) fun b hb h2 => HK.out.2 b h2 hb)
  have HB6 := Lib.hid hB6
  have HN6 := Lib.hid hN6
  have HW6 := Lib.hid hbel6
  clear hB6 hF6 hN6 hbel6
  go_wp2_with fail
  refine (alike_any t q w.heap.size raw2 ts2 _ K w6 HC6.out).mono ?_
  rintro e w7 ⟨rfl, hb7⟩
  have hsz7 := hb7.size
  have HC7 := Lib.hid (HC6.out.below hb7)
  have HB7 := Lib.hid (HB6.out.below hb7)
  have HW7 := Lib.hid (HW6.out.trans (hb7.mono HW6.out.size))
  clear hb7
  go_wp2_with fail
  refine (HPL.out _ _ _ _ _ _ _ HW7.out HC7.out).mono ?_
  rintro e w8 ⟨rfl, raw8, ts8, hst⟩
  have hbel8 := HW7.out.trans (hst.belowb (fun b hb => (HC7.out.1 b hb).1) HW7.out.size)
  obtain ⟨S8, hB8, hF8, hN8⟩ := hst
  have HB8 := Lib.hid (HB7.out.frm hF8 (fun b hb h2 => by
    rcases HN6.out b hb with e | e
    · have := HS2.out b e; omega
    · omega) fun b hb h2 => HC7.out.2.1.2 b h2 hb)
  have HW8 := Lib.hid hbel8
  clear hB8 hF8 hN8 hbel8
  go_wp2_with fail
  refine (alike_any s s' w.heap.size raw6 ts6 _ K w8 HB8.out).mono ?_
  rintro e w9 ⟨rfl, hb9⟩
  have HW9 := Lib.hid (HW8.out.trans (hb9.mono HW8.out.size))
  clear hb9
  go_wp2_with fail
  go_ret
  exact ⟨rfl, HW9.out⟩

theorem opened {H : Type} (enc : TypeId × Value → H) (W : World) (b0 : Nat) (v0 : Value) (d0 : DataW H) (p0 : List MemPlace) (v1 : Value) (d1 : DataW H) (p1 : List MemPlace) (v2 : Value) (d2 : DataW H) (p2 : List MemPlace)
    (hv0 : Value.okWide Try.prog W .any b0 24 v0) (h0 : DataW.Trod enc Try.prog W 0 (fun _ => true) true 24 v0 d0 p0)
    (hv1 : Value.okWide Try.prog W .any b0 44 v1) (h1 : DataW.Trod enc Try.prog W 0 (fun _ => true) true 44 v1 d1 p1)
    (hv2 : Value.okWide Try.prog W .any b0 44 v2) (h2 : DataW.Trod enc Try.prog W 0 (fun _ => true) true 44 v2 d2 p2)
    (hsz : (DataW.weightsEach Try.prog [24, 44, 44] [d0, d1, d2]).all (· ≤ reachBytes) = true) :
    Calls Try.prog 7 #[v0, v1, v2] W fun e W' => e = .returned (.bool true) ∧ Below W.heap.size W W' := by
  obtain ⟨c, A, n, nc, regs, rfl, hl, hn, hA⟩ := open_cfg hv0 h0
  obtain ⟨B, m, mc, l, rfl, hll, hm, hB, hz⟩ := param_steps hv1 h1
  obtain ⟨B2, m2, mc2, l2, rfl, hll2, hm2, hB2, hz2⟩ := param_steps hv2 h2
  by_cases hok : cfgOk c regs
  · obtain ⟨R, hR⟩ := Int.eq_ofNat_of_zero_le (show 0 ≤ c.raw by have := hok.1; omega)
    have h1 := hok.1
    have h2 := hok.2.1
    exact walk_yes c regs A n nc R l l2 B m mc B2 m2 mc2 W hl hA hok hR (by omega) (by omega) hm hll hB hz hm2 hll2 hB2 hz2
  · exact walk_no c regs A n nc _ _ W hl hn hA hok

/-! ### The row -/
set_option maxRecDepth 100000 in
theorem lifted (os : Os) (started : os.Started) (H : Type) (enc : TypeId × Value → H) :
    ReturnsInHanded {} Try.checked os 7 .any (Rows.plainCopiesSpec.pre6 enc Try.prog Try.f7 Rows.plainCopiesRow.domain false) (Rows.plainCopiesSpec.post enc Try.prog Try.f7 false true false false) := by
  refine returnsInHanded_of_change_sized (C := Try.checked) own started (by kernel_rfl) Try.func7
    (ChangeSpec.witness6 (enc := enc) (C := Try.checked) false ⟨#[], #[.agg #[.int .i64 0, .int .i64 0, .int .i64 0, .int .i64 0, .bool false, .int .i64 0, .slice none 0 0], .slice none 0 0, .slice none 0 0], []⟩ 8 (by kernel_rfl) (by kernel_rfl) (by kernel_rfl) (by kernel_rfl)) ?_
  intro W base args ds gs before hval0 hW hcnd hsz0 hholds
  have hval : ∀ (j : Nat) t v, Try.f7.params[j]? = some t → args[j]? = some v → Value.okWide Try.prog W .any base t v := hval0
  have hsz : (DataW.weightsEach Try.prog (Try.f7.params.toList ++ Rows.plainCopiesSpec.plain.varTypes Try.prog) (ds ++ gs)).all (· ≤ reachBytes) = true := hsz0
  have hW' := hW
  obtain ⟨p, q, hA0, hV, rfl, hfz, hnd⟩ := hW
  have hA : DataW.TrodAll enc Try.prog W 0 (fun _ => true) true Try.f7.params.toList args.toList ds p := hA0
  obtain ⟨rfl, rfl⟩ := trodVars_none hV
  have hlt : ∀ x ∈ p, x.block < W.heap.size := fun x hx => hW'.lt x (by simpa using hx)
  rw [Try.params7] at hA hval hsz
  obtain ⟨v0, vs0, d0, ds0, p0, q0, hargs, rfl, rfl, h0, r0⟩ := trodAll_cons hA
  obtain ⟨v1, vs1, d1, ds1, p1, q1, rfl, rfl, rfl, h1, r1⟩ := trodAll_cons r0
  obtain ⟨v2, vs2, d2, ds2, p2, q2, rfl, rfl, rfl, h2, r2⟩ := trodAll_cons r1
  obtain ⟨rfl, rfl, rfl⟩ := trodAll_nil r2
  obtain rfl : args = #[v0, v1, v2] := by cases args; simp_all
  clear hA0 hval0 hsz0
  refine (opened enc W base v0 d0 p0 v1 d1 p1 v2 d2 p2 (hval 0 _ v0 rfl rfl) h0 (hval 1 _ v1 rfl rfl) h1 (hval 2 _ v2 rfl rfl) h2 hsz).mono fun e W' ⟨he, bel⟩ => ?_
  subst he
  exact ⟨_, rfl, _, _, _, [], _, [], hW', trodAll_mk1 (shut_bool Try.underlying4 _), Below.trodAll laidOut (by intro t ht; have ht' : t ∈ [24, 44, 44] := ht; clear ht; simp only [List.mem_cons, List.not_mem_nil, or_false] at ht'; rcases ht' with rfl | rfl | rfl <;> exact ⟨by kernel_rfl, of_decide_eq_true (by kernel_rfl)⟩) hA bel hlt, rfl, bel.frame _, fun h => by cases h⟩

theorem over : Rows.plainCopiesRow.holds Try.pinned (OpenSpec.ofChange Rows.plainCopiesSpec) :=
  OpenClaim.holds_of_wide 7 Try.f7 rfl rfl rfl rfl rfl rfl rfl ⟨rfl, rfl, rfl, rfl, rfl⟩ rfl rfl rfl rfl rfl (by kernel_rfl) Try.func7 (by kernel_rfl)
    (of_decide_eq_true (by kernel_rfl)) (by unfold Func.isWrapper; first | (rw [if_pos (by decide +kernel)]; kernel_rfl) | (rw [if_neg (by decide +kernel)]; exact ⟨rfl, rfl⟩))
    (fun os started H enc _ => lifted os started H enc)

/-- THE STATEMENT -/
theorem proved : Rows.PlainCopiesSaid := over
#print axioms proved
end Go.Proofs.Ytpmpgnhbpneloaa.plainCopies
