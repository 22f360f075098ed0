/- carouselref24: Text, Kind, Look. -/
import Derived.Test.YtiheggkkgbfndaaGreatDoorK43
namespace Go.Proofs.YtiheggkkgbfndaaGreatDoor
open Go.RowKit Go.Joins Go.ChangeShapes Go.WideShapes Go.Deep
set_option linter.unusedVariables false
set_option linter.unusedSimpArgs false
set_option maxRecDepth 100000
theorem dig_small (n : Nat) (h : n < 10) : Go.Lib.decDigits n = [UInt8.ofNat (48 + n)] := by
 rw [Go.Lib.decDigits, dif_pos h]
theorem dig_big (n : Nat) (h : ¬ n < 10) : Go.Lib.decDigits n = Go.Lib.decDigits (n / 10) ++ [UInt8.ofNat (48 + n % 10)] := by
 rw [Go.Lib.decDigits, dif_neg h]
theorem dig_len : ∀ (k n : Nat), n < 10 ^ (k + 1) → (Go.Lib.decDigits n).length ≤ k + 1
 | 0, n, h => by rw [dig_small n (by omega)]; simp
 | k + 1, n, h => by
  by_cases h1 : n < 10
  ·rw [dig_small n h1]; simp
  ·rw [dig_big n h1, List.length_append]
   have := dig_len k (n / 10) (by rw [Nat.pow_succ] at h; omega)
   simp only [List.length_cons, List.length_nil]
   omega
set_option maxHeartbeats 2000000 in
theorem rtext_nat : ∀ (n : Nat), n ≤ 9223372036854775807 → ∀ w : World, Calls Tryz.prog 37 #[.int .i64 (n : Int)] w fun e w' => e = .returned (.string ⟨(Go.Lib.decDigits n).toArray⟩) ∧ Below w.heap.size w w' := by
 intro n
 induction n using Nat.strongRecOn with
 | ind n ih =>
  intro hn w
  have q1 : ((n : Int) == -9223372036854775808) = false := beq_eq_false_iff_ne.2 (by omega)
  have q2 : decide ((n : Int) = -9223372036854775808) = false := decide_eq_false (by omega)
  have q3 : decide ((n : Int) < 0) = false := decide_eq_false (by omega)
  have zr : ((n : Nat) : Int).tmod 10 = ((n % 10 : Nat) : Int) := (Int.tmod_eq_emod_of_nonneg (by omega)).trans rfl
  have zq : ((n : Nat) : Int).tdiv 10 = ((n / 10 : Nat) : Int) := (Int.tdiv_eq_ediv_of_nonneg (by omega)).trans rfl
  have z1 : IntKind.i64.wrap ((n % 10 : Nat) : Int) = ((n % 10 : Nat) : Int) := by rw [IntKind.wrap_i64]; omega
  have z2 : IntKind.i64.wrap (48 + ((n % 10 : Nat) : Int)) = 48 + ((n % 10 : Nat) : Int) := by rw [IntKind.wrap_i64]; omega
  have z4 : IntKind.i64.wrap ((n / 10 : Nat) : Int) = ((n / 10 : Nat) : Int) := by rw [IntKind.wrap_i64]; omega
  obtain ⟨sd, hsd, hrun⟩ : ∃ sd : ByteArray, sd.data.toList = [UInt8.ofNat (48 + n % 10)] ∧ (convert 73 9 (.slice (some ⟨w.heap.size, 0, none⟩) 1 1)).run Tryz.prog (w.alloc (.cells #[.int .u8 (48 + (n : Int) % 10)] 5)) = .ok (.string sd) (w.alloc (.cells #[.int .u8 (48 + (n : Int) % 10)] 5)) := by
   refine ⟨_, ?_, run_bytes_string (own_lit1 (w1 := w) rfl (z := 48 + (n : Int) % 10) (b := UInt8.ofNat (48 + n % 10)) ?_) rfl⟩
   ·rfl
   ·rw [UInt8.toNat_ofNat']
    omega
  have HB1 : Hid (Below w.heap.size w (w.alloc (.cells #[.int .u8 (48 + (n : Int) % 10)] 5))) := Lib.hid ((Below.refl _ _).alloc (Nat.le_refl _) _)
  have HIH := Lib.hid ih
  have HSD := Lib.hid hsd
  clear ih hsd
  by_cases h10 : n < 10
  ·have d1 : decide ((n : Int) < 10) = true := decide_eq_true (by omega)
   have d2 : decide (n < 10) = true := decide_eq_true h10
   have HR : Hid (sd = ⟨(Go.Lib.decDigits n).toArray⟩) := Lib.hid (by
    have h := HSD.out
    rw [show n % 10 = n by omega, ← dig_small n h10] at h
    cases sd with
    | mk d => rw [← h])
   clear h10
   go_enter Tryz.func37, Tryz.ntmps37
   go_upto_region 5 with fail
   go_upto_region 6 with fail
   clear hrun
   go_wp2
   go_ret
   exact ⟨by rw [HR.out]; rfl, HB1.out⟩
  ·have d1 : decide ((n : Int) < 10) = false := decide_eq_false (by omega)
   have d2 : decide (n < 10) = false := decide_eq_false h10
   obtain ⟨sq, hsq⟩ : ∃ sq : ByteArray, sq = ⟨(Go.Lib.decDigits (n / 10)).toArray⟩ := ⟨_, rfl⟩
   have HI : Hid (∀ W, Calls Tryz.prog 37 #[.int .i64 ((n : Int) / 10)] W fun e w' => e = .returned (.string sq) ∧ Below W.heap.size W w') := Lib.hid (by
    intro W
    have h := HIH.out (n / 10) (by omega) (by omega) W
    rw [show (((n / 10 : Nat)) : Int) = (n : Int) / 10 from rfl] at h
    rw [hsq]
    exact h)
   have hten : (10 : Nat) ^ (18 + 1) = 10000000000000000000 := by decide
   have hz1 : sq.size ≤ 19 := by rw [hsq, size_list]; exact dig_len 18 (n / 10) (by omega)
   have hz2 : sd.size = 1 := by rw [size_list, HSD.out]; rfl
   obtain ⟨sr, hsr, gr⟩ := sum_text sq sd (by omega)
   have HR : Hid (sr = ⟨(Go.Lib.decDigits n).toArray⟩) := Lib.hid (by
    have h := hsr
    rw [HSD.out, hsq] at h
    rw [dig_big n h10]
    cases sr with
    | mk d =>
     have h : d.toList = Go.Lib.decDigits (n / 10) ++ [UInt8.ofNat (48 + n % 10)] := h
     rw [← h])
   clear h10 hsr hsq hz1 hz2 HSD hten
   go_enter Tryz.func37, Tryz.ntmps37
   go_upto_region 5 with fail
   go_upto_region 6 with fail
   clear hrun
   go_wp2_with (go_at_call 37; refine (HI.out _).mono ?_; rintro e w2 ⟨rfl, hb2⟩)
   go_ret
   exact ⟨by rw [HR.out]; rfl, HB1.out.trans (hb2.mono HB1.out.size)⟩
theorem rtext_any (n : Int) (hn : i64ok n) (w : World) : Calls Tryz.prog 37 #[.int .i64 n] w fun e w' => e = .returned (.string ⟨(Go.Lib.itoa n).toArray⟩) ∧ Below w.heap.size w w' := by
 by_cases h0 : 0 ≤ n
 ·obtain ⟨k, rfl⟩ := Int.eq_ofNat_of_zero_le h0
  rw [Go.Lib.itoa_nonneg]
  exact rtext_nat k (by have := hn.2; omega) w
 ·by_cases hm : n = -9223372036854775808
  ·subst hm
   have HR : Hid ((⟨#[45, 57, 50, 50, 51, 51, 55, 50, 48, 51, 54, 56, 53, 52, 55, 55, 53, 56, 48, 56]⟩ : ByteArray) = ⟨(Go.Lib.itoa (-9223372036854775808)).toArray⟩) := Lib.hid (by decide +kernel)
   clear h0 hn
   go_enter Tryz.func37, Tryz.ntmps37
   go_wp2
   go_ret
   exact ⟨by rw [← HR.out]; rfl, Below.refl _ _⟩
  ·obtain ⟨k, hk⟩ : ∃ k : Nat, n = -((k : Nat) : Int) := ⟨n.natAbs, by omega⟩
   have hk1 : 1 ≤ k := by omega
   have hk2 : k ≤ 9223372036854775807 := by have := hn.1; omega
   have q1 : (n == -9223372036854775808) = false := beq_eq_false_iff_ne.2 hm
   have q2 : decide (n = -9223372036854775808) = false := decide_eq_false hm
   have q3 : decide (n < 0) = true := decide_eq_true (by omega)
   have zn : IntKind.i64.wrap (-n) = (k : Int) := by rw [IntKind.wrap_i64]; omega
   obtain ⟨sq, hsq⟩ : ∃ sq : ByteArray, sq = ⟨(Go.Lib.decDigits k).toArray⟩ := ⟨_, rfl⟩
   have HI : Hid (Calls Tryz.prog 37 #[.int .i64 (k : Int)] w fun e w' => e = .returned (.string sq) ∧ Below w.heap.size w w') := Lib.hid (by rw [hsq]; exact rtext_nat k hk2 w)
   have hten : (10 : Nat) ^ (18 + 1) = 10000000000000000000 := by decide
   have hz1 : sq.size ≤ 19 := by rw [hsq, size_list]; exact dig_len 18 k (by omega)
   obtain ⟨sr, hsr, gr⟩ := sum_text ⟨#[45]⟩ sq (by have : (⟨#[45]⟩ : ByteArray).size = 1 := rfl; omega)
   have HR : Hid (sr = ⟨(Go.Lib.itoa n).toArray⟩) := Lib.hid (by
    rw [hk, Go.Lib.itoa_neg k hk1]
    rw [hsq] at hsr
    cases sr with
    | mk d =>
     have h : d.toList = 45 :: Go.Lib.decDigits k := hsr
     rw [← h])
   clear hk hk1 hk2 hm h0 hn hsr hsq hz1 hten
   go_enter Tryz.func37, Tryz.ntmps37
   go_wp2_with (go_at_call 37; refine (HI.out).mono ?_; rintro e w2 ⟨rfl, hb2⟩)
   go_ret
   exact ⟨by rw [HR.out]; rfl, hb2⟩
theorem rkind_any (k : Nat) (hk : 1 ≤ k ∧ k ≤ 4) (w : World) : Calls Tryz.prog 38 #[.int .i64 (k : Int)] w fun e w' => e = .returned (.string ⟨(kindsL.getD (k - 1) []).toArray⟩) ∧ w' = w := by
 obtain ⟨h1, h4⟩ := hk
 have hc : k = 1 ∨ k = 2 ∨ k = 3 ∨ k = 4 := by omega
 clear h1 h4
 rcases hc with rfl | rfl | rfl | rfl
 all_goals (
  go_enter Tryz.func38, Tryz.ntmps38
  go_wp2
  go_ret
  exact ⟨rfl, rfl⟩)
theorem rlook_any (k : Nat) (hk : 2 ≤ k ∧ k ≤ 7) (w : World) : Calls Tryz.prog 41 #[.int .i64 (k : Int)] w fun e w' => e = .returned (.string ⟨(looksL.getD (k - 2) []).toArray⟩) ∧ w' = w := by
 obtain ⟨h1, h4⟩ := hk
 have hc : k = 2 ∨ k = 3 ∨ k = 4 ∨ k = 5 ∨ k = 6 ∨ k = 7 := by omega
 clear h1 h4
 rcases hc with rfl | rfl | rfl | rfl | rfl | rfl
 all_goals (
  go_enter Tryz.func41, Tryz.ntmps41
  go_wp2
  go_ret
  exact ⟨rfl, rfl⟩)
set_option maxHeartbeats 4000000 in
theorem rsteps_any (L : List Nat) (n c C : Nat) (A : Option Addr) (w : World) (hl : L.length = n) (hn6 : n ≤ 1000000) (h99 : ∀ t ∈ L, t ≤ 99) (hC : C ≤ w.heap.size) (hA : Reads w C 1 A n (rows i64C (L.map fun (t : Nat) => (t : Int)))) :
  Calls Tryz.prog 40 #[.slice A n c] w fun e w' => e = .returned (.string ⟨(stepsT L).toArray⟩) ∧ Below w.heap.size w w' := by
 have HA : Hid (0 < n → ∃ b off, A = some ⟨b, off, none⟩ ∧ b < w.heap.size ∧ ∀ i, i < n → ∃ a, L[i]? = some a ∧ a ≤ 99 ∧ ∀ W, Below w.heap.size w W → W.cell? ⟨b, off + i, none⟩ = some (.int .i64 ((a : Nat) : Int))) := Lib.hid fun h0 => by
  obtain ⟨b, off, h1, h2, h3⟩ := i64_cells (hA.more hC) (by rw [List.length_map]; exact hl) h0
  refine ⟨b, off, h1, h2, fun i hi => ?_⟩
  obtain ⟨a, ha⟩ : ∃ a, L[i]? = some a := ⟨_, List.getElem?_eq_getElem (by omega)⟩
  exact ⟨a, ha, h99 a (List.mem_of_getElem? ha), fun W hW => (hW.cell h2).trans (h3 i a (by rw [List.getElem?_map, ha]; rfl))⟩
 have HL := Lib.hid hl
 clear hA h99 hC hl
 go_enter Tryz.func40, Tryz.ntmps40
 go_upto_region 4 with fail
 go_loopg [3, 4, 5] n (fun gk sv mv iv W => ∃ (i k : Nat) (t : ByteArray), iv = .int .i64 i ∧ i ≤ n ∧ gk + i = n ∧ k ≤ i ∧ mv = .int .i64 ((i - k : Nat) : Int) ∧ sv = .string t ∧ Hid (ItemsTo L k t.data.toList) ∧ Hid (t.size ≤ 3 + 44 * k) ∧ Hid (∀ j, k ≤ j → j ≤ i → i < n → L[j]? = L[i]?) ∧ Hid (i = n → k = n) ∧ Hid (Below w.heap.size w W))
 case atStart => exact ⟨0, 0, ⟨#[114, 117, 110]⟩, rfl, Nat.zero_le _, rfl, Nat.le_refl _, rfl, rfl, Lib.hid (items_zero L), Lib.hid (by decide), Lib.hid (fun j h1 h2 _ => by rw [show j = 0 by omega]), Lib.hid (fun h => h), Lib.hid (Below.refl _ _)⟩
 case round =>
  obtain ⟨i, k, t, rfl, hi, hgk, hki, rfl, rfl, HT, HTZ, HRUN, HEND, HB⟩ := hrel
  have HG := Lib.hid hgk
  clear hgk
  obtain ⟨m, hm⟩ : ∃ m, m = i - k := ⟨_, rfl⟩
  rw [← hm]
  have HM : Hid (i = k + m) := Lib.hid (by omega)
  have hm6 : m ≤ 1000000 := by omega
  clear hm hki
  by_cases hil : i < n
  ·have e1 : decide ((i : Int) < (n : Int)) = true := decide_eq_true (by omega)
   have e2 : decide (i < n) = true := decide_eq_true hil
   have e3 : (i : Int) < (n : Int) := by omega
   have zw : IntKind.i64.wrap ((i : Int) + 1) = (i : Int) + 1 := by rw [IntKind.wrap_i64]; omega
   have zm : IntKind.i64.wrap ((m : Int) + 1) = (m : Int) + 1 := by rw [IntKind.wrap_i64]; omega
   obtain ⟨b, off, rfl, hb, hall⟩ := HA.out (by omega)
   obtain ⟨a, ha, ha9, hca⟩ := hall i hil
   have hbr : b < wr.heap.size := Nat.lt_of_lt_of_le hb HB.out.size
   have c1 := hca wr HB.out
   have HAI := Lib.hid ha
   have HCA := Lib.hid hca
   have HBL := Lib.hid hb
   have HTX : Hid (∀ W, Calls Tryz.prog 37 #[.int .i64 (a : Int)] W fun e w' => e = .returned (.string ⟨(Go.Lib.itoa (a : Int)).toArray⟩) ∧ Below W.heap.size W w') := Lib.hid fun W => rtext_any (a : Int) ⟨by omega, by omega⟩ W
   have HTM : Hid (∀ W, Calls Tryz.prog 37 #[.int .i64 ((m : Int) + 1)] W fun e w' => e = .returned (.string ⟨(Go.Lib.itoa ((m : Int) + 1)).toArray⟩) ∧ Below W.heap.size W w') := Lib.hid fun W => rtext_any ((m : Int) + 1) ⟨by omega, by omega⟩ W
   by_cases hl1 : i + 1 < n
   ·have f1 : decide ((i : Int) + 1 < (n : Int)) = true := decide_eq_true (by omega)
    have f2 : decide (i + 1 < n) = true := decide_eq_true hl1
    have f3 : (i : Int) + 1 < (n : Int) := by omega
    have f4 : (0 : Int) ≤ (i : Int) + 1 := by omega
    have f5 : ((i : Int) + 1).toNat = i + 1 := by omega
    obtain ⟨a2, ha2, _, hca2⟩ := hall (i + 1) hl1
    have c2 := hca2 wr HB.out
    have HA2 := Lib.hid ha2
    have HC2 := Lib.hid hca2
    clear ha ha2 hca hca2 hall hb
    by_cases hsame : a2 = a
    ·subst hsame
     go_upto_region 7 with fail
     go_quiet (fail)
     go_wp2
     go_roundg (n - (i + 1))
     case measure => have := HG.out; omega
     case rel => exact ⟨i + 1, k, t, by simp, by omega, by omega, by have := HM.out; omega, by rw [show i + 1 - k = m + 1 by have := HM.out; omega]; first | rfl | simp, rfl, HT, HTZ, Lib.hid (fun j h1 h2 h3 => by
      rcases Nat.lt_or_ge i j with h4 | h4
      ·rw [show j = i + 1 by omega]
      ·rw [HRUN.out j h1 h4 hil, HAI.out, HA2.out]), Lib.hid (fun h => by omega), Lib.hid (below_drewN HB.out _)⟩
    ·have d1 : ((a2 : Int) == (a : Int)) = false := beq_eq_false_iff_ne.2 (by omega)
     have d2 : decide (a2 = a) = false := decide_eq_false hsame
     have d3 : decide ((a2 : Int) = (a : Int)) = false := decide_eq_false (by omega)
     have d4 : (a2 == a) = false := beq_eq_false_iff_ne.2 hsame
     have HE : Hid (L[i + 1]? ≠ some a) := Lib.hid (by rw [HA2.out]; intro h; exact hsame (Option.some.inj h))
     clear hsame
     have htz : t.size ≤ 44000003 := by have := HTZ.out; have := HM.out; omega
     obtain ⟨sa, hsa⟩ : ∃ sa : ByteArray, sa = ⟨(Go.Lib.itoa (a : Int)).toArray⟩ := ⟨_, rfl⟩
     obtain ⟨sm, hsm⟩ : ∃ sm : ByteArray, sm = ⟨(Go.Lib.itoa ((m : Int) + 1)).toArray⟩ := ⟨_, rfl⟩
     rw [← hsa] at HTX
     rw [← hsm] at HTM
     have hza : sa.size ≤ 21 := by rw [hsa, size_list]; exact itoa_len (a : Int) ⟨by omega, by omega⟩
     have hzm : sm.size ≤ 21 := by rw [hsm, size_list]; exact itoa_len ((m : Int) + 1) ⟨by omega, by omega⟩
     have u32 : (⟨#[32]⟩ : ByteArray).size = 1 := rfl
     have u42 : (⟨#[42]⟩ : ByteArray).size = 1 := rfl
     obtain ⟨s1, hs1, g1⟩ := sum_text t ⟨#[32]⟩ (by omega)
     have hz1 : s1.size = t.size + 1 := by rw [size_list s1, hs1, List.length_append, ← size_list]; rfl
     obtain ⟨s2, hs2, g2⟩ := sum_text s1 sa (by omega)
     have hz2 : s2.size = s1.size + sa.size := by rw [size_list s2, hs2, List.length_append, ← size_list, ← size_list]
     obtain ⟨s3, hs3, g3⟩ := sum_text s2 ⟨#[42]⟩ (by omega)
     have hz3 : s3.size = s2.size + 1 := by rw [size_list s3, hs3, List.length_append, ← size_list]; rfl
     obtain ⟨s4, hs4, g4⟩ := sum_text s3 sm (by omega)
     have hz4 : s4.size = s3.size + sm.size := by rw [size_list s4, hs4, List.length_append, ← size_list, ← size_list]
     have HIT : Hid (∀ r : ByteArray, r.data.toList = t.data.toList ++ itemT (a, m + 1) → ItemsTo L (i + 1) r.data.toList) := Lib.hid fun r hr => by
      have h := items_step L k m a t.data.toList r.data.toList HT.out (fun j h1 h2 => by rw [HRUN.out j h1 (by have := HM.out; omega) hil, HAI.out]) (by rw [show k + (m + 1) = i + 1 by have := HM.out; omega]; exact HE.out) hr
      rw [show k + (m + 1) = i + 1 by have := HM.out; omega] at h
      exact h
     have HSZ : Hid (t.size + 44 ≤ 3 + 44 * (i + 1)) := Lib.hid (by have := HTZ.out; have := HM.out; omega)
     by_cases hm0 : 0 < m
     ·have k1 : decide ((1 : Int) < (m : Int) + 1) = true := decide_eq_true (by omega)
      have k2 : decide (0 < m) = true := decide_eq_true hm0
      have k3 : decide ((0 : Int) < (m : Int)) = true := decide_eq_true (by omega)
      have HR : Hid (s4.data.toList = t.data.toList ++ itemT (a, m + 1)) := Lib.hid (by
       rw [hs4, hs3, hs2, hs1, hsa, hsm]
       unfold itemT
       simp only
       rw [if_pos (by omega), show (((m + 1 : Nat)) : Int) = (m : Int) + 1 from rfl]
       simp)
      have HRZ : Hid (s4.size ≤ 3 + 44 * (i + 1)) := Lib.hid (by have := HSZ.out; omega)
      clear hsa hsm hs1 hs2 hs3 hs4 hz1 hz2 hz3 hz4 hza hzm htz hm0
      go_upto_region 7 with fail
      go_quiet (fail)
      go_upto_region 9 with (go_at_call 37; refine (show Calls _ _ #[.int .i64 (a : Int)] _ _ from HTX.out _).mono ?_; rintro e v1 ⟨rfl, hb⟩; have HV1 := Lib.hid ((below_drewN HB.out _).trans (hb.mono (below_drewN HB.out _).size)); clear hb)
      go_wp2_with (first
       | (go_at_call 37; refine (show Calls _ _ #[.int .i64 ((m : Int) + 1)] _ _ from HTM.out _).mono ?_; rintro e v2 ⟨rfl, hb⟩; have HV2 := Lib.hid (HV1.out.trans (hb.mono HV1.out.size)); clear hb))
      go_roundg (n - (i + 1))
      case measure => have := HG.out; omega
      case rel => exact ⟨i + 1, i + 1, s4, by simp, by omega, by omega, Nat.le_refl _, by rw [Nat.sub_self]; rfl, rfl, Lib.hid (HIT.out s4 HR.out), HRZ, Lib.hid (fun j h1 h2 h3 => by rw [show j = i + 1 by omega]), Lib.hid (fun h => h), HV2⟩
     ·have k1 : decide ((1 : Int) < (m : Int) + 1) = false := decide_eq_false (by omega)
      have k2 : decide (0 < m) = false := decide_eq_false hm0
      have k3 : decide ((0 : Int) < (m : Int)) = false := decide_eq_false (by omega)
      have HR : Hid (s2.data.toList = t.data.toList ++ itemT (a, m + 1)) := Lib.hid (by
       rw [hs2, hs1, hsa]
       unfold itemT
       simp only
       rw [if_neg (by omega)]
       simp)
      have HRZ : Hid (s2.size ≤ 3 + 44 * (i + 1)) := Lib.hid (by have := HSZ.out; omega)
      clear hsa hsm hs1 hs2 hs3 hs4 hz1 hz2 hz3 hz4 hza hzm htz hm0 g3 g4
      go_upto_region 7 with fail
      go_quiet (fail)
      go_wp2_with (go_at_call 37; refine (show Calls _ _ #[.int .i64 (a : Int)] _ _ from HTX.out _).mono ?_; rintro e v1 ⟨rfl, hb⟩; have HV1 := Lib.hid ((below_drewN HB.out _).trans (hb.mono (below_drewN HB.out _).size)); clear hb)
      go_roundg (n - (i + 1))
      case measure => have := HG.out; omega
      case rel => exact ⟨i + 1, i + 1, s2, by simp, by omega, by omega, Nat.le_refl _, by rw [Nat.sub_self]; rfl, rfl, Lib.hid (HIT.out s2 HR.out), HRZ, Lib.hid (fun j h1 h2 h3 => by rw [show j = i + 1 by omega]), Lib.hid (fun h => h), HV1⟩
   ·have f1 : decide ((i : Int) + 1 < (n : Int)) = false := decide_eq_false (by omega)
    have f2 : decide (i + 1 < n) = false := decide_eq_false hl1
    have HE : Hid (L[i + 1]? ≠ some a) := Lib.hid (by rw [List.getElem?_eq_none (by have := HL.out; omega)]; exact fun h => by cases h)
    clear ha hca hall hb
    by_cases htriv : True
    ·clear htriv
     have htz : t.size ≤ 44000003 := by have := HTZ.out; have := HM.out; omega
     obtain ⟨sa, hsa⟩ : ∃ sa : ByteArray, sa = ⟨(Go.Lib.itoa (a : Int)).toArray⟩ := ⟨_, rfl⟩
     obtain ⟨sm, hsm⟩ : ∃ sm : ByteArray, sm = ⟨(Go.Lib.itoa ((m : Int) + 1)).toArray⟩ := ⟨_, rfl⟩
     rw [← hsa] at HTX
     rw [← hsm] at HTM
     have hza : sa.size ≤ 21 := by rw [hsa, size_list]; exact itoa_len (a : Int) ⟨by omega, by omega⟩
     have hzm : sm.size ≤ 21 := by rw [hsm, size_list]; exact itoa_len ((m : Int) + 1) ⟨by omega, by omega⟩
     have u32 : (⟨#[32]⟩ : ByteArray).size = 1 := rfl
     have u42 : (⟨#[42]⟩ : ByteArray).size = 1 := rfl
     obtain ⟨s1, hs1, g1⟩ := sum_text t ⟨#[32]⟩ (by omega)
     have hz1 : s1.size = t.size + 1 := by rw [size_list s1, hs1, List.length_append, ← size_list]; rfl
     obtain ⟨s2, hs2, g2⟩ := sum_text s1 sa (by omega)
     have hz2 : s2.size = s1.size + sa.size := by rw [size_list s2, hs2, List.length_append, ← size_list, ← size_list]
     obtain ⟨s3, hs3, g3⟩ := sum_text s2 ⟨#[42]⟩ (by omega)
     have hz3 : s3.size = s2.size + 1 := by rw [size_list s3, hs3, List.length_append, ← size_list]; rfl
     obtain ⟨s4, hs4, g4⟩ := sum_text s3 sm (by omega)
     have hz4 : s4.size = s3.size + sm.size := by rw [size_list s4, hs4, List.length_append, ← size_list, ← size_list]
     have HIT : Hid (∀ r : ByteArray, r.data.toList = t.data.toList ++ itemT (a, m + 1) → ItemsTo L (i + 1) r.data.toList) := Lib.hid fun r hr => by
      have h := items_step L k m a t.data.toList r.data.toList HT.out (fun j h1 h2 => by rw [HRUN.out j h1 (by have := HM.out; omega) hil, HAI.out]) (by rw [show k + (m + 1) = i + 1 by have := HM.out; omega]; exact HE.out) hr
      rw [show k + (m + 1) = i + 1 by have := HM.out; omega] at h
      exact h
     have HSZ : Hid (t.size + 44 ≤ 3 + 44 * (i + 1)) := Lib.hid (by have := HTZ.out; have := HM.out; omega)
     by_cases hm0 : 0 < m
     ·have k1 : decide ((1 : Int) < (m : Int) + 1) = true := decide_eq_true (by omega)
      have k2 : decide (0 < m) = true := decide_eq_true hm0
      have k3 : decide ((0 : Int) < (m : Int)) = true := decide_eq_true (by omega)
      have HR : Hid (s4.data.toList = t.data.toList ++ itemT (a, m + 1)) := Lib.hid (by
       rw [hs4, hs3, hs2, hs1, hsa, hsm]
       unfold itemT
       simp only
       rw [if_pos (by omega), show (((m + 1 : Nat)) : Int) = (m : Int) + 1 from rfl]
       simp)
      have HRZ : Hid (s4.size ≤ 3 + 44 * (i + 1)) := Lib.hid (by have := HSZ.out; omega)
      clear hsa hsm hs1 hs2 hs3 hs4 hz1 hz2 hz3 hz4 hza hzm htz hm0
      go_upto_region 7 with fail
      go_quiet (fail)
      go_upto_region 9 with (go_at_call 37; refine (show Calls _ _ #[.int .i64 (a : Int)] _ _ from HTX.out _).mono ?_; rintro e v1 ⟨rfl, hb⟩; have HV1 := Lib.hid ((below_drewN HB.out _).trans (hb.mono (below_drewN HB.out _).size)); clear hb)
      go_wp2_with (first
       | (go_at_call 37; refine (show Calls _ _ #[.int .i64 ((m : Int) + 1)] _ _ from HTM.out _).mono ?_; rintro e v2 ⟨rfl, hb⟩; have HV2 := Lib.hid (HV1.out.trans (hb.mono HV1.out.size)); clear hb))
      go_roundg (n - (i + 1))
      case measure => have := HG.out; omega
      case rel => exact ⟨i + 1, i + 1, s4, by simp, by omega, by omega, Nat.le_refl _, by rw [Nat.sub_self]; rfl, rfl, Lib.hid (HIT.out s4 HR.out), HRZ, Lib.hid (fun j h1 h2 h3 => by rw [show j = i + 1 by omega]), Lib.hid (fun h => h), HV2⟩
     ·have k1 : decide ((1 : Int) < (m : Int) + 1) = false := decide_eq_false (by omega)
      have k2 : decide (0 < m) = false := decide_eq_false hm0
      have k3 : decide ((0 : Int) < (m : Int)) = false := decide_eq_false (by omega)
      have HR : Hid (s2.data.toList = t.data.toList ++ itemT (a, m + 1)) := Lib.hid (by
       rw [hs2, hs1, hsa]
       unfold itemT
       simp only
       rw [if_neg (by omega)]
       simp)
      have HRZ : Hid (s2.size ≤ 3 + 44 * (i + 1)) := Lib.hid (by have := HSZ.out; omega)
      clear hsa hsm hs1 hs2 hs3 hs4 hz1 hz2 hz3 hz4 hza hzm htz hm0 g3 g4
      go_upto_region 7 with fail
      go_quiet (fail)
      go_wp2_with (go_at_call 37; refine (show Calls _ _ #[.int .i64 (a : Int)] _ _ from HTX.out _).mono ?_; rintro e v1 ⟨rfl, hb⟩; have HV1 := Lib.hid ((below_drewN HB.out _).trans (hb.mono (below_drewN HB.out _).size)); clear hb)
      go_roundg (n - (i + 1))
      case measure => have := HG.out; omega
      case rel => exact ⟨i + 1, i + 1, s2, by simp, by omega, by omega, Nat.le_refl _, by rw [Nat.sub_self]; rfl, rfl, Lib.hid (HIT.out s2 HR.out), HRZ, Lib.hid (fun j h1 h2 h3 => by rw [show j = i + 1 by omega]), Lib.hid (fun h => h), HV1⟩
    ·exact absurd trivial htriv
  ·have e1 : decide ((i : Int) < (n : Int)) = false := decide_eq_false (by omega)
   have e2 : decide (i < n) = false := decide_eq_false hil
   have HK : Hid (ItemsTo L n t.data.toList) := Lib.hid (by rw [← HEND.out (by omega)]; exact HT.out)
   have hz : t.size ≤ 44000003 := by have := HTZ.out; have := HM.out; omega
   obtain ⟨sr, hsr, gr⟩ := sum_text t ⟨#[10]⟩ (by have : (⟨#[10]⟩ : ByteArray).size = 1 := rfl; omega)
   have HR : Hid (sr = ⟨(stepsT L).toArray⟩) := Lib.hid (by
    have h := items_end L n t.data.toList sr.data.toList HL.out HK.out hsr
    cases sr with
    | mk d =>
     have h : d.toList = stepsT L := h
     rw [← h])
   clear hz hsr
   go_wp2
   go_ret
   exact ⟨by rw [HR.out]; rfl, HB.out⟩
end Go.Proofs.YtiheggkkgbfndaaGreatDoor
