/- The document's 'finds' walked. -/
import Derived.Test.YtjggcidaolnmbaaS1
namespace Go.Proofs.Ytjggcidaolnmbaa
open Go.RowKit Go.Joins Go.ChangeShapes Go.WideShapes Go.Deep
set_option linter.unusedVariables false
set_option maxRecDepth 100000

theorem this_slot (F k m : Nat) (hm : 1 ≤ m) : ((F : Int) + (k : Int)).tmod (m : Int) = (((F + k) % m : Nat) : Int) := by
  rw [Int.tmod_eq_emod_of_nonneg (by omega)]
  have e : (F : Int) + (k : Int) = ((F + k : Nat) : Int) := by omega
  rw [e]
  rfl
def RelF2 (m : Nat) (cs : List Int) (key : Int) (slot F : Nat) (gk : Nat) (j : Value) (w wr : World) : Prop :=
  ∃ k : Nat, j = .int .i64 k ∧ k ≤ m ∧ gk = m - k ∧ fnd m cs key slot F (m - k) k = fnd m cs key slot F m 0 ∧ wr = w

set_option maxHeartbeats 4000000 in
theorem finds_any (m slot : Nat) (cs : List Int) (A : Option Addr) (n nc : Nat) (B : Nat) (w : World) (hm : 1 ≤ m) (hm16 : m ≤ 16) (hl : cs.length = 3 * m + 1) (hn : n = 3 * m + 1) (hs : slot < m) (hA : Reads w B 1 A n (ints cs)) :
    Calls Try.prog 39 #[.int .i64 m, .slice A n nc, .int .i64 slot] w fun e w' => e = .returned (.bool (reachF m cs slot)) ∧ w = w' := by
  obtain ⟨b, off, rfl, hb, hc⟩ := hA.flat (by omega)
  obtain ⟨s0, s1, _⟩ := tab_cell hl hc hs
  obtain ⟨F, hF, hFm, hFn⟩ := first_nat (ky cs slot) m hm hm16
  have hres : reachF m cs slot = fnd m cs (ky cs slot) slot F m 0 := by unfold reachF; rw [hFn]
  rw [hres]
  have HFI := rfirst_any (ky cs slot) m
  rw [hF] at HFI
  obtain ⟨K, hK⟩ : ∃ K, K = ky cs slot := ⟨_, rfl⟩
  obtain ⟨J, hJ⟩ : ∃ J, J = 1 + 3 * slot + 1 := ⟨_, rfl⟩
  rw [← hK, ← hJ] at s1
  rw [← hK] at HFI ⊢
  have hj0 : (2 : Int) + 3 * (slot : Int) = (J : Int) := by omega
  have hj1 : (J : Int) < (n : Int) := by omega
  have HL := Lib.hid hl
  have HC := Lib.hid hc
  have HN := Lib.hid hn
  clear hF hFn hres hK hc s0 hl hJ hA hn
  go_enter Try.func39, Try.ntmps39
  go_wp2_with fail
  clear s1 hj0 hj1
  go_loopg [8] m (fun gk j wr => RelF2 m cs K slot F gk j w wr)
  case atStart => exact ⟨0, rfl, Nat.zero_le _, rfl, rfl, rfl⟩
  case round =>
    obtain ⟨k, rfl, hk, hgk, hfn, rfl⟩ := hrel
    have HG := Lib.hid hgk
    have HFN := Lib.hid hfn
    clear hgk hfn
    by_cases hkm : k < m
    · obtain ⟨f, hf⟩ : ∃ f, m - k = f + 1 := ⟨m - k - 1, by omega⟩
      have hfn := HFN.out
      rw [hf, fnd_succ] at hfn
      have hi : (F + k) % m < m := Nat.mod_lt _ (by omega)
      obtain ⟨s0, s1, _⟩ := tab_cell HL.out HC.out hi
      have hts := this_slot F k m hm
      obtain ⟨I, hI⟩ : ∃ I, I = (F + k) % m := ⟨_, rfl⟩
      rw [← hI] at s0 s1 hi hfn hts
      obtain ⟨Q, hQ⟩ : ∃ Q, Q = 1 + 3 * I := ⟨_, rfl⟩
      obtain ⟨P, hP⟩ : ∃ P, P = 1 + 3 * I + 1 := ⟨_, rfl⟩
      rw [← hQ] at s0
      rw [← hP] at s1
      have hq : (1 : Int) + 3 * (I : Int) = (Q : Int) := by omega
      have hp : (2 : Int) + 3 * (I : Int) = (P : Int) := by omega
      have hq0 : (Q : Int) < (n : Int) := by have := HN.out; omega
      have hp0 : (P : Int) < (n : Int) := by have := HN.out; omega
      obtain ⟨S, hS⟩ : ∃ S, S = st cs I := ⟨_, rfl⟩
      obtain ⟨Y, hY⟩ : ∃ Y, Y = ky cs I := ⟨_, rfl⟩
      rw [← hS] at s0 hfn
      rw [← hY] at s1 hfn
      have HFN2 := Lib.hid hfn
      have HI := Lib.hid hI
      clear hfn hS hY hI hQ hP
      go_wp2_with fail
      refine (HFI _ (by omega) (by omega)).mono ?_
      rintro e w1 ⟨rfl, rfl⟩
      by_cases h0 : S = 0
      · have hfn := HFN2.out
        rw [if_pos h0] at hfn
        have e0 : (S == 0) = true := by simp [h0]
        have HR := Lib.hid hfn
        clear hfn h0
        go_wp2_with fail
        go_ret
        exact ⟨congrArg (fun z => Ending.returned (.bool z)) HR.out, rfl⟩
      · have e0 : (S == 0) = false := by simp [h0]
        by_cases h1 : S = 1
        · have e1 : (S == 1) = true := by simp [h1]
          clear h0
          by_cases hy : Y = K
          · have ey : (Y == K) = true := by simp [hy]
            have hfn := HFN2.out
            rw [if_neg (by omega), if_pos ⟨h1, hy⟩] at hfn
            have HR := Lib.hid hfn
            clear hfn h1 hy
            go_wp2_with fail
            go_ret
            refine ⟨?_, rfl⟩
            rw [← HR.out]
            by_cases hIs : I = slot
            · simp [hIs]
            · have e2 : ((I : Int) == (slot : Int)) = false := by simp; omega
              simp [hIs, e2]
          · have ey : (Y == K) = false := by simp [hy]
            have hfn := HFN2.out
            rw [if_neg (by omega), if_neg (fun h => hy h.2)] at hfn
            have HR := Lib.hid hfn
            clear hfn h1 hy
            go_wp2_with fail
            go_roundg (m - (k + 1))
            case measure => have := HG.out; omega
            case rel =>
              refine ⟨k + 1, by go_num, by omega, rfl, ?_, rfl⟩
              rw [show m - (k + 1) = f by omega]
              exact HR.out
        · have e1 : (S == 1) = false := by simp [h1]
          have hfn := HFN2.out
          rw [if_neg h0, if_neg (fun h => h1 h.1)] at hfn
          have HR := Lib.hid hfn
          clear hfn h1 h0
          go_wp2_with fail
          go_roundg (m - (k + 1))
          case measure => have := HG.out; omega
          case rel =>
            refine ⟨k + 1, by go_num, by omega, rfl, ?_, rfl⟩
            rw [show m - (k + 1) = f by omega]
            exact HR.out
    · obtain rfl : k = m := by omega
      go_wp2_with fail
      go_ret
      refine ⟨?_, rfl⟩
      have := HFN.out
      rw [Nat.sub_self] at this
      rw [← this]
      rfl
end Go.Proofs.Ytjggcidaolnmbaa
