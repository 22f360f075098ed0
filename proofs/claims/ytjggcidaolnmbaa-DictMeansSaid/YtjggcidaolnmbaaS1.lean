/- Does a look for a slot's key find that slot? As a plain function; 'reached' and the document's 'finds' walked. -/
import Derived.Test.YtjggcidaolnmbaaDt
import Derived.Test.YtjggcidaolnmbaaArg
import Derived.Deep.LoopGhost
import Derived.WalkMore
namespace Go.Proofs.Ytjggcidaolnmbaa
open Go.RowKit Go.Joins Go.ChangeShapes Go.WideShapes Go.Deep
set_option linter.unusedVariables false
set_option maxRecDepth 100000

def fnd (m : Nat) (cs : List Int) (key : Int) (slot F : Nat) : Nat → Nat → Bool
  | 0, _ => false
  | f + 1, k =>
    if st cs ((F + k) % m) = 0 then false
    else if st cs ((F + k) % m) = 1 ∧ ky cs ((F + k) % m) = key then decide ((F + k) % m = slot)
    else fnd m cs key slot F f (k + 1)
theorem fnd_succ (m : Nat) (cs : List Int) (key : Int) (slot F f k : Nat) : fnd m cs key slot F (f + 1) k = if st cs ((F + k) % m) = 0 then false
    else if st cs ((F + k) % m) = 1 ∧ ky cs ((F + k) % m) = key then decide ((F + k) % m = slot)
    else fnd m cs key slot F f (k + 1) := rfl
def reachF (m : Nat) (cs : List Int) (slot : Nat) : Bool := fnd m cs (ky cs slot) slot (firstI (ky cs slot) m).toNat m 0

theorem tab_cell {w : World} {b off m : Nat} {cs : List Int} (hl : cs.length = 3 * m + 1) (hc : ∀ (j : Nat) u, (ints cs)[j]? = some u → w.cell? ⟨b, off + j, none⟩ = some u) {i : Nat} (hi : i < m) :
    w.cell? ⟨b, off + (1 + 3 * i), none⟩ = some (.int .i64 (st cs i)) ∧ w.cell? ⟨b, off + (1 + 3 * i + 1), none⟩ = some (.int .i64 (ky cs i)) ∧ w.cell? ⟨b, off + (1 + 3 * i + 2), none⟩ = some (.int .i64 (vl cs i)) := by
  refine ⟨?_, ?_, ?_⟩
  · rw [hc _ _ (ints_at cs (1 + 3 * i) (by omega))]
    simp [st, List.getD_eq_getElem?_getD, List.getElem?_eq_getElem (show 1 + 3 * i < cs.length by omega)]
  · rw [hc _ _ (ints_at cs (1 + 3 * i + 1) (by omega))]
    simp [ky, List.getD_eq_getElem?_getD, List.getElem?_eq_getElem (show 1 + 3 * i + 1 < cs.length by omega)]
  · rw [hc _ _ (ints_at cs (1 + 3 * i + 2) (by omega))]
    simp [vl, List.getD_eq_getElem?_getD, List.getElem?_eq_getElem (show 1 + 3 * i + 2 < cs.length by omega)]

theorem first_nat (key : Int) (m : Nat) (hm : 1 ≤ m) (hm16 : m ≤ 16) : ∃ F : Nat, firstI key m = F ∧ F < m ∧ (firstI key m).toNat = F := by
  obtain ⟨h0, h1, _⟩ := firstI_bd key m (by omega) (by omega)
  exact ⟨(firstI key m).toNat, by omega, by omega, rfl⟩

theorem next_slot (F k m : Nat) (hm : 1 ≤ m) (hm16 : m ≤ 16) : ((((F + k) % m : Nat) : Int) + 1).tmod (m : Int) = (((F + (k + 1)) % m : Nat) : Int) := by
  rw [Int.tmod_eq_emod_of_nonneg (by omega)]
  have e : (((F + k) % m : Nat) : Int) + 1 = ((((F + k) % m) + 1 : Nat) : Int) := by omega
  rw [e]
  have h : (((F + k) % m) + 1) % m = (F + (k + 1)) % m := by rw [Nat.add_mod, Nat.mod_mod, ← Nat.add_mod, Nat.add_assoc]
  rw [← h]
  rfl

def RelF (m : Nat) (cs : List Int) (key : Int) (slot F : Nat) (gk : Nat) (i j : Value) (w wr : World) : Prop :=
  ∃ k : Nat, i = .int .i64 (((F + k) % m : Nat) : Int) ∧ j = .int .i64 k ∧ k ≤ m ∧ gk = m - k ∧ fnd m cs key slot F (m - k) k = fnd m cs key slot F m 0 ∧ wr = w

set_option maxHeartbeats 4000000 in
theorem reached_any (m slot : Nat) (cs : List Int) (A : Option Addr) (n nc : Nat) (B : Nat) (w : World) (hm : 1 ≤ m) (hm16 : m ≤ 16) (hl : cs.length = 3 * m + 1) (hn : n = 3 * m + 1) (hs : slot < m) (hA : Reads w B 1 A n (ints cs)) :
    Calls Try.prog 35 #[.int .i64 m, .slice A n nc, .int .i64 slot] w fun e w' => e = .returned (.bool (reachF m cs slot)) ∧ w = w' := by
  obtain ⟨b, off, rfl, hb, hc⟩ := hA.flat (by omega)
  obtain ⟨s0, s1, _⟩ := tab_cell hl hc hs
  obtain ⟨F, hF, hFm, hFn⟩ := first_nat (ky cs slot) m hm hm16
  have hres : reachF m cs slot = fnd m cs (ky cs slot) slot F m 0 := by unfold reachF; rw [hFn]
  rw [hres]
  have HAT := at_any (slot : Int)
  have HFI := first_any (ky cs slot) m
  rw [hF] at HFI
  obtain ⟨K, hK⟩ : ∃ K, K = ky cs slot := ⟨_, rfl⟩
  obtain ⟨J, hJ⟩ : ∃ J, J = 1 + 3 * slot := ⟨_, rfl⟩
  rw [← hK, ← hJ] at s1
  rw [← hK] at HFI ⊢
  rw [show (1 : Int) + 3 * (slot : Int) = (J : Int) by omega] at HAT
  have hj1 : (J : Int) + 1 < (n : Int) := by omega
  have HL := Lib.hid hl
  have HC := Lib.hid hc
  have HJ := Lib.hid hJ
  clear hF hFn hres hK hc s0 hl hJ hA
  go_enter Try.func35, Try.ntmps35
  go_wp2_with fail
  go_step3
  go_wp2_with fail
  refine (HAT _ (by omega) (by omega)).mono ?_
  rintro e w1 ⟨rfl, rfl⟩
  go_wp2_with fail
  refine (HFI _ (by omega) (by omega)).mono ?_
  rintro e w1 ⟨rfl, rfl⟩
  clear HAT HFI s1 hj1
  go_wp2_with fail
  go_step3
  go_wp2_with fail
  go_loopg [8, 9, 20] m (fun gk i u j wr => u = .bool false ∧ RelF m cs K slot F gk i j w wr)
  case atStart => exact ⟨rfl, 0, by rw [Nat.add_zero, Nat.mod_eq_of_lt hFm], rfl, Nat.zero_le _, rfl, rfl, rfl⟩
  case round =>
    obtain ⟨rfl, k, rfl, rfl, hk, hgk, hfn, rfl⟩ := hrel
    have HG := Lib.hid hgk
    have HFN := Lib.hid hfn
    clear hgk hfn
    by_cases hkm : k < m
    · obtain ⟨f, hf⟩ : ∃ f, m - k = f + 1 := ⟨m - k - 1, by omega⟩
      have hfn := HFN.out
      rw [hf, fnd_succ] at hfn
      have hi : (F + k) % m < m := Nat.mod_lt _ (by omega)
      obtain ⟨s0, s1, _⟩ := tab_cell HL.out HC.out hi
      have hnx := next_slot F k m hm hm16
      obtain ⟨I, hI⟩ : ∃ I, I = (F + k) % m := ⟨_, rfl⟩
      rw [← hI] at s0 s1 hi hfn hnx ⊢
      have HAT := at_any (I : Int)
      obtain ⟨Q, hQ⟩ : ∃ Q, Q = 1 + 3 * I := ⟨_, rfl⟩
      rw [← hQ] at s0 s1
      rw [show (1 : Int) + 3 * (I : Int) = (Q : Int) by omega] at HAT
      have hq1 : (Q : Int) + 1 < (n : Int) := by omega
      have hq0 : (Q : Int) < (n : Int) := by omega
      obtain ⟨S, hS⟩ : ∃ S, S = st cs I := ⟨_, rfl⟩
      obtain ⟨Y, hY⟩ : ∃ Y, Y = ky cs I := ⟨_, rfl⟩
      rw [← hS] at s0 hfn
      rw [← hY] at s1 hfn
      have HFN2 := Lib.hid hfn
      have HI := Lib.hid hI
      clear hfn hS hY hI hQ
      go_wp2_with fail
      refine (HAT _ (by omega) (by omega)).mono ?_
      rintro e w1 ⟨rfl, rfl⟩
      by_cases h0 : S = 0
      · have hfn := HFN2.out
        rw [if_pos h0] at hfn
        have e0 : (S == 0) = true := by simp [h0]
        have HR := Lib.hid hfn
        clear hfn h0
        go_wp2_with fail
        (try simp only [Exit.noGoto])
        go_ret
        exact ⟨congrArg (fun z => Ending.returned (.bool z)) HR.out, rfl⟩
      · have e0 : (S == 0) = false := by simp [h0]
        go_wp2_with fail
        refine (HAT _ (by omega) (by omega)).mono ?_
        rintro e w1 ⟨rfl, rfl⟩
        by_cases h1 : S = 1
        · have e1 : (S == 1) = true := by simp [h1]
          clear h0
          go_wp2_with fail
          refine (HAT _ (by omega) (by omega)).mono ?_
          rintro e w1 ⟨rfl, rfl⟩
          by_cases hy : Y = K
          · have ey : (Y == K) = true := by simp [hy]
            have hfn := HFN2.out
            rw [if_neg (by omega), if_pos ⟨h1, hy⟩] at hfn
            have HR := Lib.hid hfn
            clear hfn h1 hy
            go_wp2_with fail
            (try simp only [Exit.noGoto])
            go_ret
            refine ⟨?_, rfl⟩
            rw [← HR.out]
            by_cases hIs : I = slot
            · simp [hIs]
            · have e2 : ((I : Int) == (slot : Int)) = false := by simp; omega
              simp [hIs, e2]
          · have ey : (Y == K) = false := by simp [hy]
            have hfn := HFN2.out
            rw [if_neg (by omega), if_neg (fun h => hy h.2)] at hfn
            have HR := Lib.hid hfn
            clear hfn h1 hy
            go_wp2_with fail
            go_roundg (m - (k + 1))
            case measure => have := HG.out; omega
            case rel =>
              refine ⟨rfl, k + 1, ?_, by go_num, by omega, rfl, ?_, rfl⟩
              · first | rfl | (rw [HI.out]; rfl)
              · rw [show m - (k + 1) = f by omega]
                exact HR.out
        · have e1 : (S == 1) = false := by simp [h1]
          have hfn := HFN2.out
          rw [if_neg h0, if_neg (fun h => h1 h.1)] at hfn
          have HR := Lib.hid hfn
          clear hfn h1 h0
          go_wp2_with fail
          go_roundg (m - (k + 1))
          case measure => have := HG.out; omega
          case rel =>
            refine ⟨rfl, k + 1, ?_, by go_num, by omega, rfl, ?_, rfl⟩
            · first | rfl | (rw [HI.out]; rfl)
            · rw [show m - (k + 1) = f by omega]
              exact HR.out
    · obtain rfl : k = m := by omega
      go_wp2_with fail
      (try simp only [Exit.noGoto])
      go_ret
      refine ⟨?_, rfl⟩
      have := HFN.out
      rw [Nat.sub_self] at this
      rw [← this]
      rfl
end Go.Proofs.Ytjggcidaolnmbaa
