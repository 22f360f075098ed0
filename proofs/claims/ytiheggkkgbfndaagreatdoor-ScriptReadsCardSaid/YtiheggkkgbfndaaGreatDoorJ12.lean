/- carouselref24.Number. (From XBu by replacement.) -/
import Derived.Test.YtiheggkkgbfndaaGreatDoorJ03
import Derived.Test.YtiheggkkgbfndaaGreatDoorJ02
import Derived.Deep.LoopGhost
import Derived.Deep.QuietTactic
import Derived.BigQuiet
import Derived.Test.YtiheggkkgbfndaaGreatDoorJ07
import Derived.Test.YtiheggkkgbfndaaGreatDoorJ09
namespace Go.Proofs.YtiheggkkgbfndaaGreatDoor
open Go.RowKit Go.Joins Go.ChangeShapes Go.WideShapes Go.Deep
set_option linter.unusedVariables false
set_option linter.unusedSimpArgs false
set_option maxRecDepth 100000
def preN (s : ByteArray) (i : Nat) : Nat := decV (s.data.toList.take i)
theorem preN_succ (s : ByteArray) (i : Nat) (h : i < s.size) : preN s (i + 1) = 10 * preN s i + ((s[i]).toNat - 48) := by
 unfold preN
 rw [List.take_add_one, List.getElem?_eq_getElem (by rw [Array.length_toList]; exact h)]
 exact decV_snoc _ _
theorem preN_all (s : ByteArray) : preN s s.size = decV s.data.toList := by
 unfold preN
 rw [List.take_of_length_le (by rw [Array.length_toList]; exact Nat.le_refl _)]
theorem decN_lt (l : List UInt8) (hd : ∀ c ∈ l, isDig c = true) : decV l < 10 ^ l.length := by
 induction l using snoc_ind' with
 | h0 => simp [decV]
 | h1 l c ih =>
  have h1 := ih fun x hx => hd x (List.mem_append_left _ hx)
  have h2 : 48 ≤ c.toNat ∧ c.toNat ≤ 57 := by simpa [isDig] using hd c (by simp)
  rw [decV_snoc, List.length_append, List.length_singleton, Nat.pow_succ]
  omega
theorem preN_lt18 (s : ByteArray) (i : Nat) (hi : i ≤ 18) (hd : ∀ j (h : j < s.size), j < i → 48 ≤ (s[j]).toNat ∧ (s[j]).toNat ≤ 57) : preN s i < 1000000000000000000 := by
 have h := decN_lt (s.data.toList.take i) (fun c hc => by
  obtain ⟨j, hj, rfl⟩ := List.mem_iff_getElem.1 hc
  rw [List.length_take, Array.length_toList] at hj
  have h2 := hd j (show j < s.data.size by omega) (by omega)
  rw [List.getElem_take]
  unfold isDig
  exact decide_eq_true h2)
 have h3 : (s.data.toList.take i).length ≤ 18 := by rw [List.length_take]; omega
 have h4 : (10 : Nat) ^ (s.data.toList.take i).length ≤ 10 ^ 18 := Nat.pow_le_pow_right (by omega) h3
 have h5 : (10 : Nat) ^ 18 = 1000000000000000000 := by decide
 unfold preN
 omega
theorem natF_noDig {l : List UInt8} {c : UInt8} (h : c ∈ l) (hd : isDig c = false) : natF l = none := by
 unfold natF
 rw [if_pos]
 exact .inr (.inr (.inr (.inl (List.any_eq_true.2 ⟨c, h, by rw [hd]; rfl⟩))))
def NatPost (s : ByteArray) (w : World) (e : Ending) (w' : World) : Prop := w' = w ∧ ∃ n : Nat, n ≤ 9223372036854775807 ∧ e = .returned (.tuple #[.int .i64 (n : Int), .bool (natF s.data.toList).isSome]) ∧ ∀ m, natF s.data.toList = some m → m = n
set_option maxHeartbeats 2000000 in
theorem rNumber_any (s : ByteArray) (w : World) (hs : s.size ≤ 4294967296) : Calls Tryz.prog 51 #[.string s] w (NatPost s w) := by
 have hsz : s.data.toList.length = s.size := Array.length_toList
 by_cases h0 : s.size = 0
 ·have hs0 : s = ⟨#[]⟩ := bytes_inj (List.eq_nil_of_length_eq_zero (by rw [hsz]; exact h0))
  have HE : Hid (natF (⟨#[]⟩ : ByteArray).data.toList = none) := Lib.hid (by unfold natF; rw [if_pos (.inl rfl)])
  subst hs0
  clear h0 hsz hs
  go_enter Tryz.func51, Tryz.ntmps51
  go_wp2
  go_ret2
  exact ⟨rfl, 0, by omega, by rw [HE.out]; rfl, fun m hm => by rw [HE.out] at hm; cases hm⟩
 ·have hp : 0 < s.size := by omega
  have hE : (s.toList == []) = false := by
   rw [beq_eq_false_iff_ne, ByteArray.toList_eq]
   intro h
   rw [h] at hsz
   exact h0 hsz.symm
  have hhead : s.data.toList.head? = some (s[0]) := by
   rw [List.head?_eq_getElem?, List.getElem?_eq_getElem (by rw [hsz]; exact hp)]
   rfl
  have HHD := Lib.hid hhead
  clear h0 hhead
  have HSZ := Lib.hid hsz
  clear hsz
  have key : ∀ (b : Bool), decide (1 < s.size) = b → Calls Tryz.prog 51 #[.string s] w (NatPost s w) := by
   intro b hb
   cases b with
   | false =>
    have g1 := hb
    have g2 : decide ((1 : Int) < (s.size : Int)) = false := decide_eq_false (by have := of_decide_eq_false hb; omega)
    have g3 : decide (19 < s.size) = false := decide_eq_false (by have := of_decide_eq_false hb; omega)
    have g4 : decide ((19 : Int) < (s.size : Int)) = false := decide_eq_false (by have := of_decide_eq_false hb; omega)
    have HRR : Hid (s.data.toList ≠ [] ∧ ¬ 19 < s.data.toList.length ∧ (1 < s.data.toList.length → ¬ s.data.toList.head? = some 48)) := Lib.hid ⟨fun e => by have := HSZ.out; rw [e] at this; simp at this; omega, by rw [HSZ.out]; exact of_decide_eq_false g3, fun h1 => absurd h1 (by rw [HSZ.out]; exact of_decide_eq_false g1)⟩
    obtain ⟨n, hn⟩ : ∃ n, n = s.size := ⟨_, rfl⟩
    have hn1 : n ≤ s.size := by omega
    have hn2 : s.size ≤ n := by omega
    have hn19 : n ≤ 19 := by have := of_decide_eq_false g3; omega
    clear hn hb
    go_enter Tryz.func51, Tryz.ntmps51
    go_wp2_with fail
    go_loopg [4, 5] n (fun gk nv iv wr => ∃ i : Nat, iv = .int .i64 i ∧ i ≤ n ∧ gk = n - i ∧ nv = .int .u64 (preN s i : Nat) ∧ wr = w ∧ ∀ j (hj : j < s.size), j < i → 48 ≤ (s[j]).toNat ∧ (s[j]).toNat ≤ 57)
    case atStart => exact ⟨0, rfl, Nat.zero_le _, rfl, rfl, rfl, fun j _ h => absurd h (by omega)⟩
    case round =>
     obtain ⟨i, rfl, hi, hgk, rfl, rfl, hdg⟩ := hrel
     have HG := Lib.hid hgk
     have HDG := Lib.hid hdg
     clear hgk hdg
     by_cases hil : i < n
     ·have e1 : decide ((i : Int) < (s.size : Int)) = true := decide_eq_true (by omega)
      have e2 : decide (i < s.size) = true := decide_eq_true (by omega)
      have hiz : i < s.size := by omega
      have HPL : Hid (preN s i < 1000000000000000000) := Lib.hid (preN_lt18 s i (by omega) HDG.out)
      have HPS := Lib.hid (preN_succ s i hiz)
      obtain ⟨P, hP⟩ : ∃ P, P = preN s i := ⟨_, rfl⟩
      rw [← hP] at HPL HPS ⊢
      have HMEM : Hid (s[i] ∈ s.data.toList) := Lib.hid (by
       have : s[i] = s.data.toList[i]'(by rw [Array.length_toList]; exact hiz) := rfl
       rw [this]
       exact List.getElem_mem _)
      clear hP
      by_cases hlo : (s[i]).toNat < 48
      ·have q1 : decide (((s[i]).toNat : Int) < 48) = true := decide_eq_true (by omega)
       have q2 : decide ((s[i]).toNat < 48) = true := decide_eq_true hlo
       have HE : Hid (natF s.data.toList = none) := Lib.hid (natF_noDig HMEM.out (by unfold isDig; exact decide_eq_false (by omega)))
       go_wp2
       go_ret2
       exact ⟨rfl, 0, by omega, by rw [HE.out]; rfl, fun m hm => by rw [HE.out] at hm; cases hm⟩
      ·have q1 : decide (((s[i]).toNat : Int) < 48) = false := decide_eq_false (by omega)
       have q2 : decide ((s[i]).toNat < 48) = false := decide_eq_false hlo
       by_cases hup : 57 < (s[i]).toNat
       ·have q3 : decide ((57 : Int) < ((s[i]).toNat : Int)) = true := decide_eq_true (by omega)
        have q4 : decide (57 < (s[i]).toNat) = true := decide_eq_true hup
        have HE : Hid (natF s.data.toList = none) := Lib.hid (natF_noDig HMEM.out (by unfold isDig; exact decide_eq_false (by omega)))
        go_wp2
        go_ret2
        exact ⟨rfl, 0, by omega, by rw [HE.out]; rfl, fun m hm => by rw [HE.out] at hm; cases hm⟩
       ·have q3 : decide ((57 : Int) < ((s[i]).toNat : Int)) = false := decide_eq_false (by omega)
        have q4 : decide (57 < (s[i]).toNat) = false := decide_eq_false hup
        have HLU := Lib.hid (And.intro hlo hup)
        clear hlo hup
        go_wp2
        go_roundg (n - (i + 1))
        case measure => have := HG.out; omega
        case rel =>
         have h1 := HLU.out
         refine ⟨i + 1, by simp, by omega, rfl, ?_, rfl, fun j hj hji => ?_⟩
         ·rw [HPS.out]
          have h2 := HPL.out
          have h3 := (s[i]).toNat_lt
          congr 1
          simp [IntKind.wrap, IntKind.bits, IntKind.signed]
          omega
         ·by_cases hji2 : j = i
          ·subst hji2; omega
          ·exact HDG.out j hj (by omega)
     ·have e1 : decide ((i : Int) < (s.size : Int)) = false := decide_eq_false (by omega)
      have e2 : decide (i < s.size) = false := decide_eq_false (by omega)
      have HI : Hid (i = s.size) := Lib.hid (by omega)
      have HVA : Hid (preN s i = decV s.data.toList) := Lib.hid (by rw [HI.out]; exact preN_all s)
      have HAD : Hid (∀ c ∈ s.data.toList, isDig c = true) := Lib.hid (fun c hc => by
       obtain ⟨j, hj, rfl⟩ := List.mem_iff_getElem.1 hc
       rw [Array.length_toList] at hj
       have hj' : j < s.size := hj
       have := HDG.out j hj' (by have := HI.out; omega)
       unfold isDig
       exact decide_eq_true this)
      obtain ⟨P, hP⟩ : ∃ P, P = preN s i := ⟨_, rfl⟩
      rw [← hP] at HVA ⊢
      clear hP
      by_cases hbig : 9223372036854775807 < P
      ·have q1 : decide ((9223372036854775807 : Int) < (P : Int)) = true := decide_eq_true (by omega)
       have q2 : decide (9223372036854775807 < P) = true := decide_eq_true hbig
       have HE : Hid (natF s.data.toList = none) := Lib.hid (by
        unfold natF
        rw [if_pos (.inr (.inr (.inr (.inr (by rw [← HVA.out]; exact hbig)))))])
       clear hbig
       go_wp2
       go_ret2
       exact ⟨rfl, 0, by omega, by rw [HE.out]; rfl, fun m hm => by rw [HE.out] at hm; cases hm⟩
      ·have q1 : decide ((9223372036854775807 : Int) < (P : Int)) = false := decide_eq_false (by omega)
       have q2 : decide (9223372036854775807 < P) = false := decide_eq_false hbig
       have HE : Hid (natF s.data.toList = some P) := Lib.hid (by
        unfold natF
        rw [if_neg, ← HVA.out]
        ·simp only [not_or, not_and, List.any_eq_true, Bool.not_eq_true', not_exists]
         obtain ⟨r1, r2, r3⟩ := HRR.out
         refine ⟨r1, r2, r3, fun c hc => by rw [HAD.out c hc]; exact Bool.noConfusion, by rw [← HVA.out]; exact hbig⟩)
       have HBG := Lib.hid hbig
       clear hbig
       go_wp2
       go_ret2
       have h3 := HBG.out
       have h4 : wrap64 (P : Int) = (P : Int) := by unfold wrap64; omega
       exact ⟨rfl, P, by omega, by rw [HE.out, h4]; rfl, fun m hm => by rw [HE.out] at hm; injection hm with hm; exact hm.symm⟩
   | true =>
    have g1 := hb
    have g2 : decide ((1 : Int) < (s.size : Int)) = true := decide_eq_true (by have := of_decide_eq_true hb; omega)
    by_cases h19 : 19 < s.size
    ·have g3 : decide (19 < s.size) = true := decide_eq_true h19
     have g4 : decide ((19 : Int) < (s.size : Int)) = true := decide_eq_true (by omega)
     have HE : Hid (natF s.data.toList = none) := Lib.hid (by
      unfold natF
      rw [if_pos (.inr (.inl (by rw [HSZ.out]; exact h19)))])
     clear h19 hb
     go_enter Tryz.func51, Tryz.ntmps51
     go_wp2
     go_ret2
     exact ⟨rfl, 0, by omega, by rw [HE.out]; rfl, fun m hm => by rw [HE.out] at hm; cases hm⟩
    ·have g3 : decide (19 < s.size) = false := decide_eq_false h19
     have g4 : decide ((19 : Int) < (s.size : Int)) = false := decide_eq_false (by omega)
     by_cases h48 : s[0] = 48
     ·have q48 : (((s[0]).toNat : Int) == 48) = true := by rw [h48]; rfl
      have HE : Hid (natF s.data.toList = none) := Lib.hid (by
       unfold natF
       rw [if_pos (.inr (.inr (.inl ⟨by rw [HSZ.out]; exact of_decide_eq_true hb, by rw [HHD.out, h48]⟩)))])
      clear h19 hb h48
      go_enter Tryz.func51, Tryz.ntmps51
      go_wp2
      go_ret2
      exact ⟨rfl, 0, by omega, by rw [HE.out]; rfl, fun m hm => by rw [HE.out] at hm; cases hm⟩
     ·have q48 : (((s[0]).toNat : Int) == 48) = false := by
       rw [beq_eq_false_iff_ne]
       intro e
       exact h48 (UInt8.toNat_inj.1 (by show _ = 48; omega))
      have HRR : Hid (s.data.toList ≠ [] ∧ ¬ 19 < s.data.toList.length ∧ (1 < s.data.toList.length → ¬ s.data.toList.head? = some 48)) := Lib.hid ⟨fun e => by have := HSZ.out; rw [e] at this; simp at this; omega, by rw [HSZ.out]; exact of_decide_eq_false g3, fun h1 => by rw [HHD.out]; exact fun e => h48 (by injection e)⟩
      obtain ⟨n, hn⟩ : ∃ n, n = s.size := ⟨_, rfl⟩
      have hn1 : n ≤ s.size := by omega
      have hn2 : s.size ≤ n := by omega
      have hn19 : n ≤ 19 := by omega
      clear hn hb h19 h48
      go_enter Tryz.func51, Tryz.ntmps51
      go_wp2_with fail
      go_loopg [4, 5] n (fun gk nv iv wr => ∃ i : Nat, iv = .int .i64 i ∧ i ≤ n ∧ gk = n - i ∧ nv = .int .u64 (preN s i : Nat) ∧ wr = w ∧ ∀ j (hj : j < s.size), j < i → 48 ≤ (s[j]).toNat ∧ (s[j]).toNat ≤ 57)
      case atStart => exact ⟨0, rfl, Nat.zero_le _, rfl, rfl, rfl, fun j _ h => absurd h (by omega)⟩
      case round =>
       obtain ⟨i, rfl, hi, hgk, rfl, rfl, hdg⟩ := hrel
       have HG := Lib.hid hgk
       have HDG := Lib.hid hdg
       clear hgk hdg
       by_cases hil : i < n
       ·have e1 : decide ((i : Int) < (s.size : Int)) = true := decide_eq_true (by omega)
        have e2 : decide (i < s.size) = true := decide_eq_true (by omega)
        have hiz : i < s.size := by omega
        have HPL : Hid (preN s i < 1000000000000000000) := Lib.hid (preN_lt18 s i (by omega) HDG.out)
        have HPS := Lib.hid (preN_succ s i hiz)
        obtain ⟨P, hP⟩ : ∃ P, P = preN s i := ⟨_, rfl⟩
        rw [← hP] at HPL HPS ⊢
        have HMEM : Hid (s[i] ∈ s.data.toList) := Lib.hid (by
         have : s[i] = s.data.toList[i]'(by rw [Array.length_toList]; exact hiz) := rfl
         rw [this]
         exact List.getElem_mem _)
        clear hP
        by_cases hlo : (s[i]).toNat < 48
        ·have q1 : decide (((s[i]).toNat : Int) < 48) = true := decide_eq_true (by omega)
         have q2 : decide ((s[i]).toNat < 48) = true := decide_eq_true hlo
         have HE : Hid (natF s.data.toList = none) := Lib.hid (natF_noDig HMEM.out (by unfold isDig; exact decide_eq_false (by omega)))
         go_wp2
         go_ret2
         exact ⟨rfl, 0, by omega, by rw [HE.out]; rfl, fun m hm => by rw [HE.out] at hm; cases hm⟩
        ·have q1 : decide (((s[i]).toNat : Int) < 48) = false := decide_eq_false (by omega)
         have q2 : decide ((s[i]).toNat < 48) = false := decide_eq_false hlo
         by_cases hup : 57 < (s[i]).toNat
         ·have q3 : decide ((57 : Int) < ((s[i]).toNat : Int)) = true := decide_eq_true (by omega)
          have q4 : decide (57 < (s[i]).toNat) = true := decide_eq_true hup
          have HE : Hid (natF s.data.toList = none) := Lib.hid (natF_noDig HMEM.out (by unfold isDig; exact decide_eq_false (by omega)))
          go_wp2
          go_ret2
          exact ⟨rfl, 0, by omega, by rw [HE.out]; rfl, fun m hm => by rw [HE.out] at hm; cases hm⟩
         ·have q3 : decide ((57 : Int) < ((s[i]).toNat : Int)) = false := decide_eq_false (by omega)
          have q4 : decide (57 < (s[i]).toNat) = false := decide_eq_false hup
          have HLU := Lib.hid (And.intro hlo hup)
          clear hlo hup
          go_wp2
          go_roundg (n - (i + 1))
          case measure => have := HG.out; omega
          case rel =>
           have h1 := HLU.out
           refine ⟨i + 1, by simp, by omega, rfl, ?_, rfl, fun j hj hji => ?_⟩
           ·rw [HPS.out]
            have h2 := HPL.out
            have h3 := (s[i]).toNat_lt
            congr 1
            simp [IntKind.wrap, IntKind.bits, IntKind.signed]
            omega
           ·by_cases hji2 : j = i
            ·subst hji2; omega
            ·exact HDG.out j hj (by omega)
       ·have e1 : decide ((i : Int) < (s.size : Int)) = false := decide_eq_false (by omega)
        have e2 : decide (i < s.size) = false := decide_eq_false (by omega)
        have HI : Hid (i = s.size) := Lib.hid (by omega)
        have HVA : Hid (preN s i = decV s.data.toList) := Lib.hid (by rw [HI.out]; exact preN_all s)
        have HAD : Hid (∀ c ∈ s.data.toList, isDig c = true) := Lib.hid (fun c hc => by
         obtain ⟨j, hj, rfl⟩ := List.mem_iff_getElem.1 hc
         rw [Array.length_toList] at hj
         have hj' : j < s.size := hj
         have := HDG.out j hj' (by have := HI.out; omega)
         unfold isDig
         exact decide_eq_true this)
        obtain ⟨P, hP⟩ : ∃ P, P = preN s i := ⟨_, rfl⟩
        rw [← hP] at HVA ⊢
        clear hP
        by_cases hbig : 9223372036854775807 < P
        ·have q1 : decide ((9223372036854775807 : Int) < (P : Int)) = true := decide_eq_true (by omega)
         have q2 : decide (9223372036854775807 < P) = true := decide_eq_true hbig
         have HE : Hid (natF s.data.toList = none) := Lib.hid (by
          unfold natF
          rw [if_pos (.inr (.inr (.inr (.inr (by rw [← HVA.out]; exact hbig)))))])
         clear hbig
         go_wp2
         go_ret2
         exact ⟨rfl, 0, by omega, by rw [HE.out]; rfl, fun m hm => by rw [HE.out] at hm; cases hm⟩
        ·have q1 : decide ((9223372036854775807 : Int) < (P : Int)) = false := decide_eq_false (by omega)
         have q2 : decide (9223372036854775807 < P) = false := decide_eq_false hbig
         have HE : Hid (natF s.data.toList = some P) := Lib.hid (by
          unfold natF
          rw [if_neg, ← HVA.out]
          ·simp only [not_or, not_and, List.any_eq_true, Bool.not_eq_true', not_exists]
           obtain ⟨r1, r2, r3⟩ := HRR.out
           refine ⟨r1, r2, r3, fun c hc => by rw [HAD.out c hc]; exact Bool.noConfusion, by rw [← HVA.out]; exact hbig⟩)
         have HBG := Lib.hid hbig
         clear hbig
         go_wp2
         go_ret2
         have h3 := HBG.out
         have h4 : wrap64 (P : Int) = (P : Int) := by unfold wrap64; omega
         exact ⟨rfl, P, by omega, by rw [HE.out, h4]; rfl, fun m hm => by rw [HE.out] at hm; injection hm with hm; exact hm.symm⟩
  exact key _ rfl
end Go.Proofs.YtiheggkkgbfndaaGreatDoor
namespace Go.Proofs.YtiheggkkgbfndaaGreatDoor
open Go Go.Lib
set_option linter.unusedVariables false
set_option linter.unusedSimpArgs false
theorem sc_bound (a : Nat) (p : List UInt8) : (∀ t ∈ (sc a p).1, t.s.length ≤ p.length ∧ t.pos ≤ a + p.length) ∧ (sc a p).2.1.length ≤ p.length := by
 induction p using snoc_ind' with
 | h0 => exact ⟨fun t h => (by cases h), Nat.le_refl _⟩
 | h1 l x ih =>
  obtain ⟨i1, i2⟩ := ih
  have hl := sc_len a l
  rw [sc_snoc, scStep, List.length_append, List.length_singleton]
  split
  ·refine ⟨fun t ht => ?_, Nat.zero_le _⟩
   simp only at ht
   split at ht
   ·have := i1 t ht; omega
   ·rcases List.mem_append.1 ht with h | h
    ·have := i1 t h; omega
    ·obtain rfl := List.mem_singleton.1 h
     simp only
     omega
  ·refine ⟨fun t ht => ?_, ?_⟩
   ·have := i1 t ht; omega
   ·simp only [List.length_append, List.length_singleton]; omega
theorem lineTok_bound (l : List UInt8) (a : Nat) : ∀ t ∈ lineTok l a, t.s.length ≤ l.length ∧ t.pos ≤ a + l.length := by
 intro t ht
 have hc : (cutR l).length ≤ l.length := List.IsPrefix.length_le (List.takeWhile_prefix _)
 obtain ⟨h1, h2⟩ := sc_bound a (cutR l)
 have hl := sc_len a (cutR l)
 unfold lineTok flushT at ht
 split at ht
 ·have := h1 t ht; omega
 ·rcases List.mem_append.1 ht with h | h
  ·have := h1 t h; omega
  ·obtain rfl := List.mem_singleton.1 h
   simp only
   omega
theorem lineTok_count (l : List UInt8) (a : Nat) : (lineTok l a).length ≤ l.length + 1 := by
 have hc : (cutR l).length ≤ l.length := List.IsPrefix.length_le (List.takeWhile_prefix _)
 have := sc_count a (cutR l)
 unfold lineTok flushT
 split
 ·omega
 ·rw [List.length_append, List.length_singleton]; omega
theorem linesL_cons (r : RSt) (x : List Tok) (l : List (List Tok)) : linesL r (x :: l) = match lineL r x with | .error e => .error e | .ok r' => linesL r' l := rfl
theorem linesL_app : ∀ (l1 : List (List Tok)) (r : RSt) (l2 : List (List Tok)), linesL r (l1 ++ l2) = match linesL r l1 with | .error e => .error e | .ok r' => linesL r' l2
 | [], r, l2 => rfl
 | x :: l1, r, l2 => by
  rw [List.cons_append, linesL_cons, linesL_cons]
  cases lineL r x with
  | error e => rfl
  | ok r' =>
   simp only
   exact linesL_app l1 r' l2
theorem endL_labels {r r' : RSt} {t nm : Tok} {c : Nat} {o : Int} {rest : List Tok} (h : endL r t c o nm rest = .ok r') : r'.labels = r.labels := by
 cases rest with
 | cons x l => cases h
 | nil =>
  unfold endL at h
  simp only at h
  split at h
  ·cases h
  ·injection h with h
   subst h
   rfl
theorem insL_labels {r r' : RSt} {t : Tok} {rest : List Tok} (h : insL r t rest = .ok r') : r'.labels = r.labels := by
 unfold insL at h
 split at h
 ·cases h
 ·split at h
  ·split at h
   ·cases h
   ·split at h
    ·cases h
    ·exact endL_labels h
  ·exact endL_labels h
theorem lineL_labels {r r' : RSt} {l : List Tok} (h : lineL r l = .ok r') : r'.labels.length ≤ r.labels.length + 1 := by
 unfold lineL at h
 split at h
 ·injection h with h; subst h; omega
 ·split at h
  ·split at h
   ·cases h
   ·split at h
    ·cases h
    ·split at h
     ·injection h with h; subst h; simp
     ·rw [insL_labels h]; simp
  ·rw [insL_labels h]; omega
def fromF (LS : List (List UInt8)) (j : Nat) : Nat := ((LS.take j).map fun l => l.length + 1).sum
theorem fromF_succ (LS : List (List UInt8)) (j : Nat) (h : j < LS.length) : fromF LS (j + 1) = fromF LS j + (LS[j].length + 1) := by
 unfold fromF
 rw [List.take_succ_eq_append_getElem h, List.map_append, List.sum_append]
 simp
theorem fromF_mono (LS : List (List UInt8)) : ∀ (k j : Nat), j + k ≤ LS.length → fromF LS j ≤ fromF LS (j + k)
 | 0, j, _ => Nat.le_refl _
 | k + 1, j, h => by
  have h1 := fromF_mono LS k j (by omega)
  have h2 := fromF_succ LS (j + k) (by omega)
  have e : j + (k + 1) = j + k + 1 := by omega
  rw [e]
  omega
theorem splitF_sum (c : UInt8) (l : List UInt8) : ((splitF c l).map fun x => x.length + 1).sum = l.length + 1 := by
 induction l with
 | nil => rfl
 | cons b r ih =>
  unfold splitF
  by_cases hb : b = c
  ·simp only [hb, if_true, List.map_cons, List.sum_cons, List.length_cons, List.length_nil]
   omega
  ·simp only [hb, if_false]
   split
   ·rename_i x xs h
    rw [h] at ih
    simp only [List.map_cons, List.sum_cons, List.length_cons] at ih ⊢
    omega
   ·rename_i h
    exact absurd h (splitF_ne c r)
theorem line_bound (c : UInt8) (l : List UInt8) (j : Nat) (h : j < (splitF c l).length) : fromF (splitF c l) j + (splitF c l)[j].length ≤ l.length := by
 have h1 := fromF_succ (splitF c l) j h
 have h2 := fromF_mono (splitF c l) ((splitF c l).length - (j + 1)) (j + 1) (by omega)
 have h3 : fromF (splitF c l) (splitF c l).length = l.length + 1 := by
  unfold fromF
  rw [List.take_length]
  exact splitF_sum c l
 rw [show j + 1 + ((splitF c l).length - (j + 1)) = (splitF c l).length by omega, h3] at h2
 omega
theorem toksFrom_get : ∀ (LS : List (List UInt8)) (a j : Nat) (h : j < LS.length), (toksFrom a LS)[j]? = some (lineTok LS[j] (a + fromF LS j))
 | [], a, j, h => absurd h (by simp)
 | l :: r, a, 0, h => by simp [toksFrom, fromF]
 | l :: r, a, j + 1, h => by
  have h' : j < r.length := by simpa using h
  rw [toksFrom, List.getElem?_cons_succ, toksFrom_get r _ j h']
  have : fromF (l :: r) (j + 1) = (l.length + 1) + fromF r j := by simp [fromF]
  rw [this]
  simp only [List.getElem_cons_succ]
  congr 2
  omega
end Go.Proofs.YtiheggkkgbfndaaGreatDoor
