/- carouselref14: number. -/
import Derived.Test.YthghnihlfdoefaaDoorPe
namespace Go.Proofs.YthghnihlfdoefaaDoor
open Go.RowKit Go.Joins Go.ChangeShapes Go.WideShapes Go.Deep
set_option linter.unusedVariables false
set_option linter.unusedSimpArgs false
set_option maxRecDepth 100000

def preV (s : ByteArray) (i : Nat) : Nat := decV (s.data.toList.take i)
theorem preV_succ (s : ByteArray) (i : Nat) (h : i < s.size) : preV s (i + 1) = 10 * preV s i + ((s[i]).toNat - 48) := by
  unfold preV
  rw [List.take_add_one, List.getElem?_eq_getElem (by rw [Array.length_toList]; exact h)]
  exact decV_snoc _ _
theorem preV_all (s : ByteArray) : preV s s.size = decV s.data.toList := by
  unfold preV
  rw [List.take_of_length_le (by rw [Array.length_toList]; exact Nat.le_refl _)]
theorem decV_lt (l : List UInt8) (hd : ∀ c ∈ l, isDig c = true) : decV l < 10 ^ l.length := by
  induction l using snoc_ind' with
  | h0 => simp [decV]
  | h1 l c ih =>
    have h1 := ih fun x hx => hd x (List.mem_append_left _ hx)
    have h2 : 48 ≤ c.toNat ∧ c.toNat ≤ 57 := by simpa [isDig] using hd c (by simp)
    rw [decV_snoc, List.length_append, List.length_singleton, Nat.pow_succ]
    omega
theorem preV_lt18 (s : ByteArray) (i : Nat) (hi : i ≤ 18) (hd : ∀ j (h : j < s.size), j < i → 48 ≤ (s[j]).toNat ∧ (s[j]).toNat ≤ 57) : preV s i < 1000000000000000000 := by
  have h := decV_lt (s.data.toList.take i) (fun c hc => by
    obtain ⟨j, hj, rfl⟩ := List.mem_iff_getElem.1 hc
    rw [List.length_take, Array.length_toList] at hj
    have h2 := hd j (show j < s.data.size by omega) (by omega)
    rw [List.getElem_take]
    unfold isDig
    exact decide_eq_true h2)
  have h3 : (s.data.toList.take i).length ≤ 18 := by rw [List.length_take]; omega
  have h4 : (10 : Nat) ^ (s.data.toList.take i).length ≤ 10 ^ 18 := Nat.pow_le_pow_right (by omega) h3
  have h5 : (10 : Nat) ^ 18 = 1000000000000000000 := by decide
  unfold preV
  omega
def minS : ByteArray := ⟨#[45, 57, 50, 50, 51, 51, 55, 50, 48, 51, 54, 56, 53, 52, 55, 55, 53, 56, 48, 56]⟩
theorem minS_list : minS.data.toList = minB := by
  have h := canon (l := [57, 50, 50, 51, 51, 55, 50, 48, 51, 54, 56, 53, 52, 55, 55, 53, 56, 48, 56]) (by simp) (by decide) (by
    intro _ c r e
    injection e with e1 e2
    subst e1
    decide)
  have e2 : decV [57, 50, 50, 51, 51, 55, 50, 48, 51, 54, 56, 53, 52, 55, 55, 53, 56, 48, 56] = 9223372036854775808 := by decide +kernel
  rw [e2] at h
  unfold minB
  rw [← h]
  rfl
theorem numF_minus (r : List UInt8) (hm : 45 :: r ≠ minB) : numF (45 :: r) = match numF r with | some n => if 0 < n then some (-n) else none | none => none := by
  have key : ∀ n : Int, 0 < n → (numF r = some n ↔ natF r = some n.toNat) := by
    intro n hn
    rw [numF_some, natF_some]
    unfold i64ok0 Go.Lib.itoa
    rw [if_neg (by omega)]
    constructor
    · rintro ⟨h1, h2⟩; exact ⟨by omega, h2⟩
    · rintro ⟨h1, h2⟩; exact ⟨by omega, h2⟩
  unfold numF
  rw [if_neg hm]
  simp only [if_true]
  cases hn : natF r with
  | none =>
    simp only
    cases hq : numF r with
    | none => unfold numF at hq; rw [hq]
    | some n =>
      by_cases h0 : 0 < n
      · have := (key n h0).1 hq
        rw [hn] at this
        cases this
      · unfold numF at hq
        rw [hq]
        simp [h0]
  | some k =>
    simp only
    by_cases hk : 0 < k
    · have := (key (k : Int) (by omega)).2 (by rw [hn]; congr 1)
      unfold numF at this
      rw [this, if_pos hk]
      simp only
      rw [if_pos (by omega)]
    · rw [if_neg hk]
      cases hq : numF r with
      | none => unfold numF at hq; rw [hq]
      | some n =>
        by_cases h0 : 0 < n
        · have := (key n h0).1 hq
          rw [hn] at this
          injection this with this
          omega
        · unfold numF at hq
          rw [hq]
          simp [h0]
theorem natF_nodigit {l : List UInt8} {c : UInt8} (h : c ∈ l) (hd : isDig c = false) : natF l = none := by
  unfold natF
  rw [if_pos]
  exact .inr (.inr (.inr (.inl (List.any_eq_true.2 ⟨c, h, by rw [hd]; rfl⟩))))
theorem numF_plain (s : List UInt8) (hm : s ≠ minB) (h : ¬ (1 < s.length ∧ s.head? = some 45)) : numF s = (natF s).map fun (n : Nat) => (n : Int) := by
  unfold numF
  rw [if_neg hm]
  cases s with
  | nil => simp [natF]
  | cons c r =>
    simp only
    by_cases hc : c = 45
    · subst hc
      have hr : r = [] := by
        cases r with
        | nil => rfl
        | cons x y => exact absurd ⟨by simp, rfl⟩ h
      subst hr
      rw [if_pos rfl]
      rfl
    · rw [if_neg hc]
def NumPost (s : ByteArray) (w : World) (e : Ending) (w' : World) : Prop := w' = w ∧ ∃ n, i64ok n ∧ e = .returned (.tuple #[.int .i64 n, .bool (numF s.data.toList).isSome]) ∧ ∀ m, numF s.data.toList = some m → m = n
set_option maxHeartbeats 2000000 in
/-- Where no sign is read: the digits. -/
theorem number_digits (s : ByteArray) (w : World) (hs : s.size ≤ 4294967296) (hm : s ≠ minS) (h : ¬ (1 < s.size ∧ s.data.toList.head? = some 45)) :
    Calls Tryd.prog 73 #[.string s] w (NumPost s w) := by
  have hm1 : (s.toList == [45, 57, 50, 50, 51, 51, 55, 50, 48, 51, 54, 56, 53, 52, 55, 55, 53, 56, 48, 56]) = false := by
    rw [beq_eq_false_iff_ne, ByteArray.toList_eq]
    exact fun h => hm (bytes_inj h)
  have hsz : s.data.toList.length = s.size := Array.length_toList
  have HN : Hid (numF s.data.toList = (natF s.data.toList).map fun (n : Nat) => (n : Int)) := Lib.hid (numF_plain _ (by rw [← minS_list]; exact fun e => hm (bytes_inj e)) (by rw [hsz]; exact h))
  have HNF := HN
  clear HN
  by_cases h0 : s.size = 0
  · have hs0 : s = ⟨#[]⟩ := bytes_inj (List.eq_nil_of_length_eq_zero (by rw [hsz]; exact h0))
    have HE : Hid (numF (⟨#[]⟩ : ByteArray).data.toList = none) := Lib.hid (by decide)
    subst hs0
    clear HNF hm h h0 hsz hs
    go_enter Tryd.func73, Tryd.ntmps73
    go_wp2
    go_ret2
    exact ⟨rfl, 0, by unfold i64ok; omega, by rw [HE.out]; rfl, fun m hm => by rw [HE.out] at hm; cases hm⟩
  · have hp : 0 < s.size := by omega
    have hE : (s.toList == []) = false := by
      rw [beq_eq_false_iff_ne, ByteArray.toList_eq]
      intro h
      rw [h] at hsz
      exact h0 hsz.symm
    have hhead : s.data.toList.head? = some (s[0]) := by
      rw [List.head?_eq_getElem?, List.getElem?_eq_getElem (by rw [hsz]; exact hp)]
      rfl
    rw [hhead] at h
    have HHD := Lib.hid hhead
    clear h0 hhead
    have HSZ := Lib.hid hsz
    clear hsz hm
    have key : ∀ (b : Bool), decide (1 < s.size) = b → Calls Tryd.prog 73 #[.string s] w (NumPost s w) := by
      intro b hb
      cases b with
      | false =>
        have g1 := hb
        have g2 : decide ((1 : Int) < (s.size : Int)) = false := decide_eq_false (by have := of_decide_eq_false hb; omega)
        have g3 : decide (19 < s.size) = false := decide_eq_false (by have := of_decide_eq_false hb; omega)
        have g4 : decide ((19 : Int) < (s.size : Int)) = false := decide_eq_false (by have := of_decide_eq_false hb; omega)
        have HRR : Hid (s.data.toList ≠ [] ∧ ¬ 19 < s.data.toList.length ∧ (1 < s.data.toList.length → ¬ s.data.toList.head? = some 48)) := Lib.hid ⟨fun e => by have := HSZ.out; rw [e] at this; simp at this; omega, by rw [HSZ.out]; exact of_decide_eq_false g3, fun h1 => absurd h1 (by rw [HSZ.out]; exact of_decide_eq_false g1)⟩
        obtain ⟨n, hn⟩ : ∃ n, n = s.size := ⟨_, rfl⟩
        have hn1 : n ≤ s.size := by omega
        have hn2 : s.size ≤ n := by omega
        have hn19 : n ≤ 19 := by have := of_decide_eq_false g3; omega
        clear hn hb h
        go_enter Tryd.func73, Tryd.ntmps73
        go_wp2_with fail
        go_loopg [6, 7] n (fun gk nv iv wr => ∃ i : Nat, iv = .int .i64 i ∧ i ≤ n ∧ gk = n - i ∧ nv = .int .u64 (preV s i : Nat) ∧ wr = w ∧ ∀ j (hj : j < s.size), j < i → 48 ≤ (s[j]).toNat ∧ (s[j]).toNat ≤ 57)
        case atStart => exact ⟨0, rfl, Nat.zero_le _, rfl, rfl, rfl, fun j _ h => absurd h (by omega)⟩
        case round =>
          obtain ⟨i, rfl, hi, hgk, rfl, rfl, hdg⟩ := hrel
          have HG := Lib.hid hgk
          have HDG := Lib.hid hdg
          clear hgk hdg
          by_cases hil : i < n
          · have e1 : decide ((i : Int) < (s.size : Int)) = true := decide_eq_true (by omega)
            have e2 : decide (i < s.size) = true := decide_eq_true (by omega)
            have hiz : i < s.size := by omega
            have HPL : Hid (preV s i < 1000000000000000000) := Lib.hid (preV_lt18 s i (by omega) HDG.out)
            have HPS := Lib.hid (preV_succ s i hiz)
            obtain ⟨P, hP⟩ : ∃ P, P = preV s i := ⟨_, rfl⟩
            rw [← hP] at HPL HPS ⊢
            have HMEM : Hid (s[i] ∈ s.data.toList) := Lib.hid (by
              have : s[i] = s.data.toList[i]'(by rw [Array.length_toList]; exact hiz) := rfl
              rw [this]
              exact List.getElem_mem _)
            clear hP
            by_cases hlo : (s[i]).toNat < 48
            · have q1 : decide (((s[i]).toNat : Int) < 48) = true := decide_eq_true (by omega)
              have q2 : decide ((s[i]).toNat < 48) = true := decide_eq_true hlo
              have HE : Hid (numF s.data.toList = none) := Lib.hid (by rw [HNF.out, natF_nodigit HMEM.out (by unfold isDig; exact decide_eq_false (by omega))]; rfl)
              go_wp2
              go_ret2
              exact ⟨rfl, 0, by unfold i64ok; omega, by rw [HE.out]; rfl, fun m hm => by rw [HE.out] at hm; cases hm⟩
            · have q1 : decide (((s[i]).toNat : Int) < 48) = false := decide_eq_false (by omega)
              have q2 : decide ((s[i]).toNat < 48) = false := decide_eq_false hlo
              by_cases hup : 57 < (s[i]).toNat
              · have q3 : decide ((57 : Int) < ((s[i]).toNat : Int)) = true := decide_eq_true (by omega)
                have q4 : decide (57 < (s[i]).toNat) = true := decide_eq_true hup
                have HE : Hid (numF s.data.toList = none) := Lib.hid (by rw [HNF.out, natF_nodigit HMEM.out (by unfold isDig; exact decide_eq_false (by omega))]; rfl)
                go_wp2
                go_ret2
                exact ⟨rfl, 0, by unfold i64ok; omega, by rw [HE.out]; rfl, fun m hm => by rw [HE.out] at hm; cases hm⟩
              · have q3 : decide ((57 : Int) < ((s[i]).toNat : Int)) = false := decide_eq_false (by omega)
                have q4 : decide (57 < (s[i]).toNat) = false := decide_eq_false hup
                have HLU := Lib.hid (And.intro hlo hup)
                clear hlo hup
                go_wp2
                go_roundg (n - (i + 1))
                case measure => have := HG.out; omega
                case rel =>
                  have h1 := HLU.out
                  refine ⟨i + 1, by simp, by omega, rfl, ?_, rfl, fun j hj hji => ?_⟩
                  · rw [HPS.out]
                    have h2 := HPL.out
                    have h3 := (s[i]).toNat_lt
                    congr 1
                    simp [IntKind.wrap, IntKind.bits, IntKind.signed]
                    omega
                  · by_cases hji2 : j = i
                    · subst hji2; omega
                    · exact HDG.out j hj (by omega)
          · have e1 : decide ((i : Int) < (s.size : Int)) = false := decide_eq_false (by omega)
            have e2 : decide (i < s.size) = false := decide_eq_false (by omega)
            have HI : Hid (i = s.size) := Lib.hid (by omega)
            have HVA : Hid (preV s i = decV s.data.toList) := Lib.hid (by rw [HI.out]; exact preV_all s)
            have HAD : Hid (∀ c ∈ s.data.toList, isDig c = true) := Lib.hid (fun c hc => by
              obtain ⟨j, hj, rfl⟩ := List.mem_iff_getElem.1 hc
              rw [Array.length_toList] at hj
              have hj' : j < s.size := hj
              have := HDG.out j hj' (by have := HI.out; omega)
              unfold isDig
              exact decide_eq_true this)
            obtain ⟨P, hP⟩ : ∃ P, P = preV s i := ⟨_, rfl⟩
            rw [← hP] at HVA ⊢
            clear hP
            by_cases hbig : 9223372036854775807 < P
            · have q1 : decide ((9223372036854775807 : Int) < (P : Int)) = true := decide_eq_true (by omega)
              have q2 : decide (9223372036854775807 < P) = true := decide_eq_true hbig
              have HE : Hid (numF s.data.toList = none) := Lib.hid (by
                rw [HNF.out]
                unfold natF
                rw [if_pos (.inr (.inr (.inr (.inr (by rw [← HVA.out]; exact hbig)))))]
                rfl)
              clear hbig
              go_wp2
              go_ret2
              exact ⟨rfl, 0, by unfold i64ok; omega, by rw [HE.out]; rfl, fun m hm => by rw [HE.out] at hm; cases hm⟩
            · have q1 : decide ((9223372036854775807 : Int) < (P : Int)) = false := decide_eq_false (by omega)
              have q2 : decide (9223372036854775807 < P) = false := decide_eq_false hbig
              have HE : Hid (numF s.data.toList = some (P : Int)) := Lib.hid (by
                rw [HNF.out]
                unfold natF
                rw [if_neg, ← HVA.out]
                · rfl
                · simp only [not_or, not_and, List.any_eq_true, Bool.not_eq_true', not_exists]
                  obtain ⟨r1, r2, r3⟩ := HRR.out
                  refine ⟨r1, r2, r3, fun c hc => by rw [HAD.out c hc]; exact Bool.noConfusion, by rw [← HVA.out]; exact hbig⟩)
              have HBG := Lib.hid hbig
              clear hbig
              go_wp2
              go_ret2
              have h3 := HBG.out
              have h4 : wrap64 (P : Int) = (P : Int) := by unfold wrap64; omega
              exact ⟨rfl, (P : Int), by unfold i64ok; omega, by rw [HE.out, h4]; rfl, fun m hm => by rw [HE.out] at hm; injection hm with hm; exact hm.symm⟩
      | true =>
        have g1 := hb
        have g2 : decide ((1 : Int) < (s.size : Int)) = true := decide_eq_true (by have := of_decide_eq_true hb; omega)
        have hne : s[0] ≠ 45 := fun e => h ⟨of_decide_eq_true hb, by rw [e]⟩
        have q45 : (((s[0]).toNat : Int) == 45) = false := by
          rw [beq_eq_false_iff_ne]
          intro e
          exact hne (UInt8.toNat_inj.1 (by show _ = 45; omega))
        clear hne h
        by_cases h19 : 19 < s.size
        · have g3 : decide (19 < s.size) = true := decide_eq_true h19
          have g4 : decide ((19 : Int) < (s.size : Int)) = true := decide_eq_true (by omega)
          have HE : Hid (numF s.data.toList = none) := Lib.hid (by
            rw [HNF.out]
            unfold natF
            rw [if_pos (.inr (.inl (by rw [HSZ.out]; exact h19)))]
            rfl)
          clear h19 hb
          go_enter Tryd.func73, Tryd.ntmps73
          go_wp2
          go_ret2
          exact ⟨rfl, 0, by unfold i64ok; omega, by rw [HE.out]; rfl, fun m hm => by rw [HE.out] at hm; cases hm⟩
        · have g3 : decide (19 < s.size) = false := decide_eq_false h19
          have g4 : decide ((19 : Int) < (s.size : Int)) = false := decide_eq_false (by omega)
          by_cases h48 : s[0] = 48
          · have q48 : (((s[0]).toNat : Int) == 48) = true := by rw [h48]; rfl
            have HE : Hid (numF s.data.toList = none) := Lib.hid (by
              rw [HNF.out]
              unfold natF
              rw [if_pos (.inr (.inr (.inl ⟨by rw [HSZ.out]; exact of_decide_eq_true hb, by rw [HHD.out, h48]⟩)))]
              rfl)
            clear h19 hb h48
            go_enter Tryd.func73, Tryd.ntmps73
            go_wp2
            go_ret2
            exact ⟨rfl, 0, by unfold i64ok; omega, by rw [HE.out]; rfl, fun m hm => by rw [HE.out] at hm; cases hm⟩
          · have q48 : (((s[0]).toNat : Int) == 48) = false := by
              rw [beq_eq_false_iff_ne]
              intro e
              exact h48 (UInt8.toNat_inj.1 (by show _ = 48; omega))
            have HRR : Hid (s.data.toList ≠ [] ∧ ¬ 19 < s.data.toList.length ∧ (1 < s.data.toList.length → ¬ s.data.toList.head? = some 48)) := Lib.hid ⟨fun e => by have := HSZ.out; rw [e] at this; simp at this; omega, by rw [HSZ.out]; exact of_decide_eq_false g3, fun h1 => by rw [HHD.out]; exact fun e => h48 (by injection e)⟩
            obtain ⟨n, hn⟩ : ∃ n, n = s.size := ⟨_, rfl⟩
            have hn1 : n ≤ s.size := by omega
            have hn2 : s.size ≤ n := by omega
            have hn19 : n ≤ 19 := by omega
            clear hn hb h19 h48
            go_enter Tryd.func73, Tryd.ntmps73
            go_wp2_with fail
            go_loopg [6, 7] n (fun gk nv iv wr => ∃ i : Nat, iv = .int .i64 i ∧ i ≤ n ∧ gk = n - i ∧ nv = .int .u64 (preV s i : Nat) ∧ wr = w ∧ ∀ j (hj : j < s.size), j < i → 48 ≤ (s[j]).toNat ∧ (s[j]).toNat ≤ 57)
            case atStart => exact ⟨0, rfl, Nat.zero_le _, rfl, rfl, rfl, fun j _ h => absurd h (by omega)⟩
            case round =>
              obtain ⟨i, rfl, hi, hgk, rfl, rfl, hdg⟩ := hrel
              have HG := Lib.hid hgk
              have HDG := Lib.hid hdg
              clear hgk hdg
              by_cases hil : i < n
              · have e1 : decide ((i : Int) < (s.size : Int)) = true := decide_eq_true (by omega)
                have e2 : decide (i < s.size) = true := decide_eq_true (by omega)
                have hiz : i < s.size := by omega
                have HPL : Hid (preV s i < 1000000000000000000) := Lib.hid (preV_lt18 s i (by omega) HDG.out)
                have HPS := Lib.hid (preV_succ s i hiz)
                obtain ⟨P, hP⟩ : ∃ P, P = preV s i := ⟨_, rfl⟩
                rw [← hP] at HPL HPS ⊢
                have HMEM : Hid (s[i] ∈ s.data.toList) := Lib.hid (by
                  have : s[i] = s.data.toList[i]'(by rw [Array.length_toList]; exact hiz) := rfl
                  rw [this]
                  exact List.getElem_mem _)
                clear hP
                by_cases hlo : (s[i]).toNat < 48
                · have q1 : decide (((s[i]).toNat : Int) < 48) = true := decide_eq_true (by omega)
                  have q2 : decide ((s[i]).toNat < 48) = true := decide_eq_true hlo
                  have HE : Hid (numF s.data.toList = none) := Lib.hid (by rw [HNF.out, natF_nodigit HMEM.out (by unfold isDig; exact decide_eq_false (by omega))]; rfl)
                  go_wp2
                  go_ret2
                  exact ⟨rfl, 0, by unfold i64ok; omega, by rw [HE.out]; rfl, fun m hm => by rw [HE.out] at hm; cases hm⟩
                · have q1 : decide (((s[i]).toNat : Int) < 48) = false := decide_eq_false (by omega)
                  have q2 : decide ((s[i]).toNat < 48) = false := decide_eq_false hlo
                  by_cases hup : 57 < (s[i]).toNat
                  · have q3 : decide ((57 : Int) < ((s[i]).toNat : Int)) = true := decide_eq_true (by omega)
                    have q4 : decide (57 < (s[i]).toNat) = true := decide_eq_true hup
                    have HE : Hid (numF s.data.toList = none) := Lib.hid (by rw [HNF.out, natF_nodigit HMEM.out (by unfold isDig; exact decide_eq_false (by omega))]; rfl)
                    go_wp2
                    go_ret2
                    exact ⟨rfl, 0, by unfold i64ok; omega, by rw [HE.out]; rfl, fun m hm => by rw [HE.out] at hm; cases hm⟩
                  · have q3 : decide ((57 : Int) < ((s[i]).toNat : Int)) = false := decide_eq_false (by omega)
                    have q4 : decide (57 < (s[i]).toNat) = false := decide_eq_false hup
                    have HLU := Lib.hid (And.intro hlo hup)
                    clear hlo hup
                    go_wp2
                    go_roundg (n - (i + 1))
                    case measure => have := HG.out; omega
                    case rel =>
                      have h1 := HLU.out
                      refine ⟨i + 1, by simp, by omega, rfl, ?_, rfl, fun j hj hji => ?_⟩
                      · rw [HPS.out]
                        have h2 := HPL.out
                        have h3 := (s[i]).toNat_lt
                        congr 1
                        simp [IntKind.wrap, IntKind.bits, IntKind.signed]
                        omega
                      · by_cases hji2 : j = i
                        · subst hji2; omega
                        · exact HDG.out j hj (by omega)
              · have e1 : decide ((i : Int) < (s.size : Int)) = false := decide_eq_false (by omega)
                have e2 : decide (i < s.size) = false := decide_eq_false (by omega)
                have HI : Hid (i = s.size) := Lib.hid (by omega)
                have HVA : Hid (preV s i = decV s.data.toList) := Lib.hid (by rw [HI.out]; exact preV_all s)
                have HAD : Hid (∀ c ∈ s.data.toList, isDig c = true) := Lib.hid (fun c hc => by
                  obtain ⟨j, hj, rfl⟩ := List.mem_iff_getElem.1 hc
                  rw [Array.length_toList] at hj
                  have hj' : j < s.size := hj
                  have := HDG.out j hj' (by have := HI.out; omega)
                  unfold isDig
                  exact decide_eq_true this)
                obtain ⟨P, hP⟩ : ∃ P, P = preV s i := ⟨_, rfl⟩
                rw [← hP] at HVA ⊢
                clear hP
                by_cases hbig : 9223372036854775807 < P
                · have q1 : decide ((9223372036854775807 : Int) < (P : Int)) = true := decide_eq_true (by omega)
                  have q2 : decide (9223372036854775807 < P) = true := decide_eq_true hbig
                  have HE : Hid (numF s.data.toList = none) := Lib.hid (by
                    rw [HNF.out]
                    unfold natF
                    rw [if_pos (.inr (.inr (.inr (.inr (by rw [← HVA.out]; exact hbig)))))]
                    rfl)
                  clear hbig
                  go_wp2
                  go_ret2
                  exact ⟨rfl, 0, by unfold i64ok; omega, by rw [HE.out]; rfl, fun m hm => by rw [HE.out] at hm; cases hm⟩
                · have q1 : decide ((9223372036854775807 : Int) < (P : Int)) = false := decide_eq_false (by omega)
                  have q2 : decide (9223372036854775807 < P) = false := decide_eq_false hbig
                  have HE : Hid (numF s.data.toList = some (P : Int)) := Lib.hid (by
                    rw [HNF.out]
                    unfold natF
                    rw [if_neg, ← HVA.out]
                    · rfl
                    · simp only [not_or, not_and, List.any_eq_true, Bool.not_eq_true', not_exists]
                      obtain ⟨r1, r2, r3⟩ := HRR.out
                      refine ⟨r1, r2, r3, fun c hc => by rw [HAD.out c hc]; exact Bool.noConfusion, by rw [← HVA.out]; exact hbig⟩)
                  have HBG := Lib.hid hbig
                  clear hbig
                  go_wp2
                  go_ret2
                  have h3 := HBG.out
                  have h4 : wrap64 (P : Int) = (P : Int) := by unfold wrap64; omega
                  exact ⟨rfl, (P : Int), by unfold i64ok; omega, by rw [HE.out, h4]; rfl, fun m hm => by rw [HE.out] at hm; injection hm with hm; exact hm.symm⟩
    exact key _ rfl
theorem number_any : ∀ (n : Nat) (s : ByteArray), s.size ≤ n → s.size ≤ 4294967296 → ∀ w, Calls Tryd.prog 73 #[.string s] w (NumPost s w)
  | 0, s, h0, hs, w => number_digits s w hs (fun e => by rw [e] at h0; exact absurd h0 (by decide)) (fun e => by omega)
  | n + 1, s, h0, hs, w => by
    by_cases hm : s = minS
    · subst hm
      have HE : Hid (numF minS.data.toList = some (-9223372036854775808)) := Lib.hid (by rw [minS_list]; unfold numF; rw [if_pos rfl])
      have hm1 : (minS.toList == [45, 57, 50, 50, 51, 51, 55, 50, 48, 51, 54, 56, 53, 52, 55, 55, 53, 56, 48, 56]) = true := by
        rw [ByteArray.toList_eq, beq_iff_eq]
        rfl
      obtain ⟨q, hq⟩ : ∃ q, q = minS := ⟨_, rfl⟩
      rw [← hq] at hm1 HE ⊢
      clear hq
      go_enter Tryd.func73, Tryd.ntmps73
      go_wp2
      go_ret2
      exact ⟨rfl, -9223372036854775808, by unfold i64ok; omega, by rw [HE.out]; rfl, fun m hm => by rw [HE.out] at hm; injection hm with hm; exact hm.symm⟩
    · by_cases hd : 1 < s.size ∧ s.data.toList.head? = some 45
      · obtain ⟨h1, h2⟩ := hd
        have hp : 0 < s.size := by omega
        have hsz : s.data.toList.length = s.size := Array.length_toList
        have hm1 : (s.toList == [45, 57, 50, 50, 51, 51, 55, 50, 48, 51, 54, 56, 53, 52, 55, 55, 53, 56, 48, 56]) = false := by
          rw [beq_eq_false_iff_ne, ByteArray.toList_eq]
          exact fun h => hm (bytes_inj h)
        have hhead : s.data.toList.head? = some (s[0]) := by
          rw [List.head?_eq_getElem?, List.getElem?_eq_getElem (by rw [hsz]; exact hp)]
          rfl
        have h45 : s[0] = 45 := by rw [hhead] at h2; injection h2
        have q45 : (((s[0]).toNat : Int) == 45) = true := by rw [h45]; rfl
        have g1 : decide (1 < s.size) = true := decide_eq_true h1
        have g2 : decide ((1 : Int) < (s.size : Int)) = true := decide_eq_true (by omega)
        obtain ⟨t, ht⟩ : ∃ t, t = s.extract 1 s.size := ⟨_, rfl⟩
        have htl : t.data.toList = s.data.toList.tail := by
          rw [ht, Go.Lib.extract_data, List.take_of_length_le (by rw [List.length_drop, Array.length_toList]; exact Nat.le_refl _), List.drop_one]
        have htz : t.size + 1 = s.size := by
          have h3 : t.size = t.data.toList.length := Array.length_toList.symm
          rw [h3, htl, List.length_tail, hsz]
          omega
        have hcons : s.data.toList = 45 :: t.data.toList := by
          rw [htl]
          cases hl : s.data.toList with
          | nil => rw [hl] at h2; cases h2
          | cons a r => rw [hl] at h2; injection h2 with h2; rw [h2]; rfl
        have HNM := Lib.hid (numF_minus t.data.toList (by rw [← hcons, ← minS_list]; exact fun e => hm (bytes_inj e)))
        have HC := Lib.hid hcons
        have hrun : ∀ W, (Instr.slice 9 (.string s) (some (.int .i64 1)) none none).run Tryd.prog W = .ok (.string t) W := by
          intro W
          rw [ht]
          exact run_slice_string_l (P := Tryd.prog) W 9 s Tryd.underlying9 .i64 1 (by omega) (by omega)
        have HI := Lib.hid (fun W => number_any n t (by omega) (by omega) W)
        clear hcons h2 hhead h45 htl hsz hm h0 ht h1 htz
        go_enter Tryd.func73, Tryd.ntmps73
        go_upto_region 5 with (go_at_call 73; refine (HI.out _).mono ?_; rintro e w1 ⟨hw, m, hm64, rfl, hmv⟩; obtain rfl := hw.symm)
        have HM6 := Lib.hid hm64
        have HMV := Lib.hid hmv
        clear hm64 hmv
        cases hq : numF t.data.toList with
        | none =>
          have HE : Hid (numF s.data.toList = none) := Lib.hid (by rw [HC.out, HNM.out, hq])
          simp only [Option.isSome_none]
          clear hq
          go_wp2
          go_ret2
          exact ⟨rfl, wrap64 (-m), by
            have := HM6.out
            unfold i64ok at this ⊢
            unfold wrap64
            omega, by rw [HE.out]; rfl, fun m hm => by rw [HE.out] at hm; cases hm⟩
        | some k =>
          obtain rfl := HMV.out k hq
          simp only [Option.isSome_some]
          have h6 := HM6.out
          unfold i64ok at h6
          by_cases h0 : 0 < k
          · have HE : Hid (numF s.data.toList = some (-k)) := Lib.hid (by rw [HC.out, HNM.out, hq]; simp [h0])
            have q0 : decide (0 < k) = true := decide_eq_true h0
            have hw : wrap64 (-k) = -k := by unfold wrap64; omega
            clear hq
            go_wp2
            go_ret2
            exact ⟨rfl, -k, by unfold i64ok; omega, by rw [HE.out]; rfl, fun m hm => by rw [HE.out] at hm; injection hm with hm; exact hm.symm⟩
          · have HE : Hid (numF s.data.toList = none) := Lib.hid (by rw [HC.out, HNM.out, hq]; simp [h0])
            have q0 : decide (0 < k) = false := decide_eq_false h0
            clear hq
            go_wp2
            go_ret2
            exact ⟨rfl, wrap64 (-k), by
              unfold i64ok wrap64
              omega, by rw [HE.out]; rfl, fun m hm => by rw [HE.out] at hm; cases hm⟩
      · exact number_digits s w hs hm hd
end Go.Proofs.YthghnihlfdoefaaDoor
