/- carousellaw14.AsmGaps, walked. -/
import Derived.Test.YthghnihlfdoefaaDoorCn
import Derived.Test.YthghnihlfdoefaaDoorCg
import Derived.Test.YthghnihlfdoefaaDoorPf
namespace Go.Proofs.YthghnihlfdoefaaDoor
open Go.RowKit Go.Joins Go.ChangeShapes Go.WideShapes Go.Deep
set_option linter.unusedVariables false
set_option linter.unusedSimpArgs false
set_option maxRecDepth 100000

theorem PEq.same {x x' : PRes} (h : PEq x x') : pOut x = pOut x' ∧ pErr x = pErr x' := by
  cases x with
  | error e =>
    cases x' with
    | error e' => exact ⟨rfl, congrArg (fun n : Nat => (n : Int)) h⟩
    | ok L => exact h.elim
  | ok L =>
    cases x' with
    | error e' => exact h.elim
    | ok L' =>
      have h : L = L' := h
      subst h
      exact ⟨rfl, rfl⟩
/-- A text with another behind it. -/
theorem add_text (q l : ByteArray) (h : q.size + l.size ≤ 9223372036854775807) : ∃ r : ByteArray, r.data.toList = q.data.toList ++ l.data.toList ∧ ∀ W, (Op.stringOp .add q l).run Tryd.prog W = .ok (.string r) W :=
  ⟨q ++ l, by rw [ByteArray.data_append, Array.toList_append], fun W => run_string_add_sum (P := Tryd.prog) W q l h⟩
def gapPre : List UInt8 := [32, 9, 10, 35, 32, 110, 111, 116, 104, 105, 110, 103, 10, 9]
theorem flat_len (t : List UInt8) : (t.flatMap gapF).length ≤ 16 * t.length := by
  induction t with
  | nil => exact Nat.le_refl _
  | cons c t ih =>
    rw [List.flatMap_cons, List.length_append, List.length_cons]
    have : (gapF c).length ≤ 16 := by unfold gapF; split <;> (try split) <;> simp
    omega
set_option maxHeartbeats 2000000 in
theorem law_gaps {B : Nat} (s : ByteArray) (w : World) (hE : EnvP B w) (hs : s.size ≤ 1048576) : Calls Tryd.prog 5 #[.string s] w fun e w' => e = .returned (.bool true) ∧ Below w.heap.size w w' := by
  have hA := parse_at hE s (by omega)
  have hR := fun W => rparse_at s (by omega) W
  have hsl : s.data.toList.length = s.size := Array.length_toList
  obtain ⟨u, hu⟩ : ∃ u : ByteArray, u = ⟨(gapT s.data.toList).toArray⟩ := ⟨_, rfl⟩
  have hul : u.data.toList = gapT s.data.toList := by rw [hu]
  have huz : u.size ≤ 67108864 := by
    have e1 : u.size = u.data.toList.length := Array.length_toList.symm
    have := gap_len s.data.toList
    rw [e1, hul]
    omega
  have hpe := (parse_gaps s.data.toList).same
  have hB : ∀ W, Below w.heap.size w W → ∃ p : Int, Calls Tryd.prog 11 #[.string u] W fun e w' => e = .returned (.tuple #[.string (pOut (parseF s.data.toList)), .int .i64 (pErr (parseF s.data.toList)), .int .i64 p]) ∧ Below W.heap.size W w' := fun W hW => ⟨_, by
    have := parse_at (hE.below (hW.mono hE.size)) u huz
    rw [hul, hpe.1, hpe.2] at this
    exact this⟩
  have HA := Lib.hid hA
  have HR := Lib.hid hR
  have HB := Lib.hid hB
  generalize pOut (parseF s.data.toList) = o at HA HR HB
  generalize pErr (parseF s.data.toList) = m at HA HR HB
  generalize pPos (parseF s.data.toList) = a at HA HR
  have q1 : (m == m) = true := by simp
  have HUL := Lib.hid hul
  have HSL := Lib.hid hsl
  obtain ⟨n, hn⟩ : ∃ n, n = s.size := ⟨_, rfl⟩
  have hn1 : n ≤ s.size := by omega
  have hn2 : s.size ≤ n := by omega
  clear hA hR hB hpe hu hul huz hE hsl hn
  go_enter Tryd.func5, Tryd.ntmps5
  go_upto_region 4 with (go_at_call 11; refine HA.out.mono ?_; rintro e w1 ⟨rfl, hb1⟩)
  go_loopg [6, 7] n (fun gk qv iv wr => ∃ (i : Nat) (q : ByteArray), iv = .int .i64 i ∧ i ≤ n ∧ gk = n - i ∧ qv = .string q ∧ q.data.toList = gapPre ++ (s.data.toList.take i).flatMap gapF ∧ wr = w1)
  case atStart => exact ⟨0, _, rfl, Nat.zero_le _, rfl, rfl, rfl, rfl⟩
  case round =>
    obtain ⟨i, q, rfl, hi, hgk, rfl, hq, rfl⟩ := hrel
    have HG := Lib.hid hgk
    have hqz : q.size ≤ 16 * i + 14 := by
      have e1 : q.size = q.data.toList.length := Array.length_toList.symm
      have h1 := flat_len (s.data.toList.take i)
      have h2 : (s.data.toList.take i).length ≤ i := by rw [List.length_take]; omega
      rw [e1, hq, List.length_append]
      have : gapPre.length = 14 := rfl
      omega
    have HQ := Lib.hid hq
    clear hgk hq
    by_cases hin : i < n
    · have e1 : decide ((i : Int) < (s.size : Int)) = true := decide_eq_true (by omega)
      have e2 : decide (i < s.size) = true := decide_eq_true (by omega)
      have hil : i < s.size := by omega
      have HT : Hid ((s.data.toList.take (i + 1)).flatMap gapF = (s.data.toList.take i).flatMap gapF ++ gapF (s[i])) := Lib.hid (by
        rw [List.take_add_one, List.getElem?_eq_getElem (by rw [Array.length_toList]; exact hil), List.flatMap_append]
        show _ ++ (List.flatMap gapF [s[i]]) = _
        rw [List.flatMap_cons, List.flatMap_nil, List.append_nil])
      by_cases h10 : s[i] = 10
      · have c10 : (((s[i]).toNat : Int) == 10) = true := by rw [h10]; rfl
        have HGF : Hid (gapF s[i] = [32, 35, 32, 100, 117, 112, 32, 97, 58, 32, 53, 10, 32, 9, 10, 10]) := Lib.hid (by rw [h10]; rfl)
        obtain ⟨r, hr, hadd⟩ := add_text q ⟨#[32, 35, 32, 100, 117, 112, 32, 97, 58, 32, 53, 10, 32, 9, 10, 10]⟩ (by show q.size + 16 ≤ _; omega)
        have HRR := Lib.hid hr
        clear h10 hr
        go_wp2
        go_roundg (n - (i + 1))
        case measure => have := HG.out; omega
        case rel => exact ⟨i + 1, r, by simp, by omega, rfl, rfl, by rw [HRR.out, HQ.out, HT.out, HGF.out, List.append_assoc], rfl⟩
      · have c10 : (((s[i]).toNat : Int) == 10) = false := by
          rw [beq_eq_false_iff_ne]
          exact fun e => h10 (UInt8.toNat_inj.1 (by show _ = 10; omega))
        by_cases h32 : s[i] = 32
        · have c32 : (((s[i]).toNat : Int) == 32) = true := by rw [h32]; rfl
          have HGF : Hid (gapF s[i] = [9, 32, 32]) := Lib.hid (by rw [h32]; rfl)
          obtain ⟨r, hr, hadd⟩ := add_text q ⟨#[9, 32, 32]⟩ (by show q.size + 3 ≤ _; omega)
          have HRR := Lib.hid hr
          clear h10 h32 hr
          go_wp2
          go_roundg (n - (i + 1))
          case measure => have := HG.out; omega
          case rel => exact ⟨i + 1, r, by simp, by omega, rfl, rfl, by rw [HRR.out, HQ.out, HT.out, HGF.out, List.append_assoc], rfl⟩
        · have c32 : (((s[i]).toNat : Int) == 32) = false := by
            rw [beq_eq_false_iff_ne]
            exact fun e => h32 (UInt8.toNat_inj.1 (by show _ = 32; omega))
          have HGF : Hid (gapF s[i] = [s[i]]) := Lib.hid (by unfold gapF; rw [if_neg h10, if_neg h32])
          obtain ⟨ch, hch, hsl⟩ := chr_slice s i hil rfl
          have hcs : ch.size = 1 := by
            have e1 : ch.size = ch.data.toList.length := Array.length_toList.symm
            rw [e1, hch]; rfl
          obtain ⟨r, hr, hadd⟩ := add_text q ch (by omega)
          have HRR := Lib.hid hr
          have HCH := Lib.hid hch
          clear h10 h32 hr hch hcs
          go_wp2
          go_roundg (n - (i + 1))
          case measure => have := HG.out; omega
          case rel => exact ⟨i + 1, r, by simp, by omega, rfl, rfl, by rw [HRR.out, HQ.out, HT.out, HGF.out, HCH.out, List.append_assoc], rfl⟩
    · have e1 : decide ((i : Int) < (s.size : Int)) = false := decide_eq_false (by omega)
      have e2 : decide (i < s.size) = false := decide_eq_false (by omega)
      obtain rfl : i = n := by omega
      obtain ⟨r, hr, hadd⟩ := add_text q ⟨#[9, 35, 32, 112, 117, 115, 104, 56, 10]⟩ (by show q.size + 9 ≤ _; omega)
      have hru : r = u := bytes_inj (by
        rw [hr, HQ.out, HUL.out, List.take_of_length_le (by rw [HSL.out]; exact hn2)]
        rfl)
      subst hru
      obtain ⟨p, hp⟩ := HB.out _ hb1
      have HP := Lib.hid hp
      clear hr hp
      go_wp2_with (first | (go_at_call 11; refine HP.out.mono ?_; rintro e w2 ⟨rfl, hb2⟩) | (go_at_call 12; refine (HR.out _).mono ?_; rintro e w3 ⟨rfl, hb3⟩))
      go_ret
      have hb12 := hb1.trans (hb2.mono hb1.size)
      exact ⟨rfl, hb12.trans (hb3.mono hb12.size)⟩
end Go.Proofs.YthghnihlfdoefaaDoor
