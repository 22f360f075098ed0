/- carousellaw14.AsmFirst, walked. -/
import Derived.Test.YthghnihlfdoefaaDoorCp
import Derived.Test.YthghnihlfdoefaaDoorCo
namespace Go.Proofs.YthghnihlfdoefaaDoor
open Go.RowKit Go.Joins Go.ChangeShapes Go.WideShapes Go.Deep
set_option linter.unusedVariables false
set_option linter.unusedSimpArgs false
set_option maxRecDepth 100000

theorem char_at {t : ByteArray} {i : Nat} (h : i < t.size) : t.data.toList[i]? = some t[i] := by
  rw [List.getElem?_eq_getElem (by rw [Array.length_toList]; exact h)]
  rfl
set_option maxHeartbeats 2000000 in
theorem law_first {B : Nat} (t m : ByteArray) (w : World) (hE : EnvP B w) (hs : t.size + m.size ≤ 1048576) : Calls Tryd.prog 6 #[.string t, .string m] w fun e w' => e = .returned (.bool true) ∧ Below w.heap.size w w' := by
  have hA := parse_at hE t (by omega)
  have hR := fun W => rparse_at t (by omega) W
  cases hx : parseF t.data.toList with
  | ok L =>
    rw [hx] at hA hR
    have HA : Hid (∃ o : ByteArray, Calls Tryd.prog 11 #[.string t] w fun e w' => e = .returned (.tuple #[.string o, .int .i64 0, .int .i64 0]) ∧ Below w.heap.size w w') := Lib.hid ⟨_, hA⟩
    have HR : Hid (∃ o : ByteArray, ∀ W, Calls Tryd.prog 12 #[.string t] W fun e w' => e = .returned (.tuple #[.string o, .int .i64 0, .int .i64 0]) ∧ Below W.heap.size W w') := Lib.hid ⟨_, hR⟩
    obtain ⟨o1, h1⟩ := HA.out
    obtain ⟨o2, h2⟩ := HR.out
    have H1 := Lib.hid h1
    have H2 := Lib.hid h2
    clear hA hR hx hE HA HR h1 h2
    go_enter Tryd.func6, Tryd.ntmps6
    go_wp2_with (first | (go_at_call 11; refine H1.out.mono ?_; rintro e w1 ⟨rfl, hb1⟩) | (go_at_call 12; refine (H2.out _).mono ?_; rintro e w2 ⟨rfl, hb2⟩))
    go_ret
    exact ⟨rfl, hb1.trans (hb2.mono hb1.size)⟩
  | error y =>
    obtain ⟨y1, y2⟩ := y
    rw [hx] at hA hR
    have HA : Hid (Calls Tryd.prog 11 #[.string t] w fun e w' => e = .returned (.tuple #[.string ⟨#[]⟩, .int .i64 y1, .int .i64 y2]) ∧ Below w.heap.size w w') := Lib.hid hA
    have HR : Hid (∀ W, Calls Tryd.prog 12 #[.string t] W fun e w' => e = .returned (.tuple #[.string ⟨#[]⟩, .int .i64 y1, .int .i64 y2]) ∧ Below W.heap.size W w') := Lib.hid hR
    have q2 : ((y1 : Int) == (y1 : Int)) = true := by simp
    have q3 : ((y2 : Int) == (y2 : Int)) = true := by simp
    have hy0 : y1 ≠ 0 := parseF_err0 hx
    have q1 : ((y1 : Int) == 0) = false := by rw [beq_eq_false_iff_ne]; omega
    by_cases h11 : y1 = 11
    · have q4 : ((y1 : Int) == 11) = true := by rw [beq_iff_eq]; omega
      clear hA hR hx hE h11 hy0
      go_enter Tryd.func6, Tryd.ntmps6
      go_wp2_with (first | (go_at_call 11; refine HA.out.mono ?_; rintro e w1 ⟨rfl, hb1⟩) | (go_at_call 12; refine (HR.out _).mono ?_; rintro e w2 ⟨rfl, hb2⟩))
      go_ret
      exact ⟨rfl, hb1.trans (hb2.mono hb1.size)⟩
    · have q4 : ((y1 : Int) == 11) = false := by rw [beq_eq_false_iff_ne]; omega
      obtain ⟨E, f1, f2, f3, f4, f5⟩ := parse_first hx h11
      simp only at f1 f3
      have htl : t.data.toList.length = t.size := Array.length_toList
      rw [htl] at f2 f4
      obtain ⟨a, ha⟩ : ∃ a : ByteArray, a = t.extract 0 E := ⟨_, rfl⟩
      have hal : a.data.toList = t.data.toList.take E := by rw [ha, Go.Lib.extract_data, List.drop_zero, Nat.sub_zero]
      have haz : a.size ≤ t.size := by
        have e1 : a.size = a.data.toList.length := Array.length_toList.symm
        rw [e1, hal, List.length_take]
        omega
      have hsl : ∀ W, (Instr.slice 9 (.string t) none (some (.int .i64 (E : Int))) none).run Tryd.prog W = .ok (.string a) W := fun W => by
        rw [run_slice_string_h (P := Tryd.prog) W 9 t Tryd.underlying9 .i64 (E : Int) (by omega) (by omega), ha]
        rw [show (E : Int).toNat = E by omega]
      obtain ⟨b, hb, hadd1⟩ := add_text a ⟨#[10]⟩ (by show a.size + 1 ≤ _; omega)
      have hbz : b.size ≤ t.size + 1 := by
        have e1 : b.size = b.data.toList.length := Array.length_toList.symm
        have e2 : a.size = a.data.toList.length := Array.length_toList.symm
        rw [e1, hb, List.length_append]
        show _ + 1 ≤ _
        omega
      obtain ⟨u, hu, hadd2⟩ := add_text b m (by omega)
      have hul : u.data.toList = t.data.toList.take E ++ 10 :: m.data.toList := by
        rw [hu, hb, hal, List.append_assoc]
        rfl
      have huz : u.size ≤ 67108864 := by
        have e1 : u.size = u.data.toList.length := Array.length_toList.symm
        have e2 : b.size = b.data.toList.length := Array.length_toList.symm
        have e3 : m.size = m.data.toList.length := Array.length_toList.symm
        rw [e1, hu, List.length_append]
        omega
      have HB : Hid (∀ W, Below w.heap.size w W → Calls Tryd.prog 11 #[.string u] W fun e w' => e = .returned (.tuple #[.string ⟨#[]⟩, .int .i64 y1, .int .i64 y2]) ∧ Below W.heap.size W w') := Lib.hid (fun W hW => by
        have := parse_at (hE.below (hW.mono hE.size)) u huz
        rw [hul, f5] at this
        exact this)
      have HF3 := Lib.hid f3
      have HF4 := Lib.hid f4
      have k1 : decide ((y2 : Int) < 0) = false := decide_eq_false (by omega)
      have k2 : decide ((t.size : Int) < (y2 : Int)) = false := decide_eq_false (by omega)
      have k3 : decide (t.size < y2) = false := decide_eq_false (by omega)
      clear hA hR hx hE f3 f4 f5 hul huz hu hbz hb haz hal ha htl hy0
      go_enter Tryd.func6, Tryd.ntmps6
      go_upto_region 8 with (first | (go_at_call 11; refine HA.out.mono ?_; rintro e w1 ⟨rfl, hb1⟩) | (go_at_call 12; refine (HR.out _).mono ?_; rintro e w2 ⟨rfl, hb2⟩))
      have hb12 := hb1.trans (hb2.mono hb1.size)
      clear hb1 hb2
      go_loopg [11] (E - y2) (fun gk iv wr => ∃ i : Nat, iv = .int .i64 i ∧ y2 ≤ i ∧ i ≤ E ∧ gk = E - i ∧ wr = w2)
      case atStart => exact ⟨y2, rfl, Nat.le_refl _, f1, rfl, rfl⟩
      case round =>
        obtain ⟨i, rfl, hi1, hi2, hgk, rfl⟩ := hrel
        have HG := Lib.hid hgk
        clear hgk
        by_cases hin : i < E
        · have hit : i < t.size := by omega
          have e1 : decide ((i : Int) < (t.size : Int)) = true := decide_eq_true (by omega)
          have e2 : decide (i < t.size) = true := decide_eq_true hit
          have hne : t[i] ≠ 10 := fun e => HF3.out i hi1 hin (by rw [char_at hit, e])
          have e3 : (((t[i]).toNat : Int) != 10) = true := by
            rw [bne_iff_ne]
            exact fun e => hne (UInt8.toNat_inj.1 (by show _ = 10; omega))
          clear hne
          go_wp2
          go_roundg (E - (i + 1))
          case measure => have := HG.out; omega
          case rel => exact ⟨i + 1, by simp, by omega, by omega, rfl, rfl⟩
        · obtain rfl : i = E := by omega
          have hgo : ∀ (X : Bool), decide (i < t.size) = X → True := fun _ _ => trivial
          by_cases hit : i < t.size
          · have e1 : decide ((i : Int) < (t.size : Int)) = true := decide_eq_true (by omega)
            have e2 : decide (i < t.size) = true := decide_eq_true hit
            have e3 : (((t[i]).toNat : Int) != 10) = false := by
              have h := HF4.out hit
              rw [char_at hit] at h
              injection h with h
              rw [h]
              rfl
            go_wp2_with (go_at_call 11; refine (HB.out _ hb12).mono ?_; rintro e w3 ⟨rfl, hb3⟩)
            go_ret
            exact ⟨rfl, hb12.trans (hb3.mono hb12.size)⟩
          · have e1 : decide ((i : Int) < (t.size : Int)) = false := decide_eq_false (by omega)
            have e2 : decide (i < t.size) = false := decide_eq_false hit
            go_wp2_with (go_at_call 11; refine (HB.out _ hb12).mono ?_; rintro e w3 ⟨rfl, hb3⟩)
            go_ret
            exact ⟨rfl, hb12.trans (hb3.mono hb12.size)⟩
end Go.Proofs.YthghnihlfdoefaaDoor
