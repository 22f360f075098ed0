/- carouselref14: Code, label, number. -/
import Derived.Test.YthghnihlfdoefaaDoorBf
import Derived.Test.YthghnihlfdoefaaDoorAv
import Derived.Test.YthghnihlfdoefaaDoorBg
namespace Go.Proofs.YthghnihlfdoefaaDoor
open Go.RowKit Go.Joins Go.ChangeShapes Go.WideShapes Go.Deep
set_option linter.unusedVariables false
set_option linter.unusedSimpArgs false
set_option maxRecDepth 100000

def codeV : Option Nat → Int
  | some k => k
  | none => -1
theorem codeF_none {s : List UInt8} (h : ∀ j, j < 41 → wordsB.getD j [] ≠ s) : codeF s = none := by
  unfold codeF
  rw [List.find?_eq_none]
  intro j hj
  simp only [beq_iff_eq]
  exact h j (List.mem_range.1 hj)
theorem codeF_hit {s : List UInt8} (i : Nat) (hi : i < 41) (h : ∀ j, j < i → wordsB.getD j [] ≠ s) (e : wordsB.getD i [] = s) : codeF s = some i := by
  unfold codeF
  rw [List.find?_range_eq_some]
  refine ⟨by rw [beq_iff_eq]; exact e, List.mem_range.2 hi, fun j hj => ?_⟩
  have := h j hj
  simpa using this
theorem word_at (i : Nat) (hi : i < 41) : ∃ q : ByteArray, wordV[i]? = some (.string q) ∧ q.data.toList = wordsB.getD i [] := by
  refine ⟨⟨(wordsB.getD i []).toArray⟩, ?_, by simp⟩
  unfold wordV
  rw [List.getElem?_map, List.getElem?_eq_getElem (by rw [words_len]; exact hi), List.getD_eq_getElem?_getD, List.getElem?_eq_getElem (by rw [words_len]; exact hi)]
  rfl
theorem str_eq (q s : ByteArray) : (q.data.toList = s.data.toList) ↔ q = s := ⟨fun h => bytes_inj h, fun h => by rw [h]⟩
set_option maxHeartbeats 1000000 in
theorem rcode_any (s : ByteArray) (w : World) :
    Calls Tryd.prog 54 #[.string s] w fun e w' => e = .returned (.int .i64 (codeV (codeF s.data.toList))) ∧ Below w.heap.size w w' := by
  have HW := Lib.hid (rwords_any w)
  go_enter Tryd.func54, Tryd.ntmps54
  go_wp2_with (go_at_call 27; refine HW.out.mono ?_; rintro e w1 ⟨rfl, rfl⟩)
  obtain ⟨w1, hw1⟩ : ∃ w1, w1 = w.alloc (.cells wordV.toArray 9) := ⟨_, rfl⟩
  rw [← hw1]
  have hK : Blk w1 w.heap.size 9 wordV.toArray := hw1 ▸ Blk.new w _ _
  have hB : Below w.heap.size w w1 := hw1 ▸ (Below.refl _ _).alloc (Nat.le_refl _) _
  have hl := hK.lt
  obtain ⟨A, hA⟩ : ∃ A, A = w.heap.size := ⟨_, rfl⟩
  rw [← hA] at hK hB hl ⊢
  have HA := Lib.hid hA
  clear hw1 hA
  go_loopg [4] 41 (fun gk iv wr => ∃ i : Nat, iv = .int .i64 i ∧ i ≤ 41 ∧ gk = 41 - i ∧ wr = w1 ∧ ∀ j, j < i → wordsB.getD j [] ≠ s.data.toList)
  case atStart => exact ⟨0, rfl, Nat.zero_le _, rfl, rfl, fun j h => absurd h (by omega)⟩
  case round =>
    obtain ⟨i, rfl, hi, hgk, rfl, hno⟩ := hrel
    have HG := Lib.hid hgk
    have HNO := Lib.hid hno
    have HB := Lib.hid hB
    clear hgk hno hB
    by_cases hil : i < 41
    · have e1 : decide ((i : Int) < 41) = true := decide_eq_true (by omega)
      have e2 : decide (i < 41) = true := decide_eq_true hil
      obtain ⟨q, hq, hql⟩ := word_at i hil
      have cx : wr.cell? ⟨A, i, none⟩ = some (.string q) := by rw [hK.cell i]; simpa using hq
      have HQ := Lib.hid hql
      clear hq hql
      by_cases e : q = s
      · subst e
        have HC : Hid (codeF q.data.toList = some i) := Lib.hid (codeF_hit i hil HNO.out HQ.out.symm)
        go_wp2
        go_ret
        exact ⟨by rw [HC.out]; rfl, HA.out ▸ HB.out⟩
      · have e4 : (q.toList == s.toList) = false := by
          rw [beq_eq_false_iff_ne, ByteArray.toList_eq, ByteArray.toList_eq]
          exact fun h => e (bytes_inj h)
        have HE := Lib.hid e
        clear e
        go_wp2
        go_roundg (41 - (i + 1))
        case measure => have := HG.out; omega
        case rel =>
          refine ⟨i + 1, by simp, by omega, rfl, rfl, fun j hj => ?_⟩
          by_cases hji : j = i
          · subst hji
            rw [← HQ.out]
            exact fun h => HE.out (bytes_inj h)
          · exact HNO.out j (by omega)
    · have e1 : decide ((i : Int) < 41) = false := decide_eq_false (by omega)
      have e2 : decide (i < 41) = false := decide_eq_false (by omega)
      obtain rfl : i = 41 := by omega
      have HC : Hid (codeF s.data.toList = none) := Lib.hid (codeF_none HNO.out)
      go_wp2
      go_ret
      exact ⟨by rw [HC.out]; rfl, HA.out ▸ HB.out⟩
end Go.Proofs.YthghnihlfdoefaaDoor

/- carouselref14: label, and how the document's reader lies in memory. -/
namespace Go.Proofs.YthghnihlfdoefaaDoor
open Go.RowKit Go.Joins Go.ChangeShapes Go.WideShapes Go.Deep
set_option linter.unusedVariables false
set_option linter.unusedSimpArgs false
set_option maxRecDepth 100000

def labTok (p : List UInt8 × Nat) : Tok := ⟨p.1, p.2⟩
def labV : Option Nat → Int
  | some k => k
  | none => -1
theorem labF2_hit (l : List (List UInt8 × Nat)) (s : List UInt8) (i : Nat) (hi : i < l.length) (h : ∀ j (hj : j < l.length), j < i → l[j].1 ≠ s) (e : l[i].1 = s) : labF2 l s = some l[i].2 := by
  unfold labF2
  have : l.find? (fun p => p.1 == s) = some l[i] := by
    rw [List.find?_eq_some_iff_getElem]
    refine ⟨by simpa using e, i, hi, rfl, fun j hj => ?_⟩
    have := h j (by omega) hj
    simpa using this
  rw [this]
  rfl
theorem labF2_none (l : List (List UInt8 × Nat)) (s : List UInt8) (h : ∀ j (hj : j < l.length), l[j].1 ≠ s) : labF2 l s = none := by
  unfold labF2
  rw [Option.map_eq_none_iff, List.find?_eq_none]
  intro p hp
  obtain ⟨j, hj, rfl⟩ := List.mem_iff_getElem.1 hp
  simpa using h j hj
/-- Rows of tokens, cell by cell. -/
theorem tk_cells {w : World} {B n : Nat} {A : Option Addr} {l : List Tok} (hT : Reads w B 2 A n (rows tkc l)) (i : Nat) (hi : i < l.length) :
    ∃ b off q, A = some ⟨b, off, none⟩ ∧ b < B ∧ w.cell? ⟨b, off + i * 2, none⟩ = some (.string q) ∧ w.cell? ⟨b, off + i * 2 + 1, none⟩ = some (.int .i64 l[i].pos) ∧ q.data.toList = l[i].s ∧ i < n := by
  have hl := hT.1
  rw [rows_length tkc 2 tkc_len] at hl
  obtain ⟨b, off, rfl, hb, hc⟩ := reads_flat hT (by omega) (by omega)
  refine ⟨b, off, ⟨l[i].s.toArray⟩, rfl, hb, ?_, ?_, by simp, by omega⟩
  · have := hc (i * 2) (.string ⟨l[i].s.toArray⟩) (by
      have := rows_at tkc 2 tkc_len l i 0 hi (by omega)
      simpa [tkc] using this)
    exact this
  · have := hc (i * 2 + 1) (.int .i64 l[i].pos) (by
      have := rows_at tkc 2 tkc_len l i 1 hi (by omega)
      simpa [tkc] using this)
    exact this
set_option maxHeartbeats 1000000 in
theorem rlabel_any {w : World} {ab n c : Nat} {ov av nv : Value} {A : Option Addr} {z : Int} {ls : List (List UInt8 × Nat)} (hK : Blk w ab 79 #[ov, av, nv, .int .i64 z, .slice A n c]) (hT : Reads w w.heap.size 2 A n (rows tkc (ls.map labTok))) (hn : ls.length ≤ 4294967296) (s : ByteArray) :
    Calls Tryd.prog 36 #[.pointer (some ⟨ab, 0, none⟩), .string s] w fun e w' => e = .returned (.int .i64 (labV (labF2 ls s.data.toList))) ∧ w' = w := by
  have hnl : n = ls.length := by
    have := hT.1
    rw [rows_length tkc 2 tkc_len, List.length_map] at this
    omega
  have x4 : w.cell? ⟨ab, 4, none⟩ = some (.slice A n c) := (hK.cell 4).trans rfl
  have hal := hK.lt
  clear hK
  go_enter Tryd.func36, Tryd.ntmps36
  go_wp2_with fail
  go_loopg [5] n (fun gk iv wr => ∃ i : Nat, iv = .int .i64 i ∧ i ≤ n ∧ gk = n - i ∧ wr = w ∧ ∀ j (hj : j < ls.length), j < i → ls[j].1 ≠ s.data.toList)
  case atStart => exact ⟨0, rfl, Nat.zero_le _, rfl, rfl, fun j _ h => absurd h (by omega)⟩
  case round =>
    obtain ⟨i, rfl, hi, hgk, rfl, hno⟩ := hrel
    have HG := Lib.hid hgk
    have HNO := Lib.hid hno
    have HNL := Lib.hid hnl
    clear hgk hno hnl
    by_cases hil : i < n
    · have e1 : decide ((i : Int) < (n : Int)) = true := decide_eq_true (by omega)
      have e2 : decide (i < n) = true := decide_eq_true hil
      have hil2 : i < ls.length := by rw [← HNL.out]; exact hil
      obtain ⟨b, off, q, rfl, hb, c0, c1', hql, _⟩ := tk_cells hT i (by rw [List.length_map]; exact hil2)
      have hq2 : q.data.toList = (ls[i]).1 := by rw [hql, List.getElem_map]; rfl
      have c1 : wr.cell? ⟨b, off + i * 2 + 1, none⟩ = some (.int .i64 (ls[i]).2) := by rw [c1', List.getElem_map]; rfl
      obtain ⟨k, hk⟩ : ∃ k, k = (ls[i]).2 := ⟨_, rfl⟩
      rw [← hk] at c1
      have HK := Lib.hid hk
      have HQ := Lib.hid hq2
      have HT := Lib.hid hT
      have HIL := Lib.hid hil2
      clear hql hq2 hk hT c1'
      by_cases e : q = s
      · subst e
        have HC : Hid (labF2 ls q.data.toList = some k) := Lib.hid (by rw [HK.out]; exact labF2_hit ls _ i HIL.out HNO.out HQ.out.symm)
        go_wp2
        go_ret
        exact ⟨by rw [HC.out]; rfl, rfl⟩
      · have e4 : (q.toList == s.toList) = false := by
          rw [beq_eq_false_iff_ne, ByteArray.toList_eq, ByteArray.toList_eq]
          exact fun h => e (bytes_inj h)
        have HE := Lib.hid e
        clear e
        go_wp2
        go_roundg (n - (i + 1))
        case measure => have := HG.out; omega
        case rel =>
          refine ⟨i + 1, by simp, by omega, rfl, rfl, fun j hj hji => ?_⟩
          by_cases hji : j = i
          · subst hji
            rw [← HQ.out]
            exact fun h => HE.out (bytes_inj h)
          · exact HNO.out j hj (by omega)
    · have e1 : decide ((i : Int) < (n : Int)) = false := decide_eq_false (by omega)
      have e2 : decide (i < n) = false := decide_eq_false (by omega)
      have HC : Hid (labF2 ls s.data.toList = none) := Lib.hid (labF2_none _ _ fun j hj => HNO.out j hj (by have := HNL.out; omega))
      go_wp2
      go_ret
      exact ⟨by rw [HC.out]; rfl, rfl⟩
end Go.Proofs.YthghnihlfdoefaaDoor
