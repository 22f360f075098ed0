/- The document's count and first. -/
import Derived.Test.YtffjcojehiblnaaGreatDoorPg
namespace Go.Proofs.YtffjcojehiblnaaGreatDoor
open Go.RowKit Go.Joins Go.ChangeShapes Go.WideShapes Go.Deep
set_option linter.unusedVariables false
set_option linter.unusedSimpArgs false
set_option maxRecDepth 100000

theorem countF_le (l : List Ev) (q : Nat) (k t : Int) : countF l q k t ≤ q := by
  unfold countF
  exact Nat.le_trans (List.length_filter_le _ _) (by rw [List.length_take]; omega)
set_option maxHeartbeats 400000 in
theorem count_any (A : Option Addr) (n nc : Nat) (l : List Ev) (to : Nat) (kind tx : Int) (B : Nat) (w : World) (hl : l.length = n) (hn : n * 152 ≤ 140737488351232) (hR : Reads w B 19 A n (evs l)) (hto : to ≤ n) :
    Calls Tryz.prog 35 #[.slice A n nc, .int .i64 to, .int .i64 kind, .int .i64 tx] w fun r w' => r = .returned (.int .i64 (countF l to kind tx)) ∧ w' = w := by
  have hn8 : n ≤ 925904528640 := by omega
  have HR := Lib.hid hR
  have HL := Lib.hid hl
  clear hR hn hl
  go_enter Tryz.func35, Tryz.ntmps35
  go_wp2_with fail
  go_loopg [9, 10] to (fun gk c i wr => ∃ k q : Nat, c = .int .i64 q ∧ i = .int .i64 k ∧ k ≤ to ∧ gk = to - k ∧ wr = w ∧ q = countF l k kind tx)
  case atStart => exact ⟨0, 0, rfl, rfl, Nat.zero_le _, rfl, rfl, by simp [countF]⟩
  case round =>
    obtain ⟨k, q, rfl, rfl, hk, hgk, rfl, hq⟩ := hrel
    have hqk : q ≤ k := by rw [hq]; exact countF_le _ _ _ _
    have HG := Lib.hid hgk
    have HQ := Lib.hid hq
    clear hgk hq
    by_cases hkt : k < to
    · have hkn : k < n := by omega
      have hkl : k < l.length := by rw [HL.out]; exact hkn
      obtain ⟨bb, off, rfl, hbb, hcc⟩ := reads_flat HR.out (by omega) (by decide)
      obtain ⟨e, he⟩ : ∃ e, e = l[k] := ⟨_, rfl⟩
      have v3 : wr.cell? ⟨bb, off + k * 19 + 3, none⟩ = some (.int .i64 e.kind) := by rw [Nat.add_assoc]; exact hcc _ _ (by rw [evs_at l k 3 hkl (by omega), ← he]; rfl)
      have v2 : wr.cell? ⟨bb, off + k * 19 + 2, none⟩ = some (.int .i64 e.tx) := by rw [Nat.add_assoc]; exact hcc _ _ (by rw [evs_at l k 2 hkl (by omega), ← he]; rfl)
      have HS : Hid (countF l (k + 1) kind tx = q + if e.kind = kind ∧ (tx < 0 ∨ e.tx = tx) then 1 else 0) := Lib.hid (by rw [countF_succ l k kind tx hkl, HQ.out, he])
      have hk8 : (k : Int) + 1 ≤ 9223372036854775807 := by omega
      clear hcc he hkl
      by_cases c1 : e.kind = kind
      · have d1 : decide (e.kind = kind) = true := by simp [c1]
        by_cases c2 : tx < 0
        · have d2 : decide (tx < 0) = true := by simp [c2]
          go_wp2_with fail
          go_roundg (to - (k + 1))
          case measure => have := HG.out; omega
          case rel => exact ⟨k + 1, q + 1, by go_num, by go_num, by omega, rfl, rfl, by rw [HS.out, if_pos ⟨c1, .inl c2⟩]⟩
        · have d2 : decide (tx < 0) = false := by simp; omega
          by_cases c3 : e.tx = tx
          · subst c3
            go_wp2_with fail
            go_roundg (to - (k + 1))
            case measure => have := HG.out; omega
            case rel => exact ⟨k + 1, q + 1, by go_num, by go_num, by omega, rfl, rfl, by rw [HS.out, if_pos ⟨c1, by simp⟩]⟩
          · have d3 : (e.tx == tx) = false := by simp [c3]
            have HC := Lib.hid c3
            clear c3
            go_wp2_with fail
            go_roundg (to - (k + 1))
            case measure => have := HG.out; omega
            case rel => exact ⟨k + 1, q, rfl, by go_num, by omega, rfl, rfl, by rw [HS.out, if_neg (by rintro ⟨_, h | h⟩; omega; exact HC.out h)]; rfl⟩
      · have d1 : decide (e.kind = kind) = false := by simp [c1]
        go_wp2_with fail
        go_roundg (to - (k + 1))
        case measure => have := HG.out; omega
        case rel => exact ⟨k + 1, q, rfl, by go_num, by omega, rfl, rfl, by rw [HS.out, if_neg (fun h => c1 h.1)]; rfl⟩
    · have hkk : k = to := by omega
      subst hkk
      go_wp2_with fail
      go_ret
      exact ⟨congrArg (fun z : Nat => Ending.returned (.int .i64 (z : Int))) HQ.out, rfl⟩
theorem findF_go {f : Ev → Bool} {l : List Ev} {k : Nat} (hk : k < l.length) : findF f (l.drop k) k = if f l[k] then (k : Int) else findF f (l.drop (k + 1)) (k + 1) := by
  rw [List.drop_eq_getElem_cons hk]
  rfl
set_option maxHeartbeats 400000 in
theorem first_any (A : Option Addr) (n nc : Nat) (l : List Ev) (kind tx : Int) (B : Nat) (w : World) (hl : l.length = n) (hn : n * 152 ≤ 140737488351232) (hR : Reads w B 19 A n (evs l)) :
    Calls Tryz.prog 36 #[.slice A n nc, .int .i64 kind, .int .i64 tx] w fun r w' => r = .returned (.int .i64 (firstF l kind tx)) ∧ w' = w := by
  have hn8 : n ≤ 925904528640 := by omega
  have HR := Lib.hid hR
  have HL := Lib.hid hl
  clear hR hn hl
  go_enter Tryz.func36, Tryz.ntmps36
  go_wp2_with fail
  go_loopg [7] n (fun gk i wr => ∃ k : Nat, i = .int .i64 k ∧ k ≤ n ∧ gk = n - k ∧ wr = w ∧ firstF l kind tx = findF (fun e => decide (e.kind = kind ∧ e.tx = tx)) (l.drop k) k)
  case atStart => exact ⟨0, rfl, Nat.zero_le _, rfl, rfl, rfl⟩
  case round =>
    obtain ⟨k, rfl, hk, hgk, rfl, hq⟩ := hrel
    have HG := Lib.hid hgk
    have HQ := Lib.hid hq
    clear hgk hq
    by_cases hkn : k < n
    · have hkl : k < l.length := by rw [HL.out]; exact hkn
      obtain ⟨bb, off, rfl, hbb, hcc⟩ := reads_flat HR.out (by omega) (by decide)
      obtain ⟨e, he⟩ : ∃ e, e = l[k] := ⟨_, rfl⟩
      have v3 : wr.cell? ⟨bb, off + k * 19 + 3, none⟩ = some (.int .i64 e.kind) := by rw [Nat.add_assoc]; exact hcc _ _ (by rw [evs_at l k 3 hkl (by omega), ← he]; rfl)
      have v2 : wr.cell? ⟨bb, off + k * 19 + 2, none⟩ = some (.int .i64 e.tx) := by rw [Nat.add_assoc]; exact hcc _ _ (by rw [evs_at l k 2 hkl (by omega), ← he]; rfl)
      have HS : Hid (firstF l kind tx = if decide (e.kind = kind ∧ e.tx = tx) then (k : Int) else findF (fun e => decide (e.kind = kind ∧ e.tx = tx)) (l.drop (k + 1)) (k + 1)) := Lib.hid (by rw [HQ.out, findF_go hkl, he])
      have hk8 : (k : Int) + 1 ≤ 9223372036854775807 := by omega
      clear hcc he hkl
      by_cases c1 : e.kind = kind
      · have d1 : decide (e.kind = kind) = true := by simp [c1]
        by_cases c3 : e.tx = tx
        · subst c3
          go_wp2_with fail
          go_ret
          refine ⟨?_, rfl⟩
          rw [HS.out, if_pos (by simp [c1])]
          rfl
        · have d3 : (e.tx == tx) = false := by simp [c3]
          have HC := Lib.hid c3
          clear c3
          go_wp2_with fail
          go_roundg (n - (k + 1))
          case measure => have := HG.out; omega
          case rel => exact ⟨k + 1, by go_num, by omega, rfl, rfl, by rw [HS.out, if_neg (by simp [HC.out])]⟩
      · have d1 : decide (e.kind = kind) = false := by simp [c1]
        go_wp2_with fail
        go_roundg (n - (k + 1))
        case measure => have := HG.out; omega
        case rel => exact ⟨k + 1, by go_num, by omega, rfl, rfl, by rw [HS.out, if_neg (by simp [c1])]⟩
    · have hkk : k = n := by omega
      have HF : Hid (firstF l kind tx = -1) := Lib.hid (by rw [HQ.out, List.drop_eq_nil_of_le (by rw [HL.out]; omega)]; rfl)
      subst hkk
      go_wp2_with fail
      go_ret
      exact ⟨by rw [HF.out]; rfl, rfl⟩
end Go.Proofs.YtffjcojehiblnaaGreatDoor
