/- The program's log from any access on; sizes; the document's log; lists of accesses and of touches held against each other. -/
import Derived.Test.YtnpeldbnnneijaaMt5
import Derived.Test.YtnpeldbnnneijaaMw5
namespace Go.Proofs.Ytnpeldbnnneijaa
open Go.RowKit Go.Joins Go.ChangeShapes Go.WideShapes Go.Deep
set_option linter.unusedVariables false
set_option maxRecDepth 100000

def clN (z : Int) (n : Nat) : Nat := if z < 0 then 0 else if z ≤ n then z.toNat else n
theorem accs_split (l : List Acc) (p : Nat) : accs l = accs (l.take p) ++ accs (l.drop p) := by
  have := List.flatMap_append (xs := l.take p) (ys := l.drop p) (f := Acc.cells)
  rwa [List.take_append_drop] at this
theorem accs_drop (l : List Acc) (p : Nat) (hp : p ≤ l.length) : (accs l).drop (p * 8) = accs (l.drop p) := by
  rw [accs_split l p, List.drop_append, List.drop_eq_nil_of_le (by rw [accs_length, List.length_take]; omega), List.nil_append, accs_length, List.length_take, Nat.min_eq_left hp, Nat.sub_self, List.drop_zero]

set_option maxHeartbeats 4000000 in
theorem logneg_any {w : World} {base b gh gs gc : Nat} {lv : Value} {m : MS} (h : MIs w base b gh gs gc lv m) (z : Int) (hz : z < 0) (hlog : m.log.length ≤ 2199023255551) :
    Calls Try.prog 13 #[.pointer (some ⟨b, 0, none⟩), .int .i64 z] w (LogPost m.log m.log.length w) := by
  have c4 : w.cell? ⟨b, 4, none⟩ = some lv := (h.blk.cell 4).trans rfl
  have hbl := h.blk.lt
  have hown := h.log
  obtain ⟨n, hn⟩ : ∃ n, n = m.log.length := ⟨_, rfl⟩
  rw [← hn] at hown hlog ⊢
  obtain ⟨i0, hi0, hz0, hz1, hz2⟩ := info_parts info_acc
  have hmx : max z 0 = 0 := by omega
  have hmn : min (0 : Int) (n : Int) = 0 := by omega
  clear h hn
  have h63 : 0 + n ≤ maxLen := by unfold maxLen; omega
  have hby : (0 + n) * 64 ≤ 140737488355328 := by omega
  rcases hown.2 with ⟨rfl, rfl⟩ | ⟨g, cap, cur, rfl, hg, hh, hnc, hcm, _⟩
  · have hnil : accs m.log = [] := List.eq_nil_of_length_eq_zero (by have := hown.1; omega)
    have HNIL := Lib.hid hnil
    clear hown hnil
    go_enter Try.func13, Try.ntmps13
    go_wp2_with fail
    go_quiet (fail)
    go_wp2_with (at_builtin; go_must (refine wpList_append_any _ rfl _ _ 41 rfl w.heap.size 44 i0 _ 8 64 Try.underlying41 hi0 hz0 hz1 hz2 rfl (by omega) (.slice none 0 0) 0 [] (by rfl) (World.ownsRow_nil _ _ _ _) w.heap.size none 0 0 [] (by rfl) Reads.none_ (by simp) h63 hby (by simp) ?_; intro v' w1 hown1 hgrow _))
    go_ret
    exact ⟨_, rfl, by rw [HNIL.out]; exact hown1, ((below_drewN (Below.refl _ _) _).grown hgrow (by simp) (fun q hq => by simp [Value.ownBlock] at hq))⟩
  · have hR : Reads w w.heap.size 8 (some ⟨g, 0, none⟩) n (accs m.log) := Reads.of_own hown
    have hcm' : cap ≤ 9223372036854775807 := by simpa [maxLen] using hcm
    clear hown hh hcm
    by_cases hn0 : n = 0
    · subst hn0
      have hnil : accs m.log = [] := List.eq_nil_of_length_eq_zero (by have := hR.1; omega)
      have HNIL := Lib.hid hnil
      clear hR hnil
      go_enter Try.func13, Try.ntmps13
      go_wp2_with fail
      go_quiet (fail)
      go_wp2_with (at_builtin; go_must (refine wpList_append_any _ rfl _ _ 41 rfl w.heap.size 44 i0 _ 8 64 Try.underlying41 hi0 hz0 hz1 hz2 rfl (by omega) (.slice none 0 0) 0 [] (by rfl) (World.ownsRow_nil _ _ _ _) w.heap.size (some ⟨g, 0, none⟩) 0 0 [] (by rfl) ⟨rfl, fun h => absurd h (by omega)⟩ (by simp) h63 hby (by simp) ?_; intro v' w1 hown1 hgrow _))
      go_ret
      exact ⟨_, rfl, by rw [HNIL.out]; exact hown1, ((below_drewN (Below.refl _ _) _).grown hgrow (by simp) (fun q hq => by simp [Value.ownBlock] at hq))⟩
    · have hnn : (0 : Int) < (n : Int) := by omega
      go_enter Try.func13, Try.ntmps13
      go_wp2_with fail
      go_quiet (fail)
      go_wp2_with (at_builtin; go_must (refine wpList_append_any _ rfl _ _ 41 rfl w.heap.size 44 i0 _ 8 64 Try.underlying41 hi0 hz0 hz1 hz2 rfl (by omega) (.slice none 0 0) 0 [] (by rfl) (World.ownsRow_nil _ _ _ _) w.heap.size (some ⟨g, 0, none⟩) n n (accs m.log) (by rfl) hR (accs_one _) h63 hby (by simp) ?_; intro v' w1 hown1 hgrow _))
      go_ret
      rw [Nat.zero_add, List.nil_append] at hown1
      exact ⟨_, rfl, hown1, ((below_drewN (Below.refl _ _) _).grown hgrow (by simp) (fun q hq => by simp [Value.ownBlock] at hq))⟩

set_option maxHeartbeats 4000000 in
/-- Behind the end: nothing. -/
theorem logend_any {w : World} {base b gh gs gc : Nat} {lv : Value} {m : MS} (h : MIs w base b gh gs gc lv m) (z : Int) (hz : (m.log.length : Int) ≤ z) (hlog : m.log.length ≤ 2199023255551) :
    Calls Try.prog 13 #[.pointer (some ⟨b, 0, none⟩), .int .i64 z] w (LogPost [] 0 w) := by
  have c4 : w.cell? ⟨b, 4, none⟩ = some lv := (h.blk.cell 4).trans rfl
  have hbl := h.blk.lt
  have hown := h.log
  obtain ⟨n, hn⟩ : ∃ n, n = m.log.length := ⟨_, rfl⟩
  rw [← hn] at hown hlog hz
  obtain ⟨i0, hi0, hz0, hz1, hz2⟩ := info_parts info_acc
  have hz9 : ¬ z < 0 := by omega
  have hnn : (0 : Int) ≤ (n : Int) := by omega
  have h63 : 0 + 0 ≤ maxLen := by unfold maxLen; omega
  have hby : (0 + 0) * 64 ≤ 140737488355328 := by omega
  have hmx : max z 0 = z := by omega
  have hmn : min z (n : Int) = n := by omega
  clear h hn
  rcases hown.2 with ⟨rfl, rfl⟩ | ⟨g, cap, cur, rfl, hg, hh, hnc, hcm, _⟩
  · clear hown
    have hmn2 : min z 0 = 0 := by omega
    go_enter Try.func13, Try.ntmps13
    go_wp2_with fail
    go_quiet (fail)
    go_wp2_with (at_builtin; go_must (refine wpList_append_any _ rfl _ _ 41 rfl w.heap.size 44 i0 _ 8 64 Try.underlying41 hi0 hz0 hz1 hz2 rfl (by omega) (.slice none 0 0) 0 [] (by rfl) (World.ownsRow_nil _ _ _ _) w.heap.size none 0 _ [] (by first | rfl | simp) ⟨rfl, fun h => absurd h (by omega)⟩ (by simp) h63 hby (by simp) ?_; intro v' w1 hown1 hgrow _))
    go_ret
    exact ⟨_, rfl, hown1, ((below_drewN (Below.refl _ _) _).grown hgrow (by simp) (fun q hq => by simp [Value.ownBlock] at hq))⟩
  · have hcm' : cap ≤ 9223372036854775807 := by simpa [maxLen] using hcm
    clear hown hh hcm
    by_cases hc : cap = n
    · subst hc
      go_enter Try.func13, Try.ntmps13
      go_wp2_with fail
      go_quiet (fail)
      go_wp2_with (at_builtin; go_must (refine wpList_append_any _ rfl _ _ 41 rfl w.heap.size 44 i0 _ 8 64 Try.underlying41 hi0 hz0 hz1 hz2 rfl (by omega) (.slice none 0 0) 0 [] (by rfl) (World.ownsRow_nil _ _ _ _) w.heap.size _ 0 _ [] (by first | rfl | simp) ⟨rfl, fun h => absurd h (by omega)⟩ (by simp) h63 hby (by simp) ?_; intro v' w1 hown1 hgrow _))
      go_ret
      exact ⟨_, rfl, hown1, ((below_drewN (Below.refl _ _) _).grown hgrow (by simp) (fun q hq => by simp [Value.ownBlock] at hq))⟩
    · skip
      go_enter Try.func13, Try.ntmps13
      go_wp2_with fail
      go_quiet (fail)
      go_wp2_with (at_builtin; go_must (refine wpList_append_any _ rfl _ _ 41 rfl w.heap.size 44 i0 _ 8 64 Try.underlying41 hi0 hz0 hz1 hz2 rfl (by omega) (.slice none 0 0) 0 [] (by rfl) (World.ownsRow_nil _ _ _ _) w.heap.size _ 0 _ [] (by first | rfl | simp) ⟨rfl, fun h => absurd h (by omega)⟩ (by simp) h63 hby (by simp) ?_; intro v' w1 hown1 hgrow _))
      go_ret
      exact ⟨_, rfl, hown1, ((below_drewN (Below.refl _ _) _).grown hgrow (by simp) (fun q hq => by simp [Value.ownBlock] at hq))⟩

set_option maxHeartbeats 4000000 in
/-- From an access on. -/
theorem logfrom_any {w : World} {base b gh gs gc : Nat} {lv : Value} {m : MS} (h : MIs w base b gh gs gc lv m) (k : Nat) (hk : k < m.log.length) (hlog : m.log.length ≤ 2199023255551) :
    Calls Try.prog 13 #[.pointer (some ⟨b, 0, none⟩), .int .i64 k] w (LogPost (m.log.drop k) (m.log.length - k) w) := by
  have c4 : w.cell? ⟨b, 4, none⟩ = some lv := (h.blk.cell 4).trans rfl
  have hbl := h.blk.lt
  have hown := h.log
  obtain ⟨n, hn⟩ : ∃ n, n = m.log.length := ⟨_, rfl⟩
  have HN := Lib.hid hn
  rw [← hn] at hown hlog hk ⊢
  obtain ⟨i0, hi0, hz0, hz1, hz2⟩ := info_parts info_acc
  have hz9 : ¬ (k : Int) < 0 := by omega
  have hki : (k : Int) ≤ (n : Int) := by omega
  have hki2 : (k : Int) < (n : Int) := by omega
  have hmx : max (k : Int) 0 = k := by omega
  have hmn : min (k : Int) (n : Int) = k := by omega
  clear h hn
  obtain ⟨g, cap, rfl, hg, hgl⟩ := hown.form (by omega)
  obtain ⟨hnc, hcm⟩ : n ≤ cap ∧ cap ≤ 9223372036854775807 := by
    rcases hown.2 with ⟨h, _⟩ | ⟨g', cap', cur, h, _, _, h1, h2, _⟩
    · cases h
    · injection h with e1 e2 e3
      subst e3
      exact ⟨h1, by simpa [maxLen] using h2⟩
  have hc : ¬ cap = k := by omega
  have hR : Reads w w.heap.size 8 (some ⟨g, k * 8, none⟩) (n - k) (accs (m.log.drop k)) := by
    have := (Reads.of_own hown).cut (k := k) (cap := cap) (Nat.le_of_lt hk) hnc
    rw [if_neg hc, Option.map_some, Addr.add_lit, Nat.zero_add, accs_drop _ _ (by rw [← HN.out]; omega)] at this
    exact this
  have h63 : 0 + (n - k) ≤ maxLen := by unfold maxLen; omega
  have hby : (0 + (n - k)) * 64 ≤ 140737488355328 := by omega
  clear hown
  go_enter Try.func13, Try.ntmps13
  go_wp2_with fail
  go_quiet (fail)
  go_wp2_with (at_builtin; go_must (refine wpList_append_any _ rfl _ _ 41 rfl w.heap.size 44 i0 _ 8 64 Try.underlying41 hi0 hz0 hz1 hz2 rfl (by omega) (.slice none 0 0) 0 [] (by rfl) (World.ownsRow_nil _ _ _ _) w.heap.size (some ⟨g, k * 8, none⟩) (n - k) _ (accs (m.log.drop k)) (by rfl) hR (accs_one _) h63 hby (by simp) ?_; intro v' w1 hown1 hgrow _))
  go_ret
  rw [Nat.zero_add, List.nil_append] at hown1
  exact ⟨_, rfl, hown1, ((below_drewN (Below.refl _ _) _).grown hgrow (by simp) (fun q hq => by simp [Value.ownBlock] at hq))⟩
theorem logz_any {w : World} {base b gh gs gc : Nat} {lv : Value} {m : MS} (h : MIs w base b gh gs gc lv m) (z : Int) (hlog : m.log.length ≤ 2199023255551) :
    Calls Try.prog 13 #[.pointer (some ⟨b, 0, none⟩), .int .i64 z] w (LogPost (m.log.drop (clN z m.log.length)) (m.log.length - clN z m.log.length) w) := by
  unfold clN
  by_cases h0 : z < 0
  · rw [if_pos h0]
    exact logneg_any h z h0 hlog
  · rw [if_neg h0]
    by_cases h1 : (m.log.length : Int) ≤ z
    · have e : (if z ≤ m.log.length then z.toNat else m.log.length) = m.log.length := by split <;> omega
      rw [e, List.drop_length, Nat.sub_self]
      exact logend_any h z h1 hlog
    · obtain ⟨k, rfl⟩ := Int.eq_ofNat_of_zero_le (show 0 ≤ z by omega)
      rw [if_pos (by omega), Int.toNat_natCast]
      exact logfrom_any h k (by omega) hlog

theorem sizes_any {w : World} {base b gh gs gc : Nat} {lv : Value} {m : MS} (h : MIs w base b gh gs gc lv m) :
    Calls Try.prog 18 #[.pointer (some ⟨b, 0, none⟩)] w fun e w' => e = .returned (.tuple #[.int .i64 m.cells.length, .int .i64 m.heads.length]) ∧ ∃ k, w' = w.drewN k := by
  have c1 : w.cell? ⟨b, 1, none⟩ = some (.slice (some ⟨gh, 0, none⟩) m.heads.length m.heads.length) := (h.blk.cell 1).trans rfl
  have c3 : w.cell? ⟨b, 3, none⟩ = some (.slice (some ⟨gc, 0, none⟩) m.cells.length m.cells.length) := (h.blk.cell 3).trans rfl
  have hbl := h.blk.lt
  clear h
  go_enter Try.func18, Try.ntmps18
  go_wp2_with fail
  go_quiet (fail)
  (try go_wp2_with fail)
  go_ret2
  exact ⟨rfl, _, rfl⟩
end Go.Proofs.Ytnpeldbnnneijaa
