/- The document's Touched: where an address stands; the plain law of a round. -/
import Derived.Test.YtnpeldbnnneijaaMt3
import Derived.Test.YtnpeldbnnneijaaMr2
namespace Go.Proofs.Ytnpeldbnnneijaa
open Go.RowKit Go.Joins Go.ChangeShapes Go.WideShapes Go.Deep
set_option linter.unusedVariables false
set_option maxRecDepth 100000

theorem ahead_any (k i j k' i' j' : Int) (w : World) :
    Calls Try.prog 35 #[.agg #[.int .i64 k, .int .i64 i, .int .i64 j], .agg #[.int .i64 k', .int .i64 i', .int .i64 j']] w fun e w' => e = .returned (.bool (decide (lt3 (k, i, j) (k', i', j')))) ∧ Below w.heap.size w w' := by
  by_cases h1 : k = k'
  · subst h1
    by_cases h2 : i = i'
    · subst h2
      obtain ⟨r, hr⟩ : ∃ r, r = decide (j < j') := ⟨_, rfl⟩
      have e : decide (lt3 (k, i, j) (k, i, j')) = r := by rw [hr]; apply decide_eq_decide.2; simp [lt3]
      have hr' : decide (j < j') = r := hr.symm
      have e0 : (k != k) = false := by simp
      have e1 : (i != i) = false := by simp
      rw [e]
      clear e hr
      go_enter Try.func35, Try.ntmps35
      go_wp2_with fail
      go_ret
      exact ⟨rfl, by repeat (first | with_reducible exact Below.refl _ _ | with_reducible refine Below.drew ?_ | with_reducible refine below_drewN ?_ _ | ((with_reducible refine Below.alloc ?_ ?_ _); (rotate_left; focus (first | with_reducible exact Nat.le_refl _ | omega | (simp; done) | (simp; omega) | (simp [World.setCell]; done) | (simp [World.setCell]; omega)))) | ((with_reducible refine Below.setCell ?_ ?_ _); (rotate_left; focus (first | with_reducible exact Nat.le_refl _ | omega | (simp; done) | (simp; omega) | (simp [World.setCell]; done) | (simp [World.setCell]; omega)))))⟩
    · obtain ⟨r, hr⟩ : ∃ r, r = decide (i < i') := ⟨_, rfl⟩
      have e : decide (lt3 (k, i, j) (k, i', j')) = r := by rw [hr]; apply decide_eq_decide.2; simp [lt3, h2]
      have hr' : decide (i < i') = r := hr.symm
      have e0 : (k != k) = false := by simp
      have e1 : (i != i') = true := by simp [h2]
      rw [e]
      clear e hr h2
      go_enter Try.func35, Try.ntmps35
      go_wp2_with fail
      go_ret
      exact ⟨rfl, by repeat (first | with_reducible exact Below.refl _ _ | with_reducible refine Below.drew ?_ | with_reducible refine below_drewN ?_ _ | ((with_reducible refine Below.alloc ?_ ?_ _); (rotate_left; focus (first | with_reducible exact Nat.le_refl _ | omega | (simp; done) | (simp; omega) | (simp [World.setCell]; done) | (simp [World.setCell]; omega)))) | ((with_reducible refine Below.setCell ?_ ?_ _); (rotate_left; focus (first | with_reducible exact Nat.le_refl _ | omega | (simp; done) | (simp; omega) | (simp [World.setCell]; done) | (simp [World.setCell]; omega)))))⟩
  · obtain ⟨r, hr⟩ : ∃ r, r = decide (k < k') := ⟨_, rfl⟩
    have e : decide (lt3 (k, i, j) (k', i', j')) = r := by rw [hr]; apply decide_eq_decide.2; simp [lt3, h1]
    have hr' : decide (k < k') = r := hr.symm
    have e0 : (k != k') = true := by simp [h1]
    rw [e]
    clear e hr h1
    go_enter Try.func35, Try.ntmps35
    go_wp2_with fail
    go_ret
    exact ⟨rfl, by repeat (first | with_reducible exact Below.refl _ _ | with_reducible refine Below.drew ?_ | with_reducible refine below_drewN ?_ _ | ((with_reducible refine Below.alloc ?_ ?_ _); (rotate_left; focus (first | with_reducible exact Nat.le_refl _ | omega | (simp; done) | (simp; omega) | (simp [World.setCell]; done) | (simp [World.setCell]; omega)))) | ((with_reducible refine Below.setCell ?_ ?_ _); (rotate_left; focus (first | with_reducible exact Nat.le_refl _ | omega | (simp; done) | (simp; omega) | (simp [World.setCell]; done) | (simp [World.setCell]; omega)))))⟩

/-! ### The plain law of a round -/
theorem split_at (out : List Tch) (f : Tch → Bool) (p : Nat) (hp : p ≤ out.length) (hlt : ∀ i (h : i < out.length), i < p → f out[i] = true) (hstop : p = out.length ∨ ∃ h : p < out.length, f out[p] = false) :
    out.takeWhile f = out.take p ∧ out.dropWhile f = out.drop p := by
  induction out generalizing p with
  | nil => simp
  | cons a l ih =>
    cases p with
    | zero =>
      rcases hstop with h | ⟨h, e⟩
      · simp at h
      · simp at e; simp [e]
    | succ p =>
      have ha : f a = true := hlt 0 (by simp) (by omega)
      have := ih p (by simpa using hp) (fun i h hi => by have := hlt (i + 1) (by simpa using h) (by omega); simpa using this) (by
        rcases hstop with h | ⟨h, e⟩
        · left; simpa using h
        · right; exact ⟨by simpa using h, by simpa using e⟩)
      simp [ha, this.1, this.2]
theorem insAt_split {out : List Tch} {x : Acc} {p : Nat} (hp : p ≤ out.length) (hlt : ∀ i (h : i < out.length), i < p → lt3 out[i].key x.key) (hstop : p = out.length ∨ ∃ h : p < out.length, ¬ lt3 out[p].key x.key) :
    insAt out x = out.take p ++ start x :: out.drop p := by
  have := split_at out (fun t => decide (lt3 t.key x.key)) p hp (fun i h hi => by simpa using hlt i h hi) (by
    rcases hstop with h | ⟨h, e⟩
    · exact .inl h
    · exact .inr ⟨h, by simpa using e⟩)
  unfold insAt
  rw [this.1, this.2]
theorem mem_at {out : List Tch} {key : K3} (hr : Rising out) {p : Nat} (hp : p ≤ out.length) (hlt : ∀ i (h : i < out.length), i < p → lt3 out[i].key key) (hstop : p = out.length ∨ ∃ h : p < out.length, ¬ lt3 out[p].key key) :
    key ∈ out.map Tch.key ↔ ∃ h : p < out.length, out[p].key = key := by
  constructor
  · intro hm
    obtain ⟨i, hi, e⟩ := List.getElem_of_mem hm
    have hil : i < out.length := by simpa using hi
    have he : out[i].key = key := by simpa using e
    have hpi : ¬ i < p := fun h => by have := hlt i hil h; rw [he] at this; exact lt3_irr _ this
    rcases hstop with h | ⟨h, hn⟩
    · omega
    · refine ⟨h, ?_⟩
      rcases Nat.lt_or_eq_of_le (Nat.le_of_not_lt hpi) with h2 | h2
      · unfold Rising at hr
        have := List.pairwise_iff_getElem.1 hr p i (by simpa using h) (by simpa using hil) h2
        simp only [List.getElem_map] at this
        rw [he] at this
        exact absurd this hn
      · subst h2; exact he
  · rintro ⟨h, e⟩
    exact List.mem_map.2 ⟨out[p], List.getElem_mem h, e⟩
theorem rising_nodup {out : List Tch} (h : Rising out) : (out.map Tch.key).Nodup := by
  refine List.Pairwise.imp ?_ h
  intro a b h e
  subst e
  exact lt3_irr _ h
theorem ins_rising (L : List Acc) : Rising (L.foldl ins []) := (touch_both L).2
theorem ins_small (L : List Acc) : (L.foldl ins []).length ≤ L.length ∧ ∀ t ∈ L.foldl ins [], SmallT L.length t := by
  obtain ⟨hp, _⟩ := touch_both L
  exact ⟨by rw [hp.length_eq]; exact (occ_small L).1, fun t ht => (occ_small L).2.1 t (hp.mem_iff.1 ht)⟩
theorem ins_step (L : List Acc) (q : Nat) (hq : q < L.length) : (L.take (q + 1)).foldl ins [] = ins ((L.take q).foldl ins []) L[q] := by
  rw [List.take_succ_eq_append_getElem hq, List.foldl_append]
  rfl
theorem insAt_length (out : List Tch) (x : Acc) : (insAt out x).length = out.length + 1 := by
  have := (insAt_perm out x).length_eq
  simpa using this
/-- What is told of an address that is there. -/
theorem round_here {out : List Tch} {x : Acc} {p : Nat} (hr : Rising out) (hp : p < out.length) (he : out[p].key = x.key) :
    (ins out x).length = out.length ∧ tchs (ins out x) = (tchs out).set (p * 6 + kindAt x.kind) (.int .i64 (kindOf out[p] x.kind + 1)) := by
  have hin : x.key ∈ out.map Tch.key := List.mem_map.2 ⟨out[p], List.getElem_mem hp, he⟩
  have e : ins out x = touchAll out x := by unfold ins; rw [if_pos hin]
  rw [e]
  exact ⟨touchAll_length _ _, touchAll_row out x (rising_nodup hr) p hp he⟩
/-- What is told of an address that is new. -/
theorem round_new {out : List Tch} {x : Acc} {p : Nat} (hr : Rising out) (hp : p ≤ out.length) (hlt : ∀ i (h : i < out.length), i < p → lt3 out[i].key x.key) (hstop : p = out.length ∨ ∃ h : p < out.length, ¬ lt3 out[p].key x.key)
    (hn : p = out.length ∨ ∃ h : p < out.length, out[p].key ≠ x.key) :
    (ins out x).length = out.length + 1 ∧ tchs (ins out x) = (tchs (out.take p) ++ (start x).cells ++ tchs (out.drop p)).set (p * 6 + kindAt x.kind) (.int .i64 (0 + 1)) := by
  have hin : x.key ∉ out.map Tch.key := by
    rw [mem_at hr hp hlt hstop]
    rintro ⟨h, e⟩
    rcases hn with h' | ⟨_, h'⟩
    · omega
    · exact h' e
  have e : ins out x = touchAll (insAt out x) x := by unfold ins; rw [if_neg hin]
  have hri := insAt_rising hr hin
  have hs := insAt_split hp hlt hstop
  have hlen := insAt_length out x
  have hpl : p < (insAt out x).length := by omega
  have hat : (insAt out x)[p] = start x := by
    have : (insAt out x)[p]? = some (start x) := by
      rw [hs, List.getElem?_append_right (by simp; omega), List.length_take, Nat.min_eq_left hp, Nat.sub_self]
      rfl
    rw [List.getElem?_eq_getElem hpl] at this
    exact Option.some.inj this
  rw [e]
  refine ⟨by rw [touchAll_length, hlen], ?_⟩
  rw [touchAll_row (insAt out x) x (rising_nodup hri) p hpl (by rw [hat]; rfl), hat]
  have h1 : tchs (insAt out x) = tchs (out.take p) ++ (start x).cells ++ tchs (out.drop p) := by
    rw [hs]
    simp [tchs, rows]
  have h2 : kindOf (start x) x.kind = 0 := by unfold kindOf start; split; rfl; split <;> rfl
  rw [h1, h2]
end Go.Proofs.Ytnpeldbnnneijaa
