/- What the calls of collections do, as plain data. No program in sight but for the names of types. -/
import Derived.Test.YtpmpgnhbpneloaaPk
namespace Go.Proofs.Ytpmpgnhbpneloaa
open Go.RowKit Go.Joins Go.ChangeShapes Go.WideShapes Go.Deep
set_option linter.unusedVariables false
set_option maxRecDepth 100000

/-- How many of a list, from its head on, have a key below k. -/
def low {α : Type} (key : α → Int) (l : List α) (k : Int) : Nat := (l.takeWhile (fun x => decide (key x < k))).length
def isAt {α : Type} (key : α → Int) (l : List α) (k : Int) : Bool := match l[low key l k]? with | some x => key x == k | none => false
def put1 {α : Type} (l : List α) (i : Nat) (x : α) : List α := l.take i ++ x :: l.drop i
def del1 {α : Type} (l : List α) (i : Nat) : List α := l.take i ++ l.drop (i + 1)
def idv (v : Int) : Int := v

def arityK (kind call : Int) : Int :=
  if kind = 1 then (if call = 1 then 2 else if call = 2 then 1 else -1)
  else if kind = 2 then (if call = 3 then 1 else if call = 2 then 0 else if call = 5 then 0 else -1)
  else if kind = 3 then (if call = 2 then 1 else if call = 3 then 2 else if call = 4 then 1 else if call = 5 then 0 else -1)
  else if kind = 4 then (if call = 1 then 1 else if call = 4 then 1 else if call = 6 then 1 else if call = 7 then 0 else if call = 8 then 1 else if call = 5 then 0 else -1)
  else -1

def countF (t : TS) (i d : Int) : TS × Int × Int :=
  if 0 ≤ i ∧ i < t.values.length then ({ t with values := t.values.set i.toNat (wrap64 (t.values.getD i.toNat 0 + d)) }, wrap64 (t.values.getD i.toNat 0 + d), 0) else (t, 0, 1)
def pushF (t : TS) (v : Int) : TS × Int × Int := if t.most ≤ t.values.length then (t, 0, 2) else ({ t with values := t.values ++ [v] }, 0, 0)
def pullF (t : TS) : TS × Int × Int := match t.values with | [] => (t, 0, 1) | v :: r => ({ t with values := r }, v, 0)
def longF (t : TS) : TS × Int × Int := (t, t.values.length, 0)
def wideF (t : TS) : TS × Int × Int := (t, t.pairs.length, 0)
def getF (t : TS) (k : Int) : TS × Int × Int := if isAt Prod.fst t.pairs k then (t, (t.pairs.getD (low Prod.fst t.pairs k) (0, 0)).2, 0) else (t, 0, 1)
def putF (t : TS) (k v : Int) : TS × Int × Int :=
  if isAt Prod.fst t.pairs k then ({ t with pairs := t.pairs.set (low Prod.fst t.pairs k) (k, v) }, 0, 0)
  else if t.most ≤ t.pairs.length then (t, 0, 2) else ({ t with pairs := put1 t.pairs (low Prod.fst t.pairs k) (k, v) }, 0, 0)
def delF (t : TS) (k : Int) : TS × Int × Int := if isAt Prod.fst t.pairs k then ({ t with pairs := del1 t.pairs (low Prod.fst t.pairs k) }, 0, 0) else (t, 0, 1)
def addF (t : TS) (k : Int) : TS × Int × Int :=
  if isAt idv t.values k then (t, 0, 3) else if t.most ≤ t.values.length then (t, 0, 2) else ({ t with values := put1 t.values (low idv t.values k) k }, 0, 0)
def cutF (t : TS) (k : Int) : TS × Int × Int := if isAt idv t.values k then ({ t with values := del1 t.values (low idv t.values k) }, 0, 0) else (t, 0, 1)
def hasF (t : TS) (k : Int) : TS × Int × Int := (t, if isAt idv t.values k then 1 else 0, 0)
def fromF (t : TS) (i : Nat) : TS × Int × Int := if i < t.values.length then (t, t.values.getD i 0, 0) else (t, 0, 1)
def nextK (t : TS) (k : Int) : TS × Int × Int := fromF t (low idv t.values k + if isAt idv t.values k then 1 else 0)

def callF (t : TS) (call : Int) (args : List Int) : TS × Int × Int :=
  if t.kind = 1 then countF t (args.getD 0 0) (if call = 1 then args.getD 1 0 else 0)
  else if t.kind = 2 then (if call = 3 then pushF t (args.getD 0 0) else if call = 2 then pullF t else longF t)
  else if t.kind = 3 then (if call = 2 then getF t (args.getD 0 0) else if call = 3 then putF t (args.getD 0 0) (args.getD 1 0) else if call = 4 then delF t (args.getD 0 0) else wideF t)
  else (if call = 1 then addF t (args.getD 0 0) else if call = 4 then cutF t (args.getD 0 0) else if call = 6 then hasF t (args.getD 0 0) else if call = 7 then fromF t 0 else if call = 8 then nextK t (args.getD 0 0) else longF t)

/-- What holds of a collection always. -/
structure TOk (t : TS) : Prop where
  k1 : 1 ≤ t.kind
  k4 : t.kind ≤ 4
  m0 : 0 ≤ t.most
  m1 : t.most ≤ 16
  lv : t.values.length ≤ 16
  lp : t.pairs.length ≤ 16
  num : t.kind = 1 → ∀ v ∈ t.values, wrap64 v = v
  dct : t.kind = 3 → t.pairs.Pairwise (fun a b => a.1 < b.1)
  chn : t.kind = 4 → t.values.Pairwise (· < ·)

section
variable {α : Type} {key : α → Int} {l : List α} {k : Int}
theorem low_le : low key l k ≤ l.length := (List.takeWhile_prefix _).length_le
theorem low_lt (i : Nat) (h : i < low key l k) (hl : i < l.length) : key l[i] < k := by
  have e : l[i] = (l.takeWhile (fun x => decide (key x < k)))[i]'h := by
    have := (List.takeWhile_prefix (fun x => decide (key x < k)) (l := l)).getElem h
    exact this.symm
  rw [e]
  have := List.all_takeWhile (p := fun x => decide (key x < k)) (l := l)
  rw [List.all_eq_true] at this
  exact of_decide_eq_true (this _ (List.getElem_mem _))
theorem low_ge (h : low key l k < l.length) : ¬ key l[low key l k] < k := by
  intro hc
  unfold low at h hc
  have := List.takeWhile_append_dropWhile (p := fun x => decide (key x < k)) (l := l)
  generalize hA : l.takeWhile (fun x => decide (key x < k)) = A at *
  generalize hB : l.dropWhile (fun x => decide (key x < k)) = B at *
  cases B with
  | nil =>
    have : A.length = l.length := by rw [← this]; simp
    omega
  | cons b B =>
    have hb := List.head?_dropWhile_not (fun x => decide (key x < k)) l
    rw [hB] at hb
    simp at hb
    have e : l[A.length] = b := by simp [← this]
    rw [e] at hc
    omega
theorem isAt_iff : isAt key l k = true ↔ ∃ h : low key l k < l.length, key l[low key l k] = k := by
  unfold isAt
  by_cases h : low key l k < l.length
  · rw [List.getElem?_eq_getElem h]
    simp [h]
  · rw [List.getElem?_eq_none (by omega)]
    simp [h]
/-- Where a list that rises is parted. -/
theorem low_sorted (hs : l.Pairwise (fun a b => key a < key b)) (i : Nat) (hl : i < l.length) (h : low key l k ≤ i) : ¬ key l[i] < k := by
  have h0 := low_ge (key := key) (k := k) (l := l) (by omega)
  rcases Nat.lt_or_ge (low key l k) i with h1 | h1
  · have := List.pairwise_iff_getElem.1 hs _ _ (by omega) hl h1
    omega
  · have e : low key l k = i := by omega
    intro hc
    apply h0
    simp only [e]
    exact hc
theorem low_eq (hs : l.Pairwise (fun a b => key a < key b)) (i : Nat) (hi : i ≤ l.length) (h1 : ∀ j (h : j < l.length), j < i → key l[j] < k) (h2 : ∀ j (h : j < l.length), i ≤ j → ¬ key l[j] < k) : low key l k = i := by
  rcases Nat.lt_trichotomy (low key l k) i with h | h | h
  · exact absurd (h1 _ (by omega) h) (low_ge (by omega))
  · exact h
  · have := low_le (key := key) (l := l) (k := k)
    exact absurd (low_lt i h (by omega)) (h2 i (by omega) (Nat.le_refl _))
theorem put1_sorted {x : α} (hs : l.Pairwise (fun a b => key a < key b)) (hx : key x = k) (hn : isAt key l k = false) : (put1 l (low key l k) x).Pairwise (fun a b => key a < key b) := by
  have hne : ∀ (h : low key l k < l.length), key l[low key l k] ≠ k := fun h e => by
    have := isAt_iff.2 ⟨h, e⟩
    rw [hn] at this
    cases this
  unfold put1
  rw [List.pairwise_append]
  refine ⟨hs.sublist (List.take_sublist _ _), List.pairwise_cons.2 ⟨fun b hb => ?_, hs.sublist (List.drop_sublist _ _)⟩, fun a ha b hb => ?_⟩
  · obtain ⟨j, hj, rfl⟩ := List.getElem_of_mem hb
    rw [List.length_drop] at hj
    rw [List.getElem_drop, hx]
    have h1 := low_sorted (key := key) (k := k) hs (low key l k + j) (by omega) (by omega)
    have h2 : key l[low key l k + j] ≠ k := by
      rcases Nat.eq_zero_or_pos j with rfl | hj0
      · exact hne (by omega)
      · have h3 := List.pairwise_iff_getElem.1 hs (low key l k) (low key l k + j) (by omega) (by omega) (by omega)
        have h4 := low_ge (key := key) (k := k) (l := l) (by omega)
        omega
    omega
  · obtain ⟨i, hi, rfl⟩ := List.getElem_of_mem ha
    rw [List.length_take] at hi
    rw [List.getElem_take]
    have h1 := low_lt (key := key) (k := k) (l := l) i (by omega) (by omega)
    rcases List.mem_cons.1 hb with rfl | hb
    · omega
    · obtain ⟨j, hj, rfl⟩ := List.getElem_of_mem hb
      rw [List.length_drop] at hj
      rw [List.getElem_drop]
      exact List.pairwise_iff_getElem.1 hs _ _ (by omega) (by omega) (by omega)
theorem del1_sorted {i : Nat} (hs : l.Pairwise (fun a b => key a < key b)) : (del1 l i).Pairwise (fun a b => key a < key b) := by
  refine hs.sublist ?_
  unfold del1
  conv => rhs; rw [← List.take_append_drop i l]
  refine List.Sublist.append_left ?_ _
  rw [← List.drop_drop]
  exact List.drop_sublist _ _
theorem put1_length {x : α} {i : Nat} (h : i ≤ l.length) : (put1 l i x).length = l.length + 1 := by simp [put1]; omega
theorem del1_length {i : Nat} (h : i < l.length) : (del1 l i).length = l.length - 1 := by simp [del1]; omega
theorem set_sorted {x : α} {i : Nat} (hs : l.Pairwise (fun a b => key a < key b)) (hi : i < l.length) (hx : key x = key l[i]) : (l.set i x).Pairwise (fun a b => key a < key b) := by
  rw [List.pairwise_iff_getElem] at hs ⊢
  intro a b ha hb hab
  simp only [List.length_set] at ha hb
  have e : ∀ j (h : j < (l.set i x).length), key (l.set i x)[j] = key (l[j]'(by simpa using h)) := by
    intro j h
    rw [List.getElem_set]
    split
    · rename_i h; subst h; exact hx
    · rfl
  rw [e, e]
  exact hs a b ha hb hab
end

theorem wrap64_wrap64 (x : Int) : wrap64 (wrap64 x) = wrap64 x := by unfold wrap64; omega

theorem callF_kind (t : TS) (call : Int) (args : List Int) : (callF t call args).1.kind = t.kind ∧ (callF t call args).1.most = t.most := by
  unfold callF countF pushF pullF longF wideF getF putF delF addF cutF hasF fromF nextK fromF
  repeat' split
  all_goals exact ⟨rfl, rfl⟩

theorem countF_ok {t : TS} (h : TOk t) (hk : t.kind = 1) (i d : Int) : TOk (countF t i d).1 := by
  unfold countF
  split
  · refine ⟨h.k1, h.k4, h.m0, h.m1, by simpa using h.lv, h.lp, fun hk v hv => ?_, h.dct, fun h4 => by simp only at h4; omega⟩
    rcases List.mem_or_eq_of_mem_set hv with hv | rfl
    · exact h.num hk v hv
    · exact wrap64_wrap64 _
  · exact h
theorem pushF_ok {t : TS} (h : TOk t) (hk : t.kind = 2) (v : Int) : TOk (pushF t v).1 := by
  unfold pushF
  split
  · exact h
  · have := h.m1
    exact ⟨h.k1, h.k4, h.m0, h.m1, by simp; omega, h.lp, fun hk' => by simp only at hk'; omega, h.dct, fun hk' => by simp only at hk'; omega⟩
theorem pullF_ok {t : TS} (h : TOk t) (hk : t.kind = 2) : TOk (pullF t).1 := by
  unfold pullF
  split
  · exact h
  · rename_i v r e
    have := h.lv
    rw [e] at this
    simp at this
    exact ⟨h.k1, h.k4, h.m0, h.m1, by simp; omega, h.lp, fun hk' => by simp only at hk'; omega, h.dct, fun hk' => by simp only at hk'; omega⟩
theorem putF_ok {t : TS} (h : TOk t) (hk : t.kind = 3) (k v : Int) : TOk (putF t k v).1 := by
  unfold putF
  split
  · rename_i hat
    obtain ⟨hl, he⟩ := isAt_iff.1 hat
    exact ⟨h.k1, h.k4, h.m0, h.m1, h.lv, by simpa using h.lp, fun hk' => by simp only at hk'; omega, fun hk' => set_sorted (key := Prod.fst) (h.dct hk') hl he.symm, h.chn⟩
  · split
    · exact h
    · rename_i hat hm
      have := h.m1
      exact ⟨h.k1, h.k4, h.m0, h.m1, h.lv, by simp only; rw [put1_length low_le]; omega, fun hk' => by simp only at hk'; omega, fun hk' => put1_sorted (key := Prod.fst) (h.dct hk') rfl (by simpa using hat), h.chn⟩
theorem delF_ok {t : TS} (h : TOk t) (hk : t.kind = 3) (k : Int) : TOk (delF t k).1 := by
  unfold delF
  split
  · rename_i hat
    obtain ⟨hl, he⟩ := isAt_iff.1 hat
    have := h.lp
    exact ⟨h.k1, h.k4, h.m0, h.m1, h.lv, by simp only; rw [del1_length hl]; omega, fun hk' => by simp only at hk'; omega, fun hk' => del1_sorted (key := Prod.fst) (h.dct hk'), h.chn⟩
  · exact h
theorem addF_ok {t : TS} (h : TOk t) (hk : t.kind = 4) (k : Int) : TOk (addF t k).1 := by
  unfold addF
  split
  · exact h
  · split
    · exact h
    · rename_i hat hm
      have := h.m1
      exact ⟨h.k1, h.k4, h.m0, h.m1, by simp only; rw [put1_length low_le]; omega, h.lp, fun hk' => by simp only at hk'; omega, fun hk' => by simp only at hk'; omega, fun hk' => put1_sorted (key := idv) (h.chn hk') rfl (by simpa using hat)⟩
theorem cutF_ok {t : TS} (h : TOk t) (hk : t.kind = 4) (k : Int) : TOk (cutF t k).1 := by
  unfold cutF
  split
  · rename_i hat
    obtain ⟨hl, he⟩ := isAt_iff.1 hat
    have := h.lv
    exact ⟨h.k1, h.k4, h.m0, h.m1, by simp only; rw [del1_length hl]; omega, h.lp, fun hk' => by simp only at hk'; omega, fun hk' => by simp only at hk'; omega, fun hk' => del1_sorted (key := idv) (h.chn hk')⟩
  · exact h
theorem callF_ok {t : TS} (h : TOk t) (call : Int) (args : List Int) : TOk (callF t call args).1 := by
  unfold callF
  split
  · exact countF_ok h ‹_› _ _
  · split
    · split
      · exact pushF_ok h ‹_› _
      · split
        · exact pullF_ok h ‹_›
        · exact h
    · split
      · split
        · unfold getF; split <;> exact h
        · split
          · exact putF_ok h ‹_› _ _
          · split
            · exact delF_ok h ‹_› _
            · exact h
      · have hk : t.kind = 4 := by have := h.k1; have := h.k4; omega
        split
        · exact addF_ok h hk _
        · split
          · exact cutF_ok h hk _
          · split
            · exact h
            · split
              · unfold fromF; split <;> exact h
              · split
                · unfold nextK fromF
                  repeat' split
                  all_goals exact h
                · exact h
end Go.Proofs.Ytpmpgnhbpneloaa
