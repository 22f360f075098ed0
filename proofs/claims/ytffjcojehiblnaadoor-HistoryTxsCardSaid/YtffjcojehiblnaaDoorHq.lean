/- Histories: what the program reads is what the document says. -/
import Derived.Test.YtffjcojehiblnaaDoorHp
namespace Go.Proofs.YtffjcojehiblnaaDoor
set_option linter.unusedVariables false
set_option linter.unusedSimpArgs false

def TI0 : Ev := ⟨0, 0, 0, 0, 0, 0, false, 0, 0, 0, 0, 0, 0, 0, 0, 0, 0, 0, 0⟩
theorem evAt_of {h : List Ev} {q : Nat} (hq : q < h.length) : evAt h (q : Int) = h[q] := by
  unfold evAt
  rw [Int.toNat_natCast, List.getD_eq_getElem?_getD, List.getElem?_eq_getElem hq]
  rfl
theorem countF_succ (h : List Ev) (q : Nat) (k n : Int) (hq : q < h.length) : countF h (q + 1) k n = countF h q k n + if h[q].kind = k ∧ (n < 0 ∨ h[q].tx = n) then 1 else 0 := by
  unfold countF
  rw [List.take_succ_eq_append_getElem hq, List.filter_append, List.length_append]
  congr 1
  by_cases hm : h[q].kind = k ∧ (n < 0 ∨ h[q].tx = n)
  · rw [if_pos hm]
    simp [List.filter_cons, isK, hm]
  · rw [if_neg hm]
    simp [List.filter_cons, isK, hm]
theorem countF_zero {h : List Ev} {q : Nat} {k n : Int} (h0 : countF h q k n = 0) {i : Nat} (hi : i < q) (hl : i < h.length) : ¬ (h[i].kind = k ∧ (n < 0 ∨ h[i].tx = n)) := by
  unfold countF at h0
  have := List.eq_nil_of_length_eq_zero h0
  rw [List.filter_eq_nil_iff] at this
  have hm : h[i] ∈ h.take q := by
    rw [List.mem_take_iff_getElem]
    exact ⟨i, by omega, rfl⟩
  have := this _ hm
  simpa [isK] using this
theorem findF_skip (p : Ev → Bool) : ∀ (l : List Ev) (i q : Nat) (hq : q < l.length), (∀ j (hj : j < l.length), j < q → p l[j] = false) → p l[q] = true → findF p l i = ((i + q : Nat) : Int)
  | e :: r, i, 0, hq, _, h => by
    have h' : p e = true := h
    simp [findF, h']
  | e :: r, i, q + 1, hq, hn, h => by
    have h0 : p e = false := hn 0 (by simp) (by omega)
    rw [findF, h0]
    have := findF_skip p r (i + 1) q (by simpa using hq) (fun j hj hjq => by have := hn (j + 1) (by simpa using hj) (by omega); simpa using this) (by simpa using h)
    simp only [Bool.false_eq_true, if_false]
    rw [this]
    congr 1
    omega
theorem firstF_eq {h : List Ev} {q : Nat} {k n : Int} (hq : q < h.length) (hn : ∀ i (hi : i < h.length), i < q → ¬ (h[i].kind = k ∧ h[i].tx = n)) (he : h[q].kind = k ∧ h[q].tx = n) : firstF h k n = (q : Int) := by
  have := findF_skip (fun e => decide (e.kind = k ∧ e.tx = n)) h 0 q hq (fun j hj hjq => by simpa using hn j hj hjq) (by simpa using he)
  simpa [firstF] using this

/-- What the document's Txs holds while it goes through the events. -/
structure Sum where
  seen : Int
  stamp : Int
  ended : Int
  err : Int
  met : Bool
def stepS (n : Int) (s : Sum) (e : Ev) : Sum :=
  if e.tx ≠ n then s
  else if e.kind = 1 ∨ e.kind = 2 then { s with seen := if s.met = false ∨ s.seen < e.seen then e.seen else s.seen, met := true }
  else if e.kind = 4 then { s with stamp := e.stamp, ended := e.at_ }
  else if e.kind = 6 then { s with ended := e.at_, err := e.err }
  else s
def sumF (h : List Ev) (q : Nat) (n seen0 : Int) : Sum := (h.take q).foldl (stepS n) ⟨seen0, 0, -1, 0, false⟩
theorem sumF_succ (h : List Ev) (q : Nat) (n s0 : Int) (hq : q < h.length) : sumF h (q + 1) n s0 = stepS n (sumF h q n s0) h[q] := by
  unfold sumF
  rw [List.take_succ_eq_append_getElem hq, List.foldl_append]
  rfl
theorem sumF_none (h : List Ev) (n s0 : Int) : ∀ q, q ≤ h.length → (∀ i (hi : i < h.length), i < q → h[i].tx ≠ n) → sumF h q n s0 = ⟨s0, 0, -1, 0, false⟩
  | 0, _, _ => by simp [sumF]
  | q + 1, hq, hn => by
    rw [sumF_succ h q n s0 (by omega), sumF_none h n s0 q (by omega) fun i hi hiq => hn i hi (by omega)]
    unfold stepS
    rw [if_pos (hn q (by omega) (by omega))]

/-- What is known of a transaction behind the first q events. -/
structure TInv (h : List Ev) (q : Nat) (n : Nat) (t : TxP) : Prop where
  op : ∃ o : Nat, firstF h 7 n = (o : Int) ∧ o < q ∧ ∃ ho : o < h.length, t.thread = h[o].thread ∧ t.begun = h[o].at_ ∧
    (let s := sumF h q n (countF h o 4 (-1)); t.stamp = s.stamp ∧ t.ended = s.ended ∧ t.err = s.err ∧ t.bg = s.met ∧ t.seen = if t.stamp = 0 then s.seen else t.stamp - 1)
  bg : (t.bg = true → countF h q 1 n = 1) ∧ (t.bg = false → countF h q 1 n = 0)
  pb : (t.stamp = 0 → countF h q 4 n = 0) ∧ (t.stamp ≠ 0 → countF h q 4 n = 1 ∧ 0 < t.stamp ∧ ∃ o : Nat, firstF h 4 n = (o : Int) ∧ ∃ ho : o < h.length, t.stamp = h[o].stamp)
  nb : t.bg = false → t.stamp = 0
  ov : t.ov = true ↔ 0 < countF h q 6 n + countF h q 5 n
  st : t.steps = (h.take q).filter fun e : Ev => decide (e.tx = (n : Int) ∧ (e.kind = 2 ∨ e.kind = 3))
structure HInv (h : List Ev) (q : Nat) (b : Book) : Prop where
  len : b.l.length = countF h q 7 (-1)
  pub : b.pub = countF h q 4 (-1)
  done : b.done = countF h q 5 (-1)
  at_ : (q = 0 → b.at_ = 0) ∧ (0 < q → b.at_ = (evAt h ((q : Int) - 1)).at_)
  txs : ∀ i (hi : i < h.length), i < q → 0 ≤ h[i].tx ∧ h[i].tx < b.l.length
  ats : 0 ≤ b.at_
  each : ∀ n (hn : n < b.l.length), TInv h q n b.l[n]

theorem HInv.start (h : List Ev) : HInv h 0 book0 :=
  ⟨by simp [book0, countF], by simp [book0, countF], by simp [book0, countF], ⟨fun _ => rfl, fun h => absurd h (by omega)⟩, fun i _ hi => absurd hi (by omega), by simp [book0], fun n hn => absurd hn (by simp [book0])⟩

theorem goes_is (t : TxP) (pub done : Nat) (e : Ev) : (goesF t pub done e).isSome = true ↔
    (e.kind = 5 ∧ t.stamp ≠ 0 ∧ e.stamp = t.stamp ∧ e.stamp = (done : Int) + 1) ∨ (t.stamp = 0 ∧ (((e.kind = 2 ∨ e.kind = 3) ∧ 0 ≤ e.cell ∧ e.cell < 1024) ∨ (e.kind = 4 ∧ e.stamp = (pub : Int) + 1) ∨ e.kind = 6)) := by
  unfold goesF
  by_cases k5 : e.kind = 5
  · rw [if_pos k5]
    split <;> simp <;> omega
  rw [if_neg k5]
  by_cases hs : t.stamp = 0
  · rw [if_neg (not_not_intro hs)]
    by_cases k2 : e.kind = 2 ∨ e.kind = 3
    · rw [if_pos k2]
      split <;> simp <;> omega
    rw [if_neg k2]
    by_cases k4 : e.kind = 4
    · rw [if_pos k4]
      split <;> simp <;> omega
    rw [if_neg k4]
    split <;> simp <;> omega
  · rw [if_pos hs]
    simp
    omega
theorem nextT_is (b : Book) (e : Ev) (n : Nat) (t : TxP) : (nextT b e n t).isSome = true ↔
    (t.ov = false ∧ t.thread = e.thread) ∧ ((e.kind = 1 ∧ t.bg = false) ∨ (e.kind ≠ 1 ∧ t.bg = true ∧ (goesF t b.pub b.done e).isSome = true)) := by
  unfold nextT
  by_cases hbad : t.ov = true ∨ t.thread ≠ e.thread
  · rw [if_pos hbad]
    simp only [Option.isSome_none, Bool.false_eq_true, false_iff]
    rintro ⟨⟨h1, h2⟩, _⟩
    rcases hbad with h | h
    · rw [h1] at h; cases h
    · exact h h2
  rw [if_neg hbad]
  have h1 : t.ov = false := by cases h : t.ov; rfl; exact absurd (.inl h) hbad
  have h2 : t.thread = e.thread := Classical.not_not.1 fun h => hbad (.inr h)
  by_cases k1 : e.kind = 1
  · rw [if_pos k1]
    cases hb : t.bg <;> simp [h1, h2, k1]
  · rw [if_neg k1]
    cases hb : t.bg with
    | false => simp [k1]
    | true =>
      simp only [if_true]
      cases hg : goesF t b.pub b.done e with
      | none => simp [k1]
      | some x => obtain ⟨a, p, d⟩ := x; simp [h1, h2, k1]

/-- May the next event come? -/
theorem HInv.may {h : List Ev} {q : Nat} {b : Book} (I : HInv h q b) (hq : q < h.length) : mayF h q h[q] = (nextF b h[q]).isSome := by
  have hat : (h[q].at_ < b.at_) ↔ (h[q].at_ < 0 ∨ (0 < q ∧ h[q].at_ < (evAt h ((q : Int) - 1)).at_)) := by
    rcases Nat.eq_zero_or_pos q with h0 | h0
    · rw [I.at_.1 h0]
      omega
    · have h1 := I.at_.2 h0
      have h2 := I.ats
      rw [h1] at h2 ⊢
      omega
  unfold mayF nextF
  by_cases ha : h[q].at_ < b.at_
  · rw [if_pos ha, if_pos (hat.1 ha)]
    rfl
  rw [if_neg ha, if_neg (fun hh => ha (hat.2 hh))]
  by_cases h7 : h[q].kind = 7
  · rw [if_pos h7, if_pos h7, ← I.len]
    by_cases hx : h[q].tx = b.l.length
    · rw [if_neg (not_not_intro hx)]
      simp [hx]
    · rw [if_pos hx]
      simp [hx]
  rw [if_neg h7, if_neg h7, ← I.len]
  by_cases hr : 0 ≤ h[q].tx ∧ h[q].tx.toNat < b.l.length
  · rw [dif_pos hr, if_neg (by omega)]
    obtain ⟨n, hn⟩ := Int.eq_ofNat_of_zero_le hr.1
    have hnl : n < b.l.length := by have := hr.2; rw [hn] at this; simpa using this
    have T := I.each n hnl
    have et : b.l[h[q].tx.toNat]'hr.2 = b.l[n] := by congr 1; rw [hn]; rfl
    rw [et]
    generalize b.l[n] = t at T
    rw [hn]
    obtain ⟨o, ho1, ho2, hol, hth, -⟩ := T.op
    rw [ho1, evAt_of hol, ← hth]
    rw [Bool.eq_iff_iff, nextT_is, goes_is, I.pub, I.done]
    have hov : t.ov = false ↔ ¬ 0 < countF h q 6 n + countF h q 5 n := by rw [← T.ov]; simp
    have hbg : (t.bg = true ∧ countF h q 1 n = 1) ∨ (t.bg = false ∧ countF h q 1 n = 0 ∧ t.stamp = 0) := by
      cases hb : t.bg with
      | true => exact .inl ⟨rfl, T.bg.1 hb⟩
      | false => exact .inr ⟨rfl, T.bg.2 hb, T.nb hb⟩
    have hpb : (t.stamp = 0 ∧ countF h q 4 n = 0) ∨ (t.stamp ≠ 0 ∧ countF h q 4 n = 1 ∧ (evAt h (firstF h 4 n)).stamp = t.stamp) := by
      by_cases hs : t.stamp = 0
      · exact .inl ⟨hs, T.pb.1 hs⟩
      · obtain ⟨c4, hpos, o4, ho4, hol4, he4⟩ := T.pb.2 hs
        exact .inr ⟨hs, c4, by rw [ho4, evAt_of hol4, he4]⟩
    rw [hov]
    generalize countF h q 6 n = c6 at *
    generalize countF h q 5 n = c5 at *
    generalize countF h q 1 n = c1 at *
    generalize countF h q 4 n = c4 at *
    generalize (evAt h (firstF h 4 n)).stamp = z at *
    generalize countF h q 4 (-1) = P at *
    generalize countF h q 5 (-1) = D at *
    clear hov T I ho1 hat et
    have hb2 : t.bg = true ∨ t.bg = false := by cases t.bg <;> simp
    by_cases hbad : 0 < c6 + c5 ∨ t.thread ≠ h[q].thread
    · rw [if_pos hbad]
      simp only [Bool.false_eq_true, false_iff]
      omega
    rw [if_neg hbad]
    have hg1 : ¬ 0 < c6 + c5 := fun h => hbad (.inl h)
    have hg2 : t.thread = h[q].thread := Classical.not_not.1 fun h => hbad (.inr h)
    by_cases k1 : h[q].kind = 1
    · rw [if_pos k1]
      rcases hbg with ⟨hb, hc⟩ | ⟨hb, hc, hs⟩ <;> simp [hb, hc, k1, hg1, hg2]
    rw [if_neg k1]
    by_cases k2 : h[q].kind = 2 ∨ h[q].kind = 3
    · rw [if_pos k2]
      rcases hbg with ⟨hb, hc⟩ | ⟨hb, hc, hs⟩ <;> rcases hpb with ⟨hs', hc'⟩ | ⟨hs', hc', hz⟩ <;> simp [hb, hc, k1, hg1, hg2, hs', hc'] <;> omega
    rw [if_neg k2]
    by_cases k4 : h[q].kind = 4
    · rw [if_pos k4]
      rcases hbg with ⟨hb, hc⟩ | ⟨hb, hc, hs⟩ <;> rcases hpb with ⟨hs', hc'⟩ | ⟨hs', hc', hz⟩ <;> simp [hb, hc, k1, hg1, hg2, hs', hc', k4]
    rw [if_neg k4]
    by_cases k5 : h[q].kind = 5
    · rw [if_pos k5]
      rcases hbg with ⟨hb, hc⟩ | ⟨hb, hc, hs⟩ <;> rcases hpb with ⟨hs', hc'⟩ | ⟨hs', hc', hz⟩ <;> simp [hb, hc, k1, hg1, hg2, hs', hc', k5] <;> omega
    rw [if_neg k5]
    by_cases k6 : h[q].kind = 6
    · rw [if_pos k6]
      rcases hbg with ⟨hb, hc⟩ | ⟨hb, hc, hs⟩ <;> rcases hpb with ⟨hs', hc'⟩ | ⟨hs', hc', hz⟩ <;> simp [hb, hc, k1, hg1, hg2, hs', hc', k6]
    rw [if_neg k6]
    simp only [Bool.false_eq_true, false_iff]
    omega
  · rw [dif_neg hr, if_pos (by omega)]
    rfl

theorem filter_succ (h : List Ev) (q : Nat) (p : Ev → Bool) (hq : q < h.length) : (h.take (q + 1)).filter p = (h.take q).filter p ++ if p h[q] = true then [h[q]] else [] := by
  rw [List.take_succ_eq_append_getElem hq, List.filter_append]
  congr 1
  by_cases hp : p h[q] = true
  · rw [if_pos hp, List.filter_cons_of_pos hp]; rfl
  · rw [if_neg hp, List.filter_cons_of_neg hp]; rfl
theorem count_other {h : List Ev} {q n : Nat} {k : Int} (hq : q < h.length) (hx : h[q].tx ≠ n) : countF h (q + 1) k n = countF h q k n := by
  rw [countF_succ h q k n hq, if_neg]
  · rfl
  · rintro ⟨_, h1 | h1⟩
    · omega
    · exact hx h1
theorem count_same {h : List Ev} {q n : Nat} {k : Int} (hq : q < h.length) (hx : h[q].tx = n) : countF h (q + 1) k n = countF h q k n + if h[q].kind = k then 1 else 0 := by
  rw [countF_succ h q k n hq]
  congr 1
  by_cases hk : h[q].kind = k
  · rw [if_pos ⟨hk, .inr hx⟩, if_pos hk]
  · rw [if_neg (fun h => hk h.1), if_neg hk]
theorem TInv.other {h : List Ev} {q n : Nat} {t : TxP} (T : TInv h q n t) (hq : q < h.length) (hx : h[q].tx ≠ n) : TInv h (q + 1) n t := by
  obtain ⟨⟨o, h1, h2, h3, h4, h5, h6⟩, hbg, hpb, hnb, hov, hst⟩ := T
  refine ⟨⟨o, h1, by omega, h3, h4, h5, ?_⟩, ?_, ?_, hnb, ?_, ?_⟩
  · rw [sumF_succ h q n _ hq]
    have e : stepS n (sumF h q n (countF h o 4 (-1))) h[q] = sumF h q n (countF h o 4 (-1)) := by unfold stepS; rw [if_pos hx]
    rw [e]
    exact h6
  · rw [count_other hq hx]; exact hbg
  · rw [count_other hq hx]; exact hpb
  · rw [count_other hq hx, count_other hq hx]; exact hov
  · rw [filter_succ h q _ hq, if_neg (by simp [hx]), List.append_nil]; exact hst
/-- The transaction of the event itself: what must be shown. -/
theorem TInv.own {h : List Ev} {q n : Nat} {t t' : TxP} (T : TInv h q n t) (hq : q < h.length) (hx : h[q].tx = n) (h7 : h[q].kind ≠ 7) (hth : t'.thread = t.thread) (hbe : t'.begun = t.begun)
    (hs : ∀ s : Sum, t.stamp = s.stamp ∧ t.ended = s.ended ∧ t.err = s.err ∧ t.bg = s.met ∧ t.seen = (if t.stamp = 0 then s.seen else t.stamp - 1) →
      t'.stamp = (stepS n s h[q]).stamp ∧ t'.ended = (stepS n s h[q]).ended ∧ t'.err = (stepS n s h[q]).err ∧ t'.bg = (stepS n s h[q]).met ∧ t'.seen = if t'.stamp = 0 then (stepS n s h[q]).seen else t'.stamp - 1)
    (hbg : (t'.bg = true → countF h q 1 n + (if h[q].kind = 1 then 1 else 0) = 1) ∧ (t'.bg = false → countF h q 1 n + (if h[q].kind = 1 then 1 else 0) = 0))
    (hpb : (t'.stamp = 0 → countF h q 4 n + (if h[q].kind = 4 then 1 else 0) = 0) ∧ (t'.stamp ≠ 0 → countF h q 4 n + (if h[q].kind = 4 then 1 else 0) = 1 ∧ 0 < t'.stamp ∧ ∃ o : Nat, firstF h 4 n = (o : Int) ∧ ∃ ho : o < h.length, t'.stamp = h[o].stamp))
    (hnb : t'.bg = false → t'.stamp = 0)
    (hov : t'.ov = true ↔ 0 < (countF h q 6 n + if h[q].kind = 6 then 1 else 0) + (countF h q 5 n + if h[q].kind = 5 then 1 else 0))
    (hst : t'.steps = t.steps ++ if h[q].kind = 2 ∨ h[q].kind = 3 then [h[q]] else []) : TInv h (q + 1) n t' := by
  obtain ⟨⟨o, h1, h2, h3, h4, h5, h6⟩, -, -, -, -, hst0⟩ := T
  refine ⟨⟨o, h1, by omega, h3, by rw [hth]; exact h4, by rw [hbe]; exact h5, ?_⟩, ?_, ?_, hnb, ?_, ?_⟩
  · rw [sumF_succ h q n _ hq]
    exact hs _ h6
  · rw [count_same hq hx]; exact hbg
  · rw [count_same hq hx]; exact hpb
  · rw [count_same hq hx, count_same hq hx]; exact hov
  · rw [filter_succ h q _ hq, hst, hst0]
    congr 1
    by_cases hk : h[q].kind = 2 ∨ h[q].kind = 3
    · rw [if_pos hk, if_pos (by simp [hx, hk])]
    · rw [if_neg hk, if_neg (by simp [hk])]
end Go.Proofs.YtffjcojehiblnaaDoor
