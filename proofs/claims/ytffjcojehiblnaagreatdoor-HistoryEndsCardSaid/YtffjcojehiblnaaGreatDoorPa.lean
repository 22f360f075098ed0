/- Histories as plain lists: what the program makes of one, what the document says of one; both agree. -/
import Derived.Test.YtffjcojehiblnaaGreatDoorRows
namespace Go.Proofs.YtffjcojehiblnaaGreatDoor
set_option linter.unusedVariables false
set_option linter.unusedSimpArgs false

/-- An event. -/
structure Ev where
  at_ : Int
  thread : Int
  tx : Int
  kind : Int
  cell : Int
  value : Int
  own : Bool
  start : Int
  seen : Int
  stamp : Int
  s0 : Int
  s1 : Int
  s2 : Int
  s3 : Int
  s4 : Int
  s5 : Int
  s6 : Int
  s7 : Int
  err : Int

/-- A transaction of the program's book. -/
structure TxP where
  thread : Int
  begun : Int
  ended : Int
  stamp : Int
  seen : Int
  err : Int
  bg : Bool
  ov : Bool
  steps : List Ev
structure Book where
  l : List TxP
  at_ : Int
  pub : Nat
  done : Nat
def book0 : Book := ⟨[], 0, 0, 0⟩

/-- An event of a transaction that has begun. -/
def goesF (t : TxP) (pub done : Nat) (e : Ev) : Option (TxP × Nat × Nat) :=
  if e.kind = 5 then
    (if t.stamp = 0 ∨ e.stamp ≠ t.stamp ∨ e.stamp ≠ (done : Int) + 1 then none else some ({ t with ov := true }, pub, done + 1))
  else if t.stamp ≠ 0 then none
  else if e.kind = 2 ∨ e.kind = 3 then
    (if e.cell < 0 ∨ 1024 ≤ e.cell then none
     else some ({ t with seen := if e.kind = 2 then max t.seen e.seen else t.seen, steps := t.steps ++ [e] }, pub, done))
  else if e.kind = 4 then
    (if e.stamp ≠ (pub : Int) + 1 then none else some ({ t with stamp := e.stamp, seen := e.stamp - 1, ended := e.at_ }, pub + 1, done))
  else if e.kind = 6 then some ({ t with ov := true, ended := e.at_, err := e.err }, pub, done)
  else none
/-- The next event, of a transaction that is there. -/
def nextT (b : Book) (e : Ev) (n : Nat) (t : TxP) : Option Book :=
  if t.ov = true ∨ t.thread ≠ e.thread then none
  else if e.kind = 1 then
    (if t.bg = true then none else some { b with at_ := e.at_, l := b.l.set n { t with bg := true, seen := e.seen } })
  else if t.bg = true then
    (match goesF t b.pub b.done e with
     | none => none
     | some (t', p, d) => some ⟨b.l.set n t', e.at_, p, d⟩)
  else none
/-- The next event. -/
def nextF (b : Book) (e : Ev) : Option Book :=
  if e.at_ < b.at_ then none
  else if e.kind = 7 then
    (if e.tx ≠ b.l.length then none else some { b with at_ := e.at_, l := b.l ++ [⟨e.thread, e.at_, -1, 0, b.pub, 0, false, false, []⟩] })
  else if h : 0 ≤ e.tx ∧ e.tx.toNat < b.l.length then nextT b e e.tx.toNat (b.l[e.tx.toNat]'h.2)
  else none
/-- A list of events read from a place on. -/
def readF : Book → Nat → List Ev → Except Nat Book
  | b, _, [] => .ok b
  | b, i, e :: r => match nextF b e with
    | none => .error i
    | some b' => readF b' (i + 1) r
theorem readF_snoc (b : Book) (i : Nat) (l : List Ev) (e : Ev) : readF b i (l ++ [e]) = match readF b i l with
    | .error k => .error k
    | .ok b' => match nextF b' e with
      | none => .error (i + l.length)
      | some b'' => .ok b'' := by
  induction l generalizing b i with
  | nil => simp only [List.nil_append, readF, List.length_nil, Nat.add_zero]
  | cons x r ih =>
    simp only [List.cons_append, readF, List.length_cons]
    cases nextF b x with
    | none => rfl
    | some b' =>
      simp only
      rw [ih, show i + 1 + r.length = i + (r.length + 1) by omega]

/-! ### The document's words -/
def isK (kind tx : Int) (e : Ev) : Bool := decide (e.kind = kind ∧ (tx < 0 ∨ e.tx = tx))
def countF (h : List Ev) (to : Nat) (kind tx : Int) : Nat := ((h.take to).filter (isK kind tx)).length
def findF (p : Ev → Bool) : List Ev → Nat → Int
  | [], _ => -1
  | e :: r, i => if p e then i else findF p r (i + 1)
def firstF (h : List Ev) (kind tx : Int) : Int := findF (fun e => decide (e.kind = kind ∧ e.tx = tx)) h 0
def evAt (h : List Ev) (i : Int) : Ev := h.getD i.toNat ⟨0, 0, 0, 0, 0, 0, false, 0, 0, 0, 0, 0, 0, 0, 0, 0, 0, 0, 0⟩
def mayF (h : List Ev) (i : Nat) (e : Ev) : Bool :=
  if e.at_ < 0 ∨ (0 < i ∧ e.at_ < (evAt h ((i : Int) - 1)).at_) then false
  else if e.kind = 7 then decide (e.tx = countF h i 7 (-1))
  else if e.tx < 0 ∨ (countF h i 7 (-1) : Int) ≤ e.tx then false
  else if 0 < countF h i 6 e.tx + countF h i 5 e.tx ∨ (evAt h (firstF h 7 e.tx)).thread ≠ e.thread then false
  else if e.kind = 1 then decide (countF h i 1 e.tx = 0)
  else if e.kind = 2 ∨ e.kind = 3 then decide (countF h i 1 e.tx = 1 ∧ countF h i 4 e.tx = 0 ∧ 0 ≤ e.cell ∧ e.cell < 1024)
  else if e.kind = 4 then decide (countF h i 1 e.tx = 1 ∧ countF h i 4 e.tx = 0 ∧ e.stamp = (countF h i 4 (-1) : Int) + 1)
  else if e.kind = 5 then decide (countF h i 4 e.tx ≠ 0 ∧ e.stamp = (evAt h (firstF h 4 e.tx)).stamp ∧ e.stamp = (countF h i 5 (-1) : Int) + 1)
  else if e.kind = 6 then decide (countF h i 1 e.tx = 1 ∧ countF h i 4 e.tx = 0)
  else false
end Go.Proofs.YtffjcojehiblnaaGreatDoor

/- Histories: what the program reads is what the document says. -/
namespace Go.Proofs.YtffjcojehiblnaaGreatDoor
set_option linter.unusedVariables false
set_option linter.unusedSimpArgs false

def TI0 : Ev := ⟨0, 0, 0, 0, 0, 0, false, 0, 0, 0, 0, 0, 0, 0, 0, 0, 0, 0, 0⟩
theorem evAt_of {h : List Ev} {q : Nat} (hq : q < h.length) : evAt h (q : Int) = h[q] := by
  unfold evAt
  rw [Int.toNat_natCast, List.getD_eq_getElem?_getD, List.getElem?_eq_getElem hq]
  rfl
theorem countF_succ (h : List Ev) (q : Nat) (k n : Int) (hq : q < h.length) : countF h (q + 1) k n = countF h q k n + if h[q].kind = k ∧ (n < 0 ∨ h[q].tx = n) then 1 else 0 := by
  unfold countF
  rw [List.take_succ_eq_append_getElem hq, List.filter_append, List.length_append]
  congr 1
  by_cases hm : h[q].kind = k ∧ (n < 0 ∨ h[q].tx = n)
  · rw [if_pos hm]
    simp [List.filter_cons, isK, hm]
  · rw [if_neg hm]
    simp [List.filter_cons, isK, hm]
theorem countF_zero {h : List Ev} {q : Nat} {k n : Int} (h0 : countF h q k n = 0) {i : Nat} (hi : i < q) (hl : i < h.length) : ¬ (h[i].kind = k ∧ (n < 0 ∨ h[i].tx = n)) := by
  unfold countF at h0
  have := List.eq_nil_of_length_eq_zero h0
  rw [List.filter_eq_nil_iff] at this
  have hm : h[i] ∈ h.take q := by
    rw [List.mem_take_iff_getElem]
    exact ⟨i, by omega, rfl⟩
  have := this _ hm
  simpa [isK] using this
theorem findF_skip (p : Ev → Bool) : ∀ (l : List Ev) (i q : Nat) (hq : q < l.length), (∀ j (hj : j < l.length), j < q → p l[j] = false) → p l[q] = true → findF p l i = ((i + q : Nat) : Int)
  | e :: r, i, 0, hq, _, h => by
    have h' : p e = true := h
    simp [findF, h']
  | e :: r, i, q + 1, hq, hn, h => by
    have h0 : p e = false := hn 0 (by simp) (by omega)
    rw [findF, h0]
    have := findF_skip p r (i + 1) q (by simpa using hq) (fun j hj hjq => by have := hn (j + 1) (by simpa using hj) (by omega); simpa using this) (by simpa using h)
    simp only [Bool.false_eq_true, if_false]
    rw [this]
    congr 1
    omega
theorem firstF_eq {h : List Ev} {q : Nat} {k n : Int} (hq : q < h.length) (hn : ∀ i (hi : i < h.length), i < q → ¬ (h[i].kind = k ∧ h[i].tx = n)) (he : h[q].kind = k ∧ h[q].tx = n) : firstF h k n = (q : Int) := by
  have := findF_skip (fun e => decide (e.kind = k ∧ e.tx = n)) h 0 q hq (fun j hj hjq => by simpa using hn j hj hjq) (by simpa using he)
  simpa [firstF] using this

/-- What the document's Txs holds while it goes through the events. -/
structure Sum where
  seen : Int
  stamp : Int
  ended : Int
  err : Int
  met : Bool
def stepS (n : Int) (s : Sum) (e : Ev) : Sum :=
  if e.tx ≠ n then s
  else if e.kind = 1 ∨ e.kind = 2 then { s with seen := if s.met = false ∨ s.seen < e.seen then e.seen else s.seen, met := true }
  else if e.kind = 4 then { s with stamp := e.stamp, ended := e.at_ }
  else if e.kind = 6 then { s with ended := e.at_, err := e.err }
  else s
def sumF (h : List Ev) (q : Nat) (n seen0 : Int) : Sum := (h.take q).foldl (stepS n) ⟨seen0, 0, -1, 0, false⟩
theorem sumF_succ (h : List Ev) (q : Nat) (n s0 : Int) (hq : q < h.length) : sumF h (q + 1) n s0 = stepS n (sumF h q n s0) h[q] := by
  unfold sumF
  rw [List.take_succ_eq_append_getElem hq, List.foldl_append]
  rfl
theorem sumF_none (h : List Ev) (n s0 : Int) : ∀ q, q ≤ h.length → (∀ i (hi : i < h.length), i < q → h[i].tx ≠ n) → sumF h q n s0 = ⟨s0, 0, -1, 0, false⟩
  | 0, _, _ => by simp [sumF]
  | q + 1, hq, hn => by
    rw [sumF_succ h q n s0 (by omega), sumF_none h n s0 q (by omega) fun i hi hiq => hn i hi (by omega)]
    unfold stepS
    rw [if_pos (hn q (by omega) (by omega))]

/-- What is known of a transaction behind the first q events. -/
structure TInv (h : List Ev) (q : Nat) (n : Nat) (t : TxP) : Prop where
  op : ∃ o : Nat, firstF h 7 n = (o : Int) ∧ o < q ∧ ∃ ho : o < h.length, t.thread = h[o].thread ∧ t.begun = h[o].at_ ∧
    (let s := sumF h q n (countF h o 4 (-1)); t.stamp = s.stamp ∧ t.ended = s.ended ∧ t.err = s.err ∧ t.bg = s.met ∧ t.seen = if t.stamp = 0 then s.seen else t.stamp - 1)
  bg : (t.bg = true → countF h q 1 n = 1) ∧ (t.bg = false → countF h q 1 n = 0)
  pb : (t.stamp = 0 → countF h q 4 n = 0) ∧ (t.stamp ≠ 0 → countF h q 4 n = 1 ∧ 0 < t.stamp ∧ ∃ o : Nat, firstF h 4 n = (o : Int) ∧ ∃ ho : o < h.length, t.stamp = h[o].stamp)
  nb : t.bg = false → t.stamp = 0
  ov : t.ov = true ↔ 0 < countF h q 6 n + countF h q 5 n
  st : t.steps = (h.take q).filter fun e : Ev => decide (e.tx = (n : Int) ∧ (e.kind = 2 ∨ e.kind = 3))
structure HInv (h : List Ev) (q : Nat) (b : Book) : Prop where
  len : b.l.length = countF h q 7 (-1)
  pub : b.pub = countF h q 4 (-1)
  done : b.done = countF h q 5 (-1)
  at_ : (q = 0 → b.at_ = 0) ∧ (0 < q → b.at_ = (evAt h ((q : Int) - 1)).at_)
  txs : ∀ i (hi : i < h.length), i < q → 0 ≤ h[i].tx ∧ h[i].tx < b.l.length
  ats : 0 ≤ b.at_
  each : ∀ n (hn : n < b.l.length), TInv h q n b.l[n]

theorem HInv.start (h : List Ev) : HInv h 0 book0 :=
  ⟨by simp [book0, countF], by simp [book0, countF], by simp [book0, countF], ⟨fun _ => rfl, fun h => absurd h (by omega)⟩, fun i _ hi => absurd hi (by omega), by simp [book0], fun n hn => absurd hn (by simp [book0])⟩

theorem goes_is (t : TxP) (pub done : Nat) (e : Ev) : (goesF t pub done e).isSome = true ↔
    (e.kind = 5 ∧ t.stamp ≠ 0 ∧ e.stamp = t.stamp ∧ e.stamp = (done : Int) + 1) ∨ (t.stamp = 0 ∧ (((e.kind = 2 ∨ e.kind = 3) ∧ 0 ≤ e.cell ∧ e.cell < 1024) ∨ (e.kind = 4 ∧ e.stamp = (pub : Int) + 1) ∨ e.kind = 6)) := by
  unfold goesF
  by_cases k5 : e.kind = 5
  · rw [if_pos k5]
    split <;> simp <;> omega
  rw [if_neg k5]
  by_cases hs : t.stamp = 0
  · rw [if_neg (not_not_intro hs)]
    by_cases k2 : e.kind = 2 ∨ e.kind = 3
    · rw [if_pos k2]
      split <;> simp <;> omega
    rw [if_neg k2]
    by_cases k4 : e.kind = 4
    · rw [if_pos k4]
      split <;> simp <;> omega
    rw [if_neg k4]
    split <;> simp <;> omega
  · rw [if_pos hs]
    simp
    omega
theorem nextT_is (b : Book) (e : Ev) (n : Nat) (t : TxP) : (nextT b e n t).isSome = true ↔
    (t.ov = false ∧ t.thread = e.thread) ∧ ((e.kind = 1 ∧ t.bg = false) ∨ (e.kind ≠ 1 ∧ t.bg = true ∧ (goesF t b.pub b.done e).isSome = true)) := by
  unfold nextT
  by_cases hbad : t.ov = true ∨ t.thread ≠ e.thread
  · rw [if_pos hbad]
    simp only [Option.isSome_none, Bool.false_eq_true, false_iff]
    rintro ⟨⟨h1, h2⟩, _⟩
    rcases hbad with h | h
    · rw [h1] at h; cases h
    · exact h h2
  rw [if_neg hbad]
  have h1 : t.ov = false := by cases h : t.ov; rfl; exact absurd (.inl h) hbad
  have h2 : t.thread = e.thread := Classical.not_not.1 fun h => hbad (.inr h)
  by_cases k1 : e.kind = 1
  · rw [if_pos k1]
    cases hb : t.bg <;> simp [h1, h2, k1]
  · rw [if_neg k1]
    cases hb : t.bg with
    | false => simp [k1]
    | true =>
      simp only [if_true]
      cases hg : goesF t b.pub b.done e with
      | none => simp [k1]
      | some x => obtain ⟨a, p, d⟩ := x; simp [h1, h2, k1]

/-- May the next event come? -/
theorem HInv.may {h : List Ev} {q : Nat} {b : Book} (I : HInv h q b) (hq : q < h.length) : mayF h q h[q] = (nextF b h[q]).isSome := by
  have hat : (h[q].at_ < b.at_) ↔ (h[q].at_ < 0 ∨ (0 < q ∧ h[q].at_ < (evAt h ((q : Int) - 1)).at_)) := by
    rcases Nat.eq_zero_or_pos q with h0 | h0
    · rw [I.at_.1 h0]
      omega
    · have h1 := I.at_.2 h0
      have h2 := I.ats
      rw [h1] at h2 ⊢
      omega
  unfold mayF nextF
  by_cases ha : h[q].at_ < b.at_
  · rw [if_pos ha, if_pos (hat.1 ha)]
    rfl
  rw [if_neg ha, if_neg (fun hh => ha (hat.2 hh))]
  by_cases h7 : h[q].kind = 7
  · rw [if_pos h7, if_pos h7, ← I.len]
    by_cases hx : h[q].tx = b.l.length
    · rw [if_neg (not_not_intro hx)]
      simp [hx]
    · rw [if_pos hx]
      simp [hx]
  rw [if_neg h7, if_neg h7, ← I.len]
  by_cases hr : 0 ≤ h[q].tx ∧ h[q].tx.toNat < b.l.length
  · rw [dif_pos hr, if_neg (by omega)]
    obtain ⟨n, hn⟩ := Int.eq_ofNat_of_zero_le hr.1
    have hnl : n < b.l.length := by have := hr.2; rw [hn] at this; simpa using this
    have T := I.each n hnl
    have et : b.l[h[q].tx.toNat]'hr.2 = b.l[n] := by congr 1; rw [hn]; rfl
    rw [et]
    generalize b.l[n] = t at T
    rw [hn]
    obtain ⟨o, ho1, ho2, hol, hth, -⟩ := T.op
    rw [ho1, evAt_of hol, ← hth]
    rw [Bool.eq_iff_iff, nextT_is, goes_is, I.pub, I.done]
    have hov : t.ov = false ↔ ¬ 0 < countF h q 6 n + countF h q 5 n := by rw [← T.ov]; simp
    have hbg : (t.bg = true ∧ countF h q 1 n = 1) ∨ (t.bg = false ∧ countF h q 1 n = 0 ∧ t.stamp = 0) := by
      cases hb : t.bg with
      | true => exact .inl ⟨rfl, T.bg.1 hb⟩
      | false => exact .inr ⟨rfl, T.bg.2 hb, T.nb hb⟩
    have hpb : (t.stamp = 0 ∧ countF h q 4 n = 0) ∨ (t.stamp ≠ 0 ∧ countF h q 4 n = 1 ∧ (evAt h (firstF h 4 n)).stamp = t.stamp) := by
      by_cases hs : t.stamp = 0
      · exact .inl ⟨hs, T.pb.1 hs⟩
      · obtain ⟨c4, hpos, o4, ho4, hol4, he4⟩ := T.pb.2 hs
        exact .inr ⟨hs, c4, by rw [ho4, evAt_of hol4, he4]⟩
    rw [hov]
    generalize countF h q 6 n = c6 at *
    generalize countF h q 5 n = c5 at *
    generalize countF h q 1 n = c1 at *
    generalize countF h q 4 n = c4 at *
    generalize (evAt h (firstF h 4 n)).stamp = z at *
    generalize countF h q 4 (-1) = P at *
    generalize countF h q 5 (-1) = D at *
    clear hov T I ho1 hat et
    have hb2 : t.bg = true ∨ t.bg = false := by cases t.bg <;> simp
    by_cases hbad : 0 < c6 + c5 ∨ t.thread ≠ h[q].thread
    · rw [if_pos hbad]
      simp only [Bool.false_eq_true, false_iff]
      omega
    rw [if_neg hbad]
    have hg1 : ¬ 0 < c6 + c5 := fun h => hbad (.inl h)
    have hg2 : t.thread = h[q].thread := Classical.not_not.1 fun h => hbad (.inr h)
    by_cases k1 : h[q].kind = 1
    · rw [if_pos k1]
      rcases hbg with ⟨hb, hc⟩ | ⟨hb, hc, hs⟩ <;> simp [hb, hc, k1, hg1, hg2]
    rw [if_neg k1]
    by_cases k2 : h[q].kind = 2 ∨ h[q].kind = 3
    · rw [if_pos k2]
      rcases hbg with ⟨hb, hc⟩ | ⟨hb, hc, hs⟩ <;> rcases hpb with ⟨hs', hc'⟩ | ⟨hs', hc', hz⟩ <;> simp [hb, hc, k1, hg1, hg2, hs', hc'] <;> omega
    rw [if_neg k2]
    by_cases k4 : h[q].kind = 4
    · rw [if_pos k4]
      rcases hbg with ⟨hb, hc⟩ | ⟨hb, hc, hs⟩ <;> rcases hpb with ⟨hs', hc'⟩ | ⟨hs', hc', hz⟩ <;> simp [hb, hc, k1, hg1, hg2, hs', hc', k4]
    rw [if_neg k4]
    by_cases k5 : h[q].kind = 5
    · rw [if_pos k5]
      rcases hbg with ⟨hb, hc⟩ | ⟨hb, hc, hs⟩ <;> rcases hpb with ⟨hs', hc'⟩ | ⟨hs', hc', hz⟩ <;> simp [hb, hc, k1, hg1, hg2, hs', hc', k5] <;> omega
    rw [if_neg k5]
    by_cases k6 : h[q].kind = 6
    · rw [if_pos k6]
      rcases hbg with ⟨hb, hc⟩ | ⟨hb, hc, hs⟩ <;> rcases hpb with ⟨hs', hc'⟩ | ⟨hs', hc', hz⟩ <;> simp [hb, hc, k1, hg1, hg2, hs', hc', k6]
    rw [if_neg k6]
    simp only [Bool.false_eq_true, false_iff]
    omega
  · rw [dif_neg hr, if_pos (by omega)]
    rfl

theorem filter_succ (h : List Ev) (q : Nat) (p : Ev → Bool) (hq : q < h.length) : (h.take (q + 1)).filter p = (h.take q).filter p ++ if p h[q] = true then [h[q]] else [] := by
  rw [List.take_succ_eq_append_getElem hq, List.filter_append]
  congr 1
  by_cases hp : p h[q] = true
  · rw [if_pos hp, List.filter_cons_of_pos hp]; rfl
  · rw [if_neg hp, List.filter_cons_of_neg hp]; rfl
theorem count_other {h : List Ev} {q n : Nat} {k : Int} (hq : q < h.length) (hx : h[q].tx ≠ n) : countF h (q + 1) k n = countF h q k n := by
  rw [countF_succ h q k n hq, if_neg]
  · rfl
  · rintro ⟨_, h1 | h1⟩
    · omega
    · exact hx h1
theorem count_same {h : List Ev} {q n : Nat} {k : Int} (hq : q < h.length) (hx : h[q].tx = n) : countF h (q + 1) k n = countF h q k n + if h[q].kind = k then 1 else 0 := by
  rw [countF_succ h q k n hq]
  congr 1
  by_cases hk : h[q].kind = k
  · rw [if_pos ⟨hk, .inr hx⟩, if_pos hk]
  · rw [if_neg (fun h => hk h.1), if_neg hk]
theorem TInv.other {h : List Ev} {q n : Nat} {t : TxP} (T : TInv h q n t) (hq : q < h.length) (hx : h[q].tx ≠ n) : TInv h (q + 1) n t := by
  obtain ⟨⟨o, h1, h2, h3, h4, h5, h6⟩, hbg, hpb, hnb, hov, hst⟩ := T
  refine ⟨⟨o, h1, by omega, h3, h4, h5, ?_⟩, ?_, ?_, hnb, ?_, ?_⟩
  · rw [sumF_succ h q n _ hq]
    have e : stepS n (sumF h q n (countF h o 4 (-1))) h[q] = sumF h q n (countF h o 4 (-1)) := by unfold stepS; rw [if_pos hx]
    rw [e]
    exact h6
  · rw [count_other hq hx]; exact hbg
  · rw [count_other hq hx]; exact hpb
  · rw [count_other hq hx, count_other hq hx]; exact hov
  · rw [filter_succ h q _ hq, if_neg (by simp [hx]), List.append_nil]; exact hst
/-- The transaction of the event itself: what must be shown. -/
theorem TInv.own {h : List Ev} {q n : Nat} {t t' : TxP} (T : TInv h q n t) (hq : q < h.length) (hx : h[q].tx = n) (h7 : h[q].kind ≠ 7) (hth : t'.thread = t.thread) (hbe : t'.begun = t.begun)
    (hs : ∀ s : Sum, t.stamp = s.stamp ∧ t.ended = s.ended ∧ t.err = s.err ∧ t.bg = s.met ∧ t.seen = (if t.stamp = 0 then s.seen else t.stamp - 1) →
      t'.stamp = (stepS n s h[q]).stamp ∧ t'.ended = (stepS n s h[q]).ended ∧ t'.err = (stepS n s h[q]).err ∧ t'.bg = (stepS n s h[q]).met ∧ t'.seen = if t'.stamp = 0 then (stepS n s h[q]).seen else t'.stamp - 1)
    (hbg : (t'.bg = true → countF h q 1 n + (if h[q].kind = 1 then 1 else 0) = 1) ∧ (t'.bg = false → countF h q 1 n + (if h[q].kind = 1 then 1 else 0) = 0))
    (hpb : (t'.stamp = 0 → countF h q 4 n + (if h[q].kind = 4 then 1 else 0) = 0) ∧ (t'.stamp ≠ 0 → countF h q 4 n + (if h[q].kind = 4 then 1 else 0) = 1 ∧ 0 < t'.stamp ∧ ∃ o : Nat, firstF h 4 n = (o : Int) ∧ ∃ ho : o < h.length, t'.stamp = h[o].stamp))
    (hnb : t'.bg = false → t'.stamp = 0)
    (hov : t'.ov = true ↔ 0 < (countF h q 6 n + if h[q].kind = 6 then 1 else 0) + (countF h q 5 n + if h[q].kind = 5 then 1 else 0))
    (hst : t'.steps = t.steps ++ if h[q].kind = 2 ∨ h[q].kind = 3 then [h[q]] else []) : TInv h (q + 1) n t' := by
  obtain ⟨⟨o, h1, h2, h3, h4, h5, h6⟩, -, -, -, -, hst0⟩ := T
  refine ⟨⟨o, h1, by omega, h3, by rw [hth]; exact h4, by rw [hbe]; exact h5, ?_⟩, ?_, ?_, hnb, ?_, ?_⟩
  · rw [sumF_succ h q n _ hq]
    exact hs _ h6
  · rw [count_same hq hx]; exact hbg
  · rw [count_same hq hx]; exact hpb
  · rw [count_same hq hx, count_same hq hx]; exact hov
  · rw [filter_succ h q _ hq, hst, hst0]
    congr 1
    by_cases hk : h[q].kind = 2 ∨ h[q].kind = 3
    · rw [if_pos hk, if_pos (by simp [hx, hk])]
    · rw [if_neg hk, if_neg (by simp [hk])]
end Go.Proofs.YtffjcojehiblnaaGreatDoor

/- Histories: one event on; the whole list. -/
namespace Go.Proofs.YtffjcojehiblnaaGreatDoor
set_option linter.unusedVariables false
set_option linter.unusedSimpArgs false

theorem goes_inv {h : List Ev} {q n : Nat} {t t' : TxP} {pub done p d : Nat} (T : TInv h q n t) (hq : q < h.length) (hx : h[q].tx = n) (h7 : h[q].kind ≠ 7) (h1 : h[q].kind ≠ 1) (hbg : t.bg = true) (hov : t.ov = false) (hg : goesF t pub done h[q] = some (t', p, d)) :
    TInv h (q + 1) n t' ∧ p = pub + (if h[q].kind = 4 then 1 else 0) ∧ d = done + if h[q].kind = 5 then 1 else 0 := by
  have hc1 := T.bg.1 hbg
  have hov0 : ¬ 0 < countF h q 6 n + countF h q 5 n := fun hh => by rw [T.ov.2 hh] at hov; cases hov
  have c6 : countF h q 6 n = 0 := by omega
  have c5 : countF h q 5 n = 0 := by omega
  unfold goesF at hg
  by_cases k5 : h[q].kind = 5
  · rw [if_pos k5] at hg
    split at hg
    · cases hg
    · injection hg with hg
      injection hg with e1 e2
      injection e2 with e2 e3
      subst e1 e2 e3
      refine ⟨T.own hq hx h7 rfl rfl ?_ ?_ ?_ ?_ ?_ ?_, by simp [k5], by simp [k5]⟩
      · rintro s ⟨a, b, c, dd, e⟩
        have : stepS n s h[q] = s := by unfold stepS; simp [hx, k5]
        rw [this]
        exact ⟨a, b, c, dd, e⟩
      · simp [k5, hc1, hbg]
      · simp only [k5, show ¬ ((5 : Int) = 4) by decide, if_false, Nat.add_zero]
        exact T.pb
      · intro hh
        rw [hbg] at hh; cases hh
      · simp [k5]; omega
      · simp [k5]
  rw [if_neg k5] at hg
  split at hg
  · cases hg
  rename_i hs
  have hs0 : t.stamp = 0 := Classical.not_not.1 hs
  have hc4 := T.pb.1 hs0
  by_cases k2 : h[q].kind = 2 ∨ h[q].kind = 3
  · rw [if_pos k2] at hg
    split at hg
    · cases hg
    · injection hg with hg
      injection hg with e1 e2
      injection e2 with e2 e3
      subst e1 e2 e3
      have k4 : h[q].kind ≠ 4 := by omega
      have k6 : h[q].kind ≠ 6 := by omega
      refine ⟨T.own hq hx h7 rfl rfl ?_ ?_ ?_ ?_ ?_ ?_, by simp [k4], by simp [k5]⟩
      · rintro s ⟨a, b, c, dd, e⟩
        rw [if_pos hs0] at e
        simp only [hs0, if_true]
        rw [hbg] at dd
        by_cases k22 : h[q].kind = 2
        · have : stepS n s h[q] = { s with seen := if s.met = false ∨ s.seen < h[q].seen then h[q].seen else s.seen, met := true } := by unfold stepS; simp [hx, k22]
          rw [this, if_pos k22]
          simp only
          rw [← dd]
          refine ⟨by rw [← a]; exact hs0.symm, b, c, hbg, ?_⟩
          rw [e]
          simp
          split <;> omega
        · have : stepS n s h[q] = s := by unfold stepS; simp [hx, h1, k22, k4, k6]
          rw [this, if_neg k22]
          exact ⟨by rw [← a]; exact hs0.symm, b, c, by rw [hbg]; exact dd, e⟩
      · simp [h1, hc1, hbg]
      · simp only [k4, if_false, Nat.add_zero]
        exact T.pb
      · intro hh
        rw [hbg] at hh; cases hh
      · simp [k5, k6, c5, c6, hov]
      · simp [k2]
  rw [if_neg k2] at hg
  by_cases k4 : h[q].kind = 4
  · rw [if_pos k4] at hg
    split at hg
    · cases hg
    · rename_i hz
      have hz2 : h[q].stamp = (pub : Int) + 1 := Classical.not_not.1 hz
      injection hg with hg
      injection hg with e1 e2
      injection e2 with e2 e3
      subst e1 e2 e3
      refine ⟨T.own hq hx h7 rfl rfl ?_ ?_ ?_ ?_ ?_ ?_, by simp [k4], by simp [k4]⟩
      · rintro s ⟨a, b, c, dd, e⟩
        have : stepS n s h[q] = { s with stamp := h[q].stamp, ended := h[q].at_ } := by unfold stepS; simp [hx, k4]
        rw [this]
        refine ⟨rfl, rfl, c, dd, ?_⟩
        simp only
        rw [if_neg (by omega)]
      · simp [k4, hc1, hbg]
      · refine ⟨fun hh => absurd hh (by simp only; omega), fun _ => ⟨by rw [hc4, if_pos k4], by simp only; omega, q, ?_, hq, rfl⟩⟩
        refine firstF_eq hq (fun i hi hiq => ?_) ⟨k4, hx⟩
        have := countF_zero hc4 hiq hi
        intro hh
        exact this ⟨hh.1, .inr hh.2⟩
      · intro hh
        rw [hbg] at hh; cases hh
      · simp [k4, c5, c6, hov]
      · simp [k4]
  rw [if_neg k4] at hg
  split at hg
  · rename_i k6
    injection hg with hg
    injection hg with e1 e2
    injection e2 with e2 e3
    subst e1 e2 e3
    refine ⟨T.own hq hx h7 rfl rfl ?_ ?_ ?_ ?_ ?_ ?_, by simp [k6], by simp [k6]⟩
    · rintro s ⟨a, b, c, dd, e⟩
      have : stepS n s h[q] = { s with ended := h[q].at_, err := h[q].err } := by unfold stepS; simp [hx, k6]
      rw [this]
      exact ⟨a, rfl, rfl, dd, e⟩
    · simp [k6, hc1, hbg]
    · simp only [k6, show ¬ ((6 : Int) = 4) by decide, if_false, Nat.add_zero]
      exact T.pb
    · intro hh
      rw [hbg] at hh; cases hh
    · simp [k6]; omega
    · simp [k6]
  · cases hg

theorem HInv.step {h : List Ev} {q : Nat} {b b' : Book} (I : HInv h q b) (hq : q < h.length) (hn : nextF b h[q] = some b') : HInv h (q + 1) b' := by
  have hlast : (evAt h (((q + 1 : Nat) : Int) - 1)) = h[q] := by rw [show ((q + 1 : Nat) : Int) - 1 = (q : Int) by omega]; exact evAt_of hq
  unfold nextF at hn
  split at hn
  · cases hn
  rename_i hat
  have hat2 := I.ats
  by_cases h7 : h[q].kind = 7
  · rw [if_pos h7] at hn
    split at hn
    · cases hn
    rename_i hx
    have hx2 : h[q].tx = b.l.length := Classical.not_not.1 hx
    injection hn with hn
    subst hn
    have hcnt := fun k => countF_succ h q k (-1) hq
    refine ⟨?_, ?_, ?_, ⟨fun h0 => absurd h0 (by omega), fun _ => by rw [hlast]⟩, ?_, ?_, ?_⟩
    · rw [hcnt, if_pos ⟨h7, .inl (by decide)⟩]
      simp [I.len]
    · rw [hcnt, if_neg (by rintro ⟨h, _⟩; omega)]
      exact I.pub
    · rw [hcnt, if_neg (by rintro ⟨h, _⟩; omega)]
      exact I.done
    · intro i hi hiq
      simp only [List.length_append, List.length_cons, List.length_nil]
      rcases Nat.lt_or_eq_of_le (Nat.le_of_lt_succ hiq) with h1 | h1
      · have := I.txs i hi h1; omega
      · subst h1; omega
    · simp only; omega
    · intro n hnl
      simp only [List.length_append, List.length_cons, List.length_nil] at hnl
      by_cases hne : n < b.l.length
      · simp only [List.getElem_append_left hne]
        exact (I.each n hne).other hq (by omega)
      · obtain rfl : n = b.l.length := by omega
        have hnone : ∀ i (hi : i < h.length), i < q → h[i].tx ≠ (b.l.length : Int) := fun i hi hiq => by have := I.txs i hi hiq; omega
        have hcz : ∀ k, countF h q k b.l.length = 0 := by
          intro k
          unfold countF
          rw [List.length_eq_zero_iff, List.filter_eq_nil_iff]
          intro e he
          obtain ⟨i, hi, hhi⟩ := List.mem_take_iff_getElem.1 he
          have hil : i < h.length := by omega
          have := hnone i hil (by omega)
          simp only [isK, decide_eq_true_eq, not_and, not_or]
          intro _
          refine ⟨by omega, ?_⟩
          rw [← hhi]
          exact this
        have hf7 : firstF h 7 b.l.length = (q : Int) := firstF_eq hq (fun i hi hiq hh => hnone i hi hiq hh.2) ⟨h7, hx2⟩
        simp only [List.getElem_concat_length]
        refine ⟨⟨q, hf7, by omega, hq, rfl, rfl, ?_⟩, ?_, ?_, ?_, ?_, ?_⟩
        · rw [sumF_succ h q _ _ hq, sumF_none h _ _ q (by omega) hnone]
          have : stepS (b.l.length : Int) ⟨(countF h q 4 (-1) : Int), 0, -1, 0, false⟩ h[q] = ⟨(countF h q 4 (-1) : Int), 0, -1, 0, false⟩ := by unfold stepS; simp [h7]
          rw [this, ← I.pub]
          simp
        · rw [count_same hq hx2, hcz]; simp [h7]
        · rw [count_same hq hx2, hcz]; simp [h7]
        · simp
        · rw [count_same hq hx2, count_same hq hx2, hcz, hcz]; simp [h7]
        · rw [filter_succ h q _ hq, if_neg (by simp [h7]), List.append_nil]
          symm
          rw [List.filter_eq_nil_iff]
          intro e he
          obtain ⟨i, hi, hhi⟩ := List.mem_take_iff_getElem.1 he
          have hil : i < h.length := by omega
          have := hnone i hil (by omega)
          rw [← hhi]
          simp [this]
  rw [if_neg h7] at hn
  split at hn
  · rename_i hr
    obtain ⟨n, hnx⟩ := Int.eq_ofNat_of_zero_le hr.1
    have hnl : n < b.l.length := by have := hr.2; rw [hnx] at this; simpa using this
    have et : b.l[h[q].tx.toNat]'hr.2 = b.l[n] := by congr 1; rw [hnx]; rfl
    rw [et, show h[q].tx.toNat = n by rw [hnx]; rfl] at hn
    have T := I.each n hnl
    generalize ht : b.l[n] = t at T hn
    have hcnt := fun k => countF_succ h q k (-1) hq
    have hfin : ∀ (t' : TxP) (p d : Nat), TInv h (q + 1) n t' → p = b.pub + (if h[q].kind = 4 then 1 else 0) → d = b.done + (if h[q].kind = 5 then 1 else 0) → HInv h (q + 1) ⟨b.l.set n t', h[q].at_, p, d⟩ := by
      intro t' p d hT hp hd
      refine ⟨?_, ?_, ?_, ⟨fun h0 => absurd h0 (by omega), fun _ => by rw [hlast]⟩, ?_, ?_, ?_⟩
      · rw [hcnt, if_neg (fun hh => h7 hh.1)]
        simpa using I.len
      · rw [hcnt, hp, I.pub]
        congr 1
        by_cases k4 : h[q].kind = 4
        · rw [if_pos k4, if_pos ⟨k4, .inl (by decide)⟩]
        · rw [if_neg k4, if_neg (fun hh => k4 hh.1)]
      · rw [hcnt, hd, I.done]
        congr 1
        by_cases k5 : h[q].kind = 5
        · rw [if_pos k5, if_pos ⟨k5, .inl (by decide)⟩]
        · rw [if_neg k5, if_neg (fun hh => k5 hh.1)]
      · intro i hi hiq
        simp only [List.length_set]
        rcases Nat.lt_or_eq_of_le (Nat.le_of_lt_succ hiq) with h1 | h1
        · exact I.txs i hi h1
        · subst h1; omega
      · simp only; omega
      · intro k hk
        simp only [List.length_set] at hk
        by_cases hkn : n = k
        · subst hkn
          simp only [List.getElem_set_self]
          exact hT
        · simp only [List.getElem_set_ne hkn]
          exact (I.each k hk).other hq (by omega)
    unfold nextT at hn
    split at hn
    · cases hn
    rename_i hbad
    have hov : t.ov = false := by cases hh : t.ov; rfl; exact absurd (.inl hh) hbad
    have hc0 : ¬ 0 < countF h q 6 n + countF h q 5 n := fun hh => by rw [T.ov.2 hh] at hov; cases hov
    by_cases k1 : h[q].kind = 1
    · rw [if_pos k1] at hn
      split at hn
      · cases hn
      rename_i hb
      have hbf : t.bg = false := by cases hh : t.bg; rfl; exact absurd hh hb
      injection hn with hn
      subst hn
      have hs0 := T.nb hbf
      refine hfin _ _ _ (T.own hq hnx h7 rfl rfl ?_ ?_ ?_ ?_ ?_ ?_) (by simp [k1]) (by simp [k1])
      · rintro s ⟨a, b, c, dd, e⟩
        have : stepS n s h[q] = { s with seen := if s.met = false ∨ s.seen < h[q].seen then h[q].seen else s.seen, met := true } := by unfold stepS; simp [hnx, k1]
        rw [this]
        simp only
        rw [hbf] at dd
        rw [← dd]
        refine ⟨a, b, c, trivial, ?_⟩
        rw [if_pos hs0]
        simp
      · simp [k1, T.bg.2 hbf]
      · simp only [k1, show ¬ ((1 : Int) = 4) by decide, if_false, Nat.add_zero]
        exact T.pb
      · intro hh
        cases hh
      · simp [k1, hov]
        omega
      · simp [k1]
    · rw [if_neg k1] at hn
      split at hn
      · rename_i hb
        split at hn
        · cases hn
        · rename_i t' p d hg
          injection hn with hn
          subst hn
          obtain ⟨h1, h2, h3⟩ := goes_inv T hq hnx h7 k1 hb hov hg
          exact hfin t' p d h1 h2 h3
      · cases hn
  · cases hn
end Go.Proofs.YtffjcojehiblnaaGreatDoor

/- Histories: what Txs tells, of both. -/
namespace Go.Proofs.YtffjcojehiblnaaGreatDoor
set_option linter.unusedVariables false
set_option linter.unusedSimpArgs false

/-- A transaction as it is told. -/
structure TxZ where
  thread : Int
  begun : Int
  ended : Int
  stamp : Int
  seen : Int
  err : Int
def TxP.z (t : TxP) : TxZ := ⟨t.thread, t.begun, t.ended, t.stamp, t.seen, t.err⟩
def refTx (h : List Ev) (n : Nat) : TxZ :=
  let o := evAt h (firstF h 7 n)
  let s := sumF h h.length n (countF h (firstF h 7 n).toNat 4 (-1))
  ⟨o.thread, o.at_, s.ended, s.stamp, if 0 < s.stamp then s.stamp - 1 else s.seen, s.err⟩
theorem read_take (h : List Ev) : ∀ q, q ≤ h.length → (∀ i (hi : i < h.length), i < q → mayF h i h[i] = true) → ∃ b, readF book0 0 (h.take q) = .ok b ∧ HInv h q b
  | 0, _, _ => ⟨book0, by simp [readF], HInv.start h⟩
  | q + 1, hq, hm => by
    obtain ⟨b, hb, I⟩ := read_take h q (by omega) fun i hi hiq => hm i hi (by omega)
    have h1 := hm q (by omega) (by omega)
    rw [I.may (by omega)] at h1
    obtain ⟨b', hb'⟩ := Option.isSome_iff_exists.1 h1
    refine ⟨b', ?_, I.step (by omega) hb'⟩
    rw [List.take_succ_eq_append_getElem (by omega), readF_snoc, hb]
    simp only [hb']
theorem readF_append (b : Book) (i : Nat) (l r : List Ev) (k : Nat) (h : readF b i l = .error k) : readF b i (l ++ r) = .error k := by
  induction l generalizing b i with
  | nil => simp [readF] at h
  | cons x l ih =>
    rw [List.cons_append]
    unfold readF at h ⊢
    cases hx : nextF b x with
    | none => rw [hx] at h; exact h
    | some b' => rw [hx] at h; simp only at h ⊢; exact ih b' (i + 1) h
/-- The first event that may not come. -/
theorem read_bad (h : List Ev) (q : Nat) (hq : q < h.length) (hm : ∀ i (hi : i < h.length), i < q → mayF h i h[i] = true) (hb : mayF h q h[q] = false) : readF book0 0 h = .error q := by
  obtain ⟨b, hr, I⟩ := read_take h q (by omega) hm
  rw [I.may hq] at hb
  have hn : nextF b h[q] = none := by cases hx : nextF b h[q]; rfl; rw [hx] at hb; cases hb
  have h1 : readF book0 0 (h.take (q + 1)) = .error q := by
    rw [List.take_succ_eq_append_getElem hq, readF_snoc, hr]
    simp only [hn]
    rw [List.length_take, Nat.min_eq_left (by omega), Nat.zero_add]
  have := readF_append book0 0 (h.take (q + 1)) (h.drop (q + 1)) q h1
  rwa [List.take_append_drop] at this
theorem read_good (h : List Ev) (hm : ∀ i (hi : i < h.length), mayF h i h[i] = true) : ∃ b, readF book0 0 h = .ok b ∧ HInv h h.length b ∧ b.l.length = countF h h.length 7 (-1) ∧ ∀ n (hn : n < b.l.length), (b.l[n]).z = refTx h n := by
  obtain ⟨b, hr, I⟩ := read_take h h.length (Nat.le_refl _) fun i hi _ => hm i hi
  rw [List.take_length] at hr
  refine ⟨b, hr, I, I.len, fun n hn => ?_⟩
  have T := I.each n hn
  generalize b.l[n] = t at T
  obtain ⟨o, h1, h2, h3, h4, h5, h6⟩ := T.op
  have hp := T.pb
  unfold refTx TxP.z
  rw [h1, evAt_of h3, Int.toNat_natCast]
  obtain ⟨a, b', c, d, e⟩ := h6
  simp only
  rw [h4, h5, e, ← a, ← b', ← c]
  congr 1
  by_cases hs : t.stamp = 0
  · rw [if_pos hs, if_neg (by omega)]
  · rw [if_neg hs, if_pos (hp.2 hs).2.1]
end Go.Proofs.YtffjcojehiblnaaGreatDoor
