/- Histories: what Txs tells, of both. -/
import Derived.Test.YtffjcojehiblnaaDoorHr
namespace Go.Proofs.YtffjcojehiblnaaDoor
set_option linter.unusedVariables false
set_option linter.unusedSimpArgs false

/-- A transaction as it is told. -/
structure TxZ where
  thread : Int
  begun : Int
  ended : Int
  stamp : Int
  seen : Int
  err : Int
def TxP.z (t : TxP) : TxZ := ⟨t.thread, t.begun, t.ended, t.stamp, t.seen, t.err⟩
def refTx (h : List Ev) (n : Nat) : TxZ :=
  let o := evAt h (firstF h 7 n)
  let s := sumF h h.length n (countF h (firstF h 7 n).toNat 4 (-1))
  ⟨o.thread, o.at_, s.ended, s.stamp, if 0 < s.stamp then s.stamp - 1 else s.seen, s.err⟩
theorem read_take (h : List Ev) : ∀ q, q ≤ h.length → (∀ i (hi : i < h.length), i < q → mayF h i h[i] = true) → ∃ b, readF book0 0 (h.take q) = .ok b ∧ HInv h q b
  | 0, _, _ => ⟨book0, by simp [readF], HInv.start h⟩
  | q + 1, hq, hm => by
    obtain ⟨b, hb, I⟩ := read_take h q (by omega) fun i hi hiq => hm i hi (by omega)
    have h1 := hm q (by omega) (by omega)
    rw [I.may (by omega)] at h1
    obtain ⟨b', hb'⟩ := Option.isSome_iff_exists.1 h1
    refine ⟨b', ?_, I.step (by omega) hb'⟩
    rw [List.take_succ_eq_append_getElem (by omega), readF_snoc, hb]
    simp only [hb']
theorem readF_append (b : Book) (i : Nat) (l r : List Ev) (k : Nat) (h : readF b i l = .error k) : readF b i (l ++ r) = .error k := by
  induction l generalizing b i with
  | nil => simp [readF] at h
  | cons x l ih =>
    rw [List.cons_append]
    unfold readF at h ⊢
    cases hx : nextF b x with
    | none => rw [hx] at h; exact h
    | some b' => rw [hx] at h; simp only at h ⊢; exact ih b' (i + 1) h
/-- The first event that may not come. -/
theorem read_bad (h : List Ev) (q : Nat) (hq : q < h.length) (hm : ∀ i (hi : i < h.length), i < q → mayF h i h[i] = true) (hb : mayF h q h[q] = false) : readF book0 0 h = .error q := by
  obtain ⟨b, hr, I⟩ := read_take h q (by omega) hm
  rw [I.may hq] at hb
  have hn : nextF b h[q] = none := by cases hx : nextF b h[q]; rfl; rw [hx] at hb; cases hb
  have h1 : readF book0 0 (h.take (q + 1)) = .error q := by
    rw [List.take_succ_eq_append_getElem hq, readF_snoc, hr]
    simp only [hn]
    rw [List.length_take, Nat.min_eq_left (by omega), Nat.zero_add]
  have := readF_append book0 0 (h.take (q + 1)) (h.drop (q + 1)) q h1
  rwa [List.take_append_drop] at this
theorem read_good (h : List Ev) (hm : ∀ i (hi : i < h.length), mayF h i h[i] = true) : ∃ b, readF book0 0 h = .ok b ∧ HInv h h.length b ∧ b.l.length = countF h h.length 7 (-1) ∧ ∀ n (hn : n < b.l.length), (b.l[n]).z = refTx h n := by
  obtain ⟨b, hr, I⟩ := read_take h h.length (Nat.le_refl _) fun i hi _ => hm i hi
  rw [List.take_length] at hr
  refine ⟨b, hr, I, I.len, fun n hn => ?_⟩
  have T := I.each n hn
  generalize b.l[n] = t at T
  obtain ⟨o, h1, h2, h3, h4, h5, h6⟩ := T.op
  have hp := T.pb
  unfold refTx TxP.z
  rw [h1, evAt_of h3, Int.toNat_natCast]
  obtain ⟨a, b', c, d, e⟩ := h6
  simp only
  rw [h4, h5, e, ← a, ← b', ← c]
  congr 1
  by_cases hs : t.stamp = 0
  · rw [if_pos hs, if_neg (by omega)]
  · rw [if_neg hs, if_pos (hp.2 hs).2.1]
end Go.Proofs.YtffjcojehiblnaaDoor
