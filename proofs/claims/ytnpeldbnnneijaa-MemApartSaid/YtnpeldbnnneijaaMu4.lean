/- Both memories, side by side; one call of both. -/
import Derived.Test.YtnpeldbnnneijaaMu3
import Derived.Test.YtnpeldbnnneijaaMarg
namespace Go.Proofs.Ytnpeldbnnneijaa
open Go.RowKit Go.Joins Go.ChangeShapes Go.WideShapes Go.Deep
set_option linter.unusedVariables false
set_option maxRecDepth 100000

def MBlk (b gh gs gc : Nat) (lv : Value) (q : Nat) : Prop := q = b ∨ q = gh ∨ q = gs ∨ q = gc ∨ lv.ownBlock = some q
structure Duo (w : World) (base C R b gh gs gc : Nat) (lv : Value) (m : MS) (rb : Nat) (rlv : Value) (S : Nat → Prop) : Prop where
  p : MIs w base b gh gs gc lv m
  r : RIs w base rb rlv C R m.log
  told : Told (newM C R) m
  sized : Sized m C R
  keys : ∀ x ∈ m.log, isW C R x.k x.i x.j
  sep : ∀ q, MBlk b gh gs gc lv q → ¬ RBlk rb rlv q
  inp : ∀ q, MBlk b gh gs gc lv q → S q
  inr : ∀ q, RBlk rb rlv q → S q
  bd : ∀ q, S q → base ≤ q ∧ q < w.heap.size
def DuoIs (w : World) (base C R b rb n : Nat) (S : Nat → Prop) : Prop := ∃ gh gs gc lv m rlv, Duo w base C R b gh gs gc lv m rb rlv S ∧ m.log.length ≤ n
def DStep (w w' : World) (base C R b rb n : Nat) (S : Nat → Prop) : Prop := ∃ S', DuoIs w' base C R b rb n S' ∧ Frm w w' S ∧ ∀ q, S' q → S q ∨ w.heap.size ≤ q

section
variable {w w' w1 w2 W W1 : World} {base C R b gh gs gc rb n : Nat} {lv lv' rlv rlv2 : Value} {m m' : MS} {S S2 : Nat → Prop}
theorem MIs.keepF (h : MIs w base b gh gs gc lv m) (hk : ∀ q, MBlk b gh gs gc lv q → w'.heap[q]? = w.heap[q]?) : MIs w' base b gh gs gc lv m :=
  ⟨(hk b (.inl rfl)).trans h.blk, (hk gh (.inr (.inl rfl))).trans h.heads, (hk gs (.inr (.inr (.inl rfl)))).trans h.sigs, (hk gc (.inr (.inr (.inr (.inl rfl))))).trans h.cells, own_keep h.log fun q hq => hk q (.inr (.inr (.inr (.inr hq)))), h.ne, h.b0, h.b1, h.b2, h.b3, h.l0, h.l1, h.l2⟩
theorem MIs.inF (h : MIs w base b gh gs gc lv m) {q : Nat} (hq : MBlk b gh gs gc lv q) : base ≤ q ∧ q < w.heap.size := by
  rcases hq with rfl | rfl | rfl | rfl | hq
  · exact ⟨h.b0, h.blk.lt⟩
  · exact ⟨h.b1, h.heads.lt⟩
  · exact ⟨h.b2, h.sigs.lt⟩
  · exact ⟨h.b3, h.cells.lt⟩
  · exact h.log.lt q hq
theorem Duo.frm (h : Duo w base C R b gh gs gc lv m rb rlv S) (hF : Frm w w' S2) (hs : ∀ q, S q → ¬ S2 q) : Duo w' base C R b gh gs gc lv m rb rlv S :=
  ⟨h.p.keepF fun q hq => hF.block q (h.bd q (h.inp q hq)).2 (hs q (h.inp q hq)), h.r.keep fun q hq => hF.block q (h.bd q (h.inr q hq)).2 (hs q (h.inr q hq)), h.told, h.sized, h.keys, h.sep, h.inp, h.inr, fun q hq => ⟨(h.bd q hq).1, Nat.lt_of_lt_of_le (h.bd q hq).2 hF.size⟩⟩
theorem Duo.below (h : Duo w base C R b gh gs gc lv m rb rlv S) (hb : Below w.heap.size w w') : Duo w' base C R b gh gs gc lv m rb rlv S :=
  h.frm (S2 := fun _ => False) (Frm.of_below hb) fun _ _ => id
theorem DuoIs.frm (h : DuoIs w base C R b rb n S) (hF : Frm w w' S2) (hs : ∀ q, S q → ¬ S2 q) : DuoIs w' base C R b rb n S := by
  obtain ⟨gh, gs, gc, lv, m, rlv, hD, hn⟩ := h
  exact ⟨gh, gs, gc, lv, m, rlv, hD.frm hF hs, hn⟩
theorem DStep.same {n' : Nat} (h : Duo w base C R b gh gs gc lv m rb rlv S) (hn : m.log.length ≤ n') (hb : Below w.heap.size w w') : DStep w w' base C R b rb n' S :=
  ⟨S, ⟨gh, gs, gc, lv, m, rlv, h.below hb, hn⟩, Frm.of_below hb, fun _ h => .inl h⟩
theorem MFrame.frm (h : MFrame w w' b gh gs gc lv lv') : Frm w w' (MBlk b gh gs gc lv) :=
  ⟨h.os, h.tape, h.output, h.size, fun q hq hn => h.block q hq (fun e => hn (.inl e)) (fun e => hn (.inr (.inl e))) (fun e => hn (.inr (.inr (.inl e)))) (fun e => hn (.inr (.inr (.inr (.inl e))))) (fun e => hn (.inr (.inr (.inr (.inr e)))))⟩
theorem setAt_sized {v : Int} (h : Sized m C R) (k i j : Int) : Sized (setAt m k i j v) C R := by
  obtain ⟨h1, h2, h3⟩ := h
  unfold setAt
  split
  · exact ⟨h1, h2, h3⟩
  · split
    · exact ⟨by simpa using h1, h2, h3⟩
    · split
      · exact ⟨h1, by simpa using h2, h3⟩
      · exact ⟨h1, h2, by simpa using h3⟩
theorem withLog_sized (h : Sized m C R) (x : Acc) : Sized (withLog m x) C R := ⟨h.heads, h.sigs, h.cells⟩
/-- Behind the program's access: the document's memory is as it was. -/
theorem Duo.mid (h : Duo w base C R b gh gs gc lv m rb rlv S) (hb : Below w.heap.size w W) (hF : MFrame W w1 b gh gs gc lv lv') : RIs w1 base rb rlv C R m.log ∧ Frm w w1 (MBlk b gh gs gc lv) := by
  have f := (Frm.of_below (S := MBlk b gh gs gc lv) hb).trans hF.frm fun q hq => .inl hq
  exact ⟨h.r.keep fun q hq => f.block q (h.bd q (h.inr q hq)).2 fun hm => h.sep q hm hq, f⟩
/-- Both have accessed. -/
theorem Duo.done {x : Acc} (h : Duo w base C R b gh gs gc lv m rb rlv S) (hb : Below w.heap.size w W) (hF : MFrame W w1 b gh gs gc lv lv') (h1 : MIs w1 base b gh gs gc lv' m') (hl : m'.log = m.log ++ [x]) (ht : Told (newM C R) m') (hs : Sized m' C R) (hx : isW C R x.k x.i x.j)
    (hF2 : Frm w1 w2 (RBlk rb rlv)) (h2 : RIs w2 base rb rlv2 C R (m.log ++ [x])) (hn2 : ∀ q, RBlk rb rlv2 q → RBlk rb rlv q ∨ w1.heap.size ≤ q) (hn : m.log.length ≤ n) (hbase : base ≤ w.heap.size) : DStep w w2 base C R b rb (n + 1) S := by
  obtain ⟨_, f1⟩ := h.mid hb hF
  have s1 := f1.size
  have s2 := hF2.size
  have hW := hb.size
  have hnew1 : ∀ q, MBlk b gh gs gc lv' q → MBlk b gh gs gc lv q ∨ w.heap.size ≤ q := by
    rintro q (e | e | e | e | e)
    · exact .inl (.inl e)
    · exact .inl (.inr (.inl e))
    · exact .inl (.inr (.inr (.inl e)))
    · exact .inl (.inr (.inr (.inr (.inl e))))
    · rcases hF.own with h' | ⟨g, h', hg⟩
      · exact .inl (.inr (.inr (.inr (.inr (h' ▸ e)))))
      · rw [h'] at e
        injection e with e
        exact .inr (by omega)
  have hr1 : ∀ q, RBlk rb rlv q → q < w.heap.size := fun q hq => (h.bd q (h.inr q hq)).2
  have hp2 : MIs w2 base b gh gs gc lv' m' := h1.keepF fun q hq => hF2.block q (h1.inF hq).2 fun hr => by
    rcases hnew1 q hq with e | e
    · exact h.sep q e hr
    · have := hr1 q hr; omega
  refine ⟨fun q => S q ∨ (w.heap.size ≤ q ∧ q < w2.heap.size), ⟨gh, gs, gc, lv', m', rlv2, ⟨hp2, by rw [hl]; exact h2, ht, hs, ?_, ?_, ?_, ?_, ?_⟩, by rw [hl, List.length_append]; simp; omega⟩, ?_, ?_⟩
  · rw [hl]
    intro y hy
    rcases List.mem_append.1 hy with hy | hy
    · exact h.keys y hy
    · simp at hy
      subst hy
      exact hx
  · intro q hq hr
    rcases hnew1 q hq with e | e
    · rcases hn2 q hr with e' | e'
      · exact h.sep q e e'
      · have := (h.bd q (h.inp q e)).2; omega
    · rcases hn2 q hr with e' | e'
      · have := hr1 q e'; omega
      · have := (h1.inF hq).2; omega
  · intro q hq
    rcases hnew1 q hq with e | e
    · exact .inl (h.inp q e)
    · exact .inr ⟨e, (hp2.inF hq).2⟩
  · intro q hq
    rcases hn2 q hq with e | e
    · exact .inl (h.inr q e)
    · exact .inr ⟨by omega, (h2.in_ hq).2⟩
  · rintro q (hq | hq)
    · exact ⟨(h.bd q hq).1, by have := (h.bd q hq).2; omega⟩
    · exact ⟨by omega, hq.2⟩
  · exact (f1.mono fun q hq => h.inp q hq).trans (hF2.mono fun q hq => h.inr q hq) fun q hq => .inl hq
  · rintro q (hq | hq)
    · exact .inl hq
    · exact .inr hq.1
end

/-- Whether an address has a word; what the word is. -/
theorem Duo.word_or {w : World} {base C R b gh gs gc rb : Nat} {lv rlv : Value} {m : MS} {S : Nat → Prop} (h : Duo w base C R b gh gs gc lv m rb rlv S) (k i j : Int) :
    (wordAt m k i j = none ∧ ¬ isW C R k i j) ∨ ∃ V, wordAt m k i j = some V ∧ isW C R k i j ∧ V = lastW k i j m.log (begun k) := by
  have hi := h.sized.is_ k i j
  cases hw : wordAt m k i j with
  | none => exact .inl ⟨rfl, fun hh => by have := hi.2 hh; rw [hw] at this; simp at this⟩
  | some V => exact .inr ⟨V, rfl, hi.1 (by rw [hw]; rfl), word_log h.told h.sized hw⟩
end Go.Proofs.Ytnpeldbnnneijaa
