/- Frames with blocks that may be written; what a list of the call's own keeps. -/
import Derived.Test.YthghnihlfdoefaaDoorKit
import Derived.Test.YthghnihlfdoefaaDoorRw
namespace Go.Proofs.YthghnihlfdoefaaDoor
open Go.RowKit Go.Joins Go.ChangeShapes Go.WideShapes Go.Deep
set_option linter.unusedVariables false
set_option linter.unusedSimpArgs false
set_option maxRecDepth 100000

structure Frm (w w' : World) (S : Nat → Prop) : Prop where
  os : w'.os = w.os
  tape : w'.tape = w.tape
  output : w'.output = w.output
  size : w.heap.size ≤ w'.heap.size
  block : ∀ q, q < w.heap.size → ¬ S q → w'.heap[q]? = w.heap[q]?
theorem Frm.refl (w : World) (S : Nat → Prop) : Frm w w S := ⟨rfl, rfl, rfl, Nat.le_refl _, fun _ _ _ => rfl⟩
theorem Frm.of_below {w w' : World} {S : Nat → Prop} (h : Below w.heap.size w w') : Frm w w' S := ⟨h.os, h.tape, h.output, h.size, fun q hq _ => h.block q hq⟩
theorem Frm.mono {w w' : World} {S S' : Nat → Prop} (h : Frm w w' S) (hs : ∀ q, S q → S' q) : Frm w w' S' := ⟨h.os, h.tape, h.output, h.size, fun q hq hS => h.block q hq fun hh => hS (hs q hh)⟩
theorem Frm.trans {w w1 w2 : World} {S : Nat → Prop} {S' : Nat → Prop} (h : Frm w w1 S) (k : Frm w1 w2 S') (hs : ∀ q, S' q → S q ∨ w.heap.size ≤ q) : Frm w w2 S :=
  ⟨k.os.trans h.os, k.tape.trans h.tape, k.output.trans h.output, Nat.le_trans h.size k.size, fun q hq hS => (k.block q (Nat.lt_of_lt_of_le hq h.size) fun hh => by
    rcases hs q hh with h1 | h1
    · exact hS h1
    · omega).trans (h.block q hq hS)⟩
theorem Frm.below {w w' : World} {S : Nat → Prop} {B : Nat} (h : Frm w w' S) (hB : B ≤ w.heap.size) (hs : ∀ q, S q → B ≤ q) : Below B w w' :=
  ⟨h.os, h.tape, h.output, h.size, fun q hq => h.block q (by omega) fun hh => by have := hs q hh; omega⟩
theorem Frm.drewN {w w' : World} {S : Nat → Prop} (h : Frm w w' S) (n : Nat) : Frm w (w'.drewN n) S := ⟨h.os, h.tape, h.output, h.size, h.block⟩
theorem Frm.drew {w w' : World} {S : Nat → Prop} (h : Frm w w' S) : Frm w w'.drew S := ⟨h.os, h.tape, h.output, h.size, h.block⟩
theorem Frm.alloc {w w' : World} {S : Nat → Prop} (h : Frm w w' S) (o : Obj) : Frm w (w'.alloc o) S := h.trans (Frm.of_below (S := S) (Below.alloc (Below.refl _ _) (Nat.le_refl _) o)) fun q hq => .inl hq
theorem Frm.set {w w' : World} {S : Nat → Prop} (h : Frm w w' S) (b i : Nat) (u : Value) (hb : S b ∨ w.heap.size ≤ b) : Frm w (w'.setCell ⟨b, i, none⟩ u) S :=
  h.trans (S' := fun q => q = b) (Below.setCell (Below.refl b w') (Nat.le_refl b) u |> fun k => ⟨k.os, k.tape, k.output, k.size, fun q hq hn => Below.heap_setCell w' ⟨b, i, none⟩ u q hn⟩) fun q hq => by subst hq; exact hb
theorem Frm.grown {w w1 w2 : World} {S : Nat → Prop} {row : Option Nat} (h : Frm w w1 S) (k : w1.grownBy w2 row) (hr : ∀ q, row = some q → S q ∨ w.heap.size ≤ q) : Frm w w2 S :=
  h.trans (S' := fun q => row = some q) ⟨k.os, k.tape, k.output, k.size, fun q hq hn => k.block q hq (fun e => hn e.symm)⟩ hr
theorem own_keep {w w' : World} {base : Nat} {e : TypeId} {size n : Nat} {v : Value} {xs : List Value} (h : w.ownsRow base e size v n xs) (hk : ∀ b, v.ownBlock = some b → w'.heap[b]? = w.heap[b]?) : w'.ownsRow base e size v n xs := by
  refine ⟨h.1, ?_⟩
  rcases h.2 with h0 | ⟨g, cap, cur, hv, hb, hg, r⟩
  · exact .inl h0
  · exact .inr ⟨g, cap, cur, hv, hb, (hk g (by rw [hv]; rfl)).trans hg, r⟩
theorem own_drewN {w : World} {B e n size k : Nat} {v : Value} {xs : List Value} (h : w.ownsRow B e size v n xs) : (w.drewN k).ownsRow B e size v n xs := h
theorem own_shapes {w : World} {B e n size : Nat} {v : Value} {xs : List Value} (h : w.ownsRow B e size v n xs) : ∃ R c, v = .slice R n c ∧ n ≤ c ∧ Reads w w.heap.size size R n xs := by
  have h0 := h
  rcases h.2 with ⟨rfl, rfl⟩ | ⟨g, cap, cur, rfl, _, _, hnc, _⟩
  · exact ⟨none, 0, rfl, Nat.le_refl _, Reads.of_own h0⟩
  · exact ⟨_, cap, rfl, hnc, Reads.of_own h0⟩
theorem own_blk {w : World} {base : Nat} {e : TypeId} {size n : Nat} {v : Value} {xs : List Value} (h : w.ownsRow base e size v n xs) {b : Nat} (hb : v.ownBlock = some b) : ∃ cs, Blk w b e cs := by
  rcases h.2 with ⟨rfl, _⟩ | ⟨g, cap, cur, rfl, _, hg, _⟩
  · cases hb
  · injection hb with hb
    subst hb
    exact ⟨cur, hg⟩
theorem own_set {w : World} {base : Nat} {e t : TypeId} {size n b i : Nat} {v : Value} {xs : List Value} {cs : Array Value} (h : w.ownsRow base e size v n xs) (hb : Blk w b t cs) (hne : e ≠ t) (u : Value) : (w.setCell ⟨b, i, none⟩ u).ownsRow base e size v n xs := by
  refine own_keep h fun q hq => ?_
  obtain ⟨cs', hc⟩ := own_blk h hq
  exact Below.heap_setCell w ⟨b, i, none⟩ u q (hc.ne_ hb hne)

theorem own_ne {w : World} {B1 B2 n1 n2 s1 s2 : Nat} {t1 t2 : TypeId} {v1 v2 : Value} {x1 x2 : List Value} (h1 : w.ownsRow B1 t1 s1 v1 n1 x1) (h2 : w.ownsRow B2 t2 s2 v2 n2 x2) (ht : t1 ≠ t2) {q : Nat} (hq : v1.ownBlock = some q) : v2.ownBlock ≠ some q := fun hh => by
  obtain ⟨c1, hc1⟩ := own_blk h1 hq
  obtain ⟨c2, hc2⟩ := own_blk h2 hh
  exact (hc1.ne_ hc2 ht) rfl
theorem own_ne_blk {w : World} {B1 n1 s1 b : Nat} {t1 t2 : TypeId} {v1 : Value} {x1 : List Value} {cs : Array Value} (h1 : w.ownsRow B1 t1 s1 v1 n1 x1) (h2 : Blk w b t2 cs) (ht : t1 ≠ t2) : v1.ownBlock ≠ some b := fun hh => by
  obtain ⟨c1, hc1⟩ := own_blk h1 hh
  exact (hc1.ne_ h2 ht) rfl
theorem own_beb {w w' : World} {B e size n : Nat} {v : Value} {xs : List Value} (h : w.ownsRow B e size v n xs) (hb : Below w.heap.size w w') : w'.ownsRow B e size v n xs := own_keep h fun q hq => hb.block q (h.lt q hq).2
theorem own_lower {w : World} {B B' e size n : Nat} {v : Value} {xs : List Value} (h : w.ownsRow B e size v n xs) (hB : B' ≤ B) : w.ownsRow B' e size v n xs :=
  ⟨h.1, h.2.imp id fun ⟨g, cap, cur, a, b, r⟩ => ⟨g, cap, cur, a, by omega, r⟩⟩
theorem wpList_slice_g {P : Program} {ops : Array Oper} {rest : List Oper} {o : Oper} {a : Act} {Q : Exit → Act → World → Prop} {w : World} {u v : Value} {lv hv : Option Value} (hgd : o.guard = none) (t : TypeId) (x : Operand) (lo hi : Option Operand)
    (ho : o.op = .slice t x lo hi none) (hx : a.eval x = u) (hlo : lo.map a.eval = lv) (hhi : hi.map a.eval = hv) (hrun : ∀ w, (Instr.sliceAt t u lv hv none).run P w = .ok v w)
    (h : wpList P ops Q rest (a.put o.dst v) w) : wpList P ops Q (o :: rest) a w := by
  refine wpList_plain hgd fun K hK => ?_
  unfold Oper.wp
  simp only [execOp, ho, hx, hlo, hhi, Option.map_none, Sem.run_bind, hrun, Sem.run_pure, Result.andThen_ok]
  exact hK _ _ h
theorem below_grown {B n size : Nat} {e : TypeId} {v : Value} {xs : List Value} {W w2 : World} (h : W.ownsRow B e size v n xs) (hg : W.grownBy w2 v.ownBlock) (hB : B ≤ W.heap.size) : Below B W w2 :=
  ((Frm.refl W (fun q => v.ownBlock = some q)).grown hg (fun q h => .inl h)).below hB fun q hq => (h.lt q hq).1
end Go.Proofs.YthghnihlfdoefaaDoor
