/- A book of transactions in memory; what stays of it when other blocks are written. -/
import Derived.Test.YtffjcojehiblnaaDoorHm
import Derived.Deep.AppendLies
import Derived.Deep.RegionWith
namespace Go.Proofs.YtffjcojehiblnaaDoor
open Go.RowKit Go.Joins Go.ChangeShapes Go.WideShapes Go.Deep
set_option linter.unusedVariables false
set_option linter.unusedSimpArgs false
set_option maxRecDepth 100000

structure Frm (w w' : World) (S : Nat → Prop) : Prop where
  os : w'.os = w.os
  tape : w'.tape = w.tape
  output : w'.output = w.output
  size : w.heap.size ≤ w'.heap.size
  block : ∀ q, q < w.heap.size → ¬ S q → w'.heap[q]? = w.heap[q]?
theorem Frm.refl (w : World) (S : Nat → Prop) : Frm w w S := ⟨rfl, rfl, rfl, Nat.le_refl _, fun _ _ _ => rfl⟩
theorem Frm.of_below {w w' : World} {S : Nat → Prop} (h : Below w.heap.size w w') : Frm w w' S := ⟨h.os, h.tape, h.output, h.size, fun q hq _ => h.block q hq⟩
theorem Frm.mono {w w' : World} {S S' : Nat → Prop} (h : Frm w w' S) (hs : ∀ q, S q → S' q) : Frm w w' S' := ⟨h.os, h.tape, h.output, h.size, fun q hq hS => h.block q hq fun hh => hS (hs q hh)⟩
theorem Frm.trans {w w1 w2 : World} {S : Nat → Prop} {S' : Nat → Prop} (h : Frm w w1 S) (k : Frm w1 w2 S') (hs : ∀ q, S' q → S q ∨ w.heap.size ≤ q) : Frm w w2 S :=
  ⟨k.os.trans h.os, k.tape.trans h.tape, k.output.trans h.output, Nat.le_trans h.size k.size, fun q hq hS => (k.block q (Nat.lt_of_lt_of_le hq h.size) fun hh => by
    rcases hs q hh with h1 | h1
    · exact hS h1
    · omega).trans (h.block q hq hS)⟩
theorem Frm.below {w w' : World} {S : Nat → Prop} {B : Nat} (h : Frm w w' S) (hB : B ≤ w.heap.size) (hs : ∀ q, S q → B ≤ q) : Below B w w' :=
  ⟨h.os, h.tape, h.output, h.size, fun q hq => h.block q (by omega) fun hh => by have := hs q hh; omega⟩
theorem Frm.drewN {w w' : World} {S : Nat → Prop} (h : Frm w w' S) (n : Nat) : Frm w (w'.drewN n) S := ⟨h.os, h.tape, h.output, h.size, h.block⟩
theorem Frm.drew {w w' : World} {S : Nat → Prop} (h : Frm w w' S) : Frm w w'.drew S := ⟨h.os, h.tape, h.output, h.size, h.block⟩
theorem Frm.alloc {w w' : World} {S : Nat → Prop} (h : Frm w w' S) (o : Obj) : Frm w (w'.alloc o) S := h.trans (Frm.of_below (S := S) (Below.alloc (Below.refl _ _) (Nat.le_refl _) o)) fun q hq => .inl hq
theorem Frm.set {w w' : World} {S : Nat → Prop} (h : Frm w w' S) (b i : Nat) (u : Value) (hb : S b ∨ w.heap.size ≤ b) : Frm w (w'.setCell ⟨b, i, none⟩ u) S :=
  h.trans (S' := fun q => q = b) (Below.setCell (Below.refl b w') (Nat.le_refl b) u |> fun k => ⟨k.os, k.tape, k.output, k.size, fun q hq hn => Below.heap_setCell w' ⟨b, i, none⟩ u q hn⟩) fun q hq => by subst hq; exact hb
theorem Frm.grown {w w1 w2 : World} {S : Nat → Prop} {row : Option Nat} (h : Frm w w1 S) (k : w1.grownBy w2 row) (hr : ∀ q, row = some q → S q ∨ w.heap.size ≤ q) : Frm w w2 S :=
  h.trans (S' := fun q => row = some q) ⟨k.os, k.tape, k.output, k.size, fun q hq hn => k.block q hq (fun e => hn e.symm)⟩ hr
theorem own_keep {w w' : World} {base : Nat} {e : TypeId} {size n : Nat} {v : Value} {xs : List Value} (h : w.ownsRow base e size v n xs) (hk : ∀ b, v.ownBlock = some b → w'.heap[b]? = w.heap[b]?) : w'.ownsRow base e size v n xs := by
  refine ⟨h.1, ?_⟩
  rcases h.2 with h0 | ⟨g, cap, cur, hv, hb, hg, r⟩
  · exact .inl h0
  · exact .inr ⟨g, cap, cur, hv, hb, (hk g (by rw [hv]; rfl)).trans hg, r⟩
theorem own_drewN {w : World} {B e n size k : Nat} {v : Value} {xs : List Value} (h : w.ownsRow B e size v n xs) : (w.drewN k).ownsRow B e size v n xs := h
theorem own_shapes {w : World} {B e n size : Nat} {v : Value} {xs : List Value} (h : w.ownsRow B e size v n xs) : ∃ R c, v = .slice R n c ∧ n ≤ c ∧ Reads w w.heap.size size R n xs := by
  have h0 := h
  rcases h.2 with ⟨rfl, rfl⟩ | ⟨g, cap, cur, rfl, _, _, hnc, _⟩
  · exact ⟨none, 0, rfl, Nat.le_refl _, Reads.of_own h0⟩
  · exact ⟨_, cap, rfl, hnc, Reads.of_own h0⟩
theorem own_blk {w : World} {base : Nat} {e : TypeId} {size n : Nat} {v : Value} {xs : List Value} (h : w.ownsRow base e size v n xs) {b : Nat} (hb : v.ownBlock = some b) : ∃ cs, Blk w b e cs := by
  rcases h.2 with ⟨rfl, _⟩ | ⟨g, cap, cur, rfl, _, hg, _⟩
  · cases hb
  · injection hb with hb
    subst hb
    exact ⟨cur, hg⟩
theorem own_set {w : World} {base : Nat} {e t : TypeId} {size n b i : Nat} {v : Value} {xs : List Value} {cs : Array Value} (h : w.ownsRow base e size v n xs) (hb : Blk w b t cs) (hne : e ≠ t) (u : Value) : (w.setCell ⟨b, i, none⟩ u).ownsRow base e size v n xs := by
  refine own_keep h fun q hq => ?_
  obtain ⟨cs', hc⟩ := own_blk h hq
  exact Below.heap_setCell w ⟨b, i, none⟩ u q (hc.ne_ hb hne)

/-! ### A transaction -/
structure TxM where
  t : TxP
  g : Nat
  sv : Value
def TxM.cells (x : TxM) : Array Value := #[.int .i64 x.t.thread, .int .i64 x.t.begun, .int .i64 x.t.ended, .int .i64 x.t.stamp, .int .i64 x.t.seen, .int .i64 x.t.err, .bool x.t.bg, .bool x.t.ov, x.sv]
structure TxAt (w : World) (base : Nat) (x : TxM) : Prop where
  blk : Blk w x.g 61 x.cells
  lo : base ≤ x.g
  steps : w.ownsRow base 35 19 x.sv x.t.steps.length (evs x.t.steps)
def TxBlk (x : TxM) (q : Nat) : Prop := q = x.g ∨ x.sv.ownBlock = some q
theorem TxAt.keep {w w' : World} {base : Nat} {x : TxM} (h : TxAt w base x) (hk : ∀ q, TxBlk x q → w'.heap[q]? = w.heap[q]?) : TxAt w' base x :=
  ⟨(hk _ (.inl rfl)).trans h.blk, h.lo, own_keep h.steps fun q hq => hk q (.inr hq)⟩
theorem TxAt.lt {w : World} {base : Nat} {x : TxM} (h : TxAt w base x) {q : Nat} (hq : TxBlk x q) : base ≤ q ∧ q < w.heap.size := by
  rcases hq with rfl | hq
  · exact ⟨h.lo, h.blk.lt⟩
  · exact h.steps.lt q hq
theorem TxAt.drewN {w : World} {base : Nat} {x : TxM} (h : TxAt w base x) (n : Nat) : TxAt (w.drewN n) base x := ⟨h.blk, h.lo, h.steps⟩
theorem TxAt.drew {w : World} {base : Nat} {x : TxM} (h : TxAt w base x) : TxAt w.drew base x := ⟨h.blk, h.lo, h.steps⟩
theorem TxAt.alloc {w : World} {base : Nat} {x : TxM} (h : TxAt w base x) (o : Obj) : TxAt (w.alloc o) base x := ⟨h.blk.alloc o, h.lo, h.steps.alloc o⟩
theorem TxAt.frm {w w' : World} {base : Nat} {x : TxM} {S : Nat → Prop} (h : TxAt w base x) (hF : Frm w w' S) (hn : ∀ q, TxBlk x q → ¬ S q) : TxAt w' base x := h.keep fun q hq => hF.block q (h.lt hq).2 (hn q hq)
theorem TxAt.set_ {w : World} {base : Nat} {x : TxM} (h : TxAt w base x) (i : Nat) (u : Value) (t' : TxP) (hc : x.cells.setIfInBounds i u = TxM.cells ⟨t', x.g, x.sv⟩) (hs : t'.steps = x.t.steps) : TxAt (w.setCell ⟨x.g, i, none⟩ u) base ⟨t', x.g, x.sv⟩ :=
  ⟨hc ▸ h.blk.set_ i u, h.lo, by show World.ownsRow _ base _ 19 x.sv t'.steps.length (evs t'.steps); rw [hs]; exact own_set h.steps h.blk (by decide) u⟩
theorem TxAt.far {w : World} {base b i : Nat} {x : TxM} {cs : Array Value} (h : TxAt w base x) (hb : Blk w b 76 cs) (u : Value) : TxAt (w.setCell ⟨b, i, none⟩ u) base x :=
  ⟨h.blk.far (p := ⟨b, i, none⟩) (h.blk.ne_ hb (by decide)) u, h.lo, own_set h.steps hb (by decide) u⟩

/-! ### A book -/
structure BookAt (w : World) (base s : Nat) (lv : Value) (b : Book) (l : List TxM) : Prop where
  blk : Blk w s 76 #[lv, .int .i64 b.at_, .int .i64 b.pub, .int .i64 b.done]
  lo : base ≤ s
  eq : l.map TxM.t = b.l
  row : w.ownsRow base 59 1 lv l.length (l.map fun x => .pointer (some ⟨x.g, 0, none⟩))
  txs : ∀ x ∈ l, TxAt w base x
  gs : l.Pairwise fun x y => x.g ≠ y.g
  ss : l.Pairwise fun x y => ∀ q, x.sv.ownBlock = some q → y.sv.ownBlock ≠ some q
def BookBlk (s : Nat) (lv : Value) (l : List TxM) (q : Nat) : Prop := q = s ∨ lv.ownBlock = some q ∨ ∃ x ∈ l, TxBlk x q
theorem BookAt.lt {w : World} {base s : Nat} {lv : Value} {b : Book} {l : List TxM} (h : BookAt w base s lv b l) {q : Nat} (hq : BookBlk s lv l q) : base ≤ q ∧ q < w.heap.size := by
  rcases hq with rfl | hq | ⟨x, hx, hq⟩
  · exact ⟨h.lo, h.blk.lt⟩
  · exact h.row.lt q hq
  · exact (h.txs x hx).lt hq
theorem BookAt.keep {w w' : World} {base s : Nat} {lv : Value} {b : Book} {l : List TxM} (h : BookAt w base s lv b l) (hk : ∀ q, BookBlk s lv l q → w'.heap[q]? = w.heap[q]?) : BookAt w' base s lv b l :=
  ⟨(hk _ (.inl rfl)).trans h.blk, h.lo, h.eq, own_keep h.row fun q hq => hk q (.inr (.inl hq)), fun x hx => (h.txs x hx).keep fun q hq => hk q (.inr (.inr ⟨x, hx, hq⟩)), h.gs, h.ss⟩
theorem BookAt.drewN {w : World} {base s : Nat} {lv : Value} {b : Book} {l : List TxM} (h : BookAt w base s lv b l) (n : Nat) : BookAt (w.drewN n) base s lv b l := h.keep fun _ _ => rfl
theorem BookAt.alloc {w : World} {base s : Nat} {lv : Value} {b : Book} {l : List TxM} (h : BookAt w base s lv b l) (o : Obj) : BookAt (w.alloc o) base s lv b l := h.keep fun q hq => Below.heap_alloc w o q (h.lt hq).2
theorem BookAt.below {w w' : World} {base s B : Nat} {lv : Value} {b : Book} {l : List TxM} (h : BookAt w base s lv b l) (hb : Below B w w') (hB : w.heap.size ≤ B) : BookAt w' base s lv b l := h.keep fun q hq => hb.block q (by have := (h.lt hq).2; omega)
/-- A cell of the book's block is written, not the list. -/
theorem BookAt.set_ {w : World} {base s : Nat} {lv : Value} {b : Book} {l : List TxM} (h : BookAt w base s lv b l) (i : Nat) (u : Value) (b' : Book) (hc : (#[lv, .int .i64 b.at_, .int .i64 b.pub, .int .i64 b.done] : Array Value).setIfInBounds i u = #[lv, .int .i64 b'.at_, .int .i64 b'.pub, .int .i64 b'.done]) (hl : b'.l = b.l) : BookAt (w.setCell ⟨s, i, none⟩ u) base s lv b' l :=
  ⟨hc ▸ h.blk.set_ i u, h.lo, h.eq.trans hl.symm, own_set h.row h.blk (by decide) u, fun x hx => (h.txs x hx).far h.blk u, h.gs, h.ss⟩
theorem BookAt.len {w : World} {base s : Nat} {lv : Value} {b : Book} {l : List TxM} (h : BookAt w base s lv b l) : b.l.length = l.length := by rw [← h.eq, List.length_map]
theorem BookAt.nth {w : World} {base s : Nat} {lv : Value} {b : Book} {l : List TxM} (h : BookAt w base s lv b l) {n : Nat} (hn : n < b.l.length) : l[n]?.map TxM.t = some b.l[n] := by
  rw [← List.getElem?_map, h.eq, List.getElem?_eq_getElem hn]
end Go.Proofs.YtffjcojehiblnaaDoor
