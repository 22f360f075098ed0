/- Events in memory; a list of events that came in. -/
import Derived.Test.YtffjcojehiblnaaGreatDoorRo
import Derived.Test.YtffjcojehiblnaaGreatDoorPa
import Derived.Deep.AppendLies
import Derived.Deep.RegionWith
namespace Go.Proofs.YtffjcojehiblnaaGreatDoor
open Go.RowKit Go.Joins Go.ChangeShapes Go.WideShapes Go.ChangeAt Go.Deep
set_option linter.unusedVariables false
set_option linter.unusedSimpArgs false
set_option maxRecDepth 100000

def Ev.cells (e : Ev) : List Value := [.int .i64 e.at_, .int .i64 e.thread, .int .i64 e.tx, .int .i64 e.kind, .int .i64 e.cell, .int .i64 e.value, .bool e.own, .int .i64 e.start, .int .i64 e.seen, .int .i64 e.stamp,
  .int .u64 e.s0, .int .u64 e.s1, .int .u64 e.s2, .int .u64 e.s3, .int .u64 e.s4, .int .u64 e.s5, .int .u64 e.s6, .int .u64 e.s7, .int .i64 e.err]
def evs (l : List Ev) : List Value := rows Ev.cells l
theorem evs_length (l : List Ev) : (evs l).length = l.length * 19 := rows_length Ev.cells 19 (fun _ => rfl) l
theorem evs_at (l : List Ev) (n t : Nat) (h : n < l.length) (ht : t < 19) : (evs l)[n * 19 + t]? = (l[n].cells)[t]? := rows_at Ev.cells 19 (fun _ => rfl) l n t h ht

theorem hco_int : Tryz.prog.cellsOf 3 = 1 := by kernel_rfl
theorem hco_i64 : Tryz.prog.cellsOf 2 = 1 := by kernel_rfl
theorem hco_bool : Tryz.prog.cellsOf 4 = 1 := by kernel_rfl
theorem hco_sig : Tryz.prog.cellsOf 41 = 8 := by kernel_rfl
theorem hco_u64 : Tryz.prog.cellsOf 39 = 1 := by kernel_rfl
theorem hco_err : Tryz.prog.cellsOf 25 = 1 := by kernel_rfl

section
variable {H : Type} {enc : TypeId × Value → H} {w : World} {base : Nat} {spare : Nat → Bool} {held : Bool}
theorem sig_cells {n : Nat} {cs : List Value} {y : DataW H × List MemPlace} (h : DataW.trod enc Tryz.prog w base spare held n 41 cs = some y) : ∃ s0 s1 s2 s3 s4 s5 s6 s7 : Int, cs = [.int .u64 s0, .int .u64 s1, .int .u64 s2, .int .u64 s3, .int .u64 s4, .int .u64 s5, .int .u64 s6, .int .u64 s7] := by
  obtain ⟨xs, m, _, _, hlen, hxl, hel⟩ := DataW.trod_array Tryz.underlying41 h
  rw [hco_sig] at hlen
  rw [hco_u64] at hel
  match cs, hlen with
  | [c0, c1, c2, c3, c4, c5, c6, c7], _ =>
    have hg : ∀ (i : Nat) (hi : i < 8), ∃ s : Int, (([c0, c1, c2, c3, c4, c5, c6, c7].drop (i * 1)).take 1) = [.int .u64 s] := by
      intro i hi
      have h1 := hel i hi
      obtain ⟨a, e, _⟩ := DataW.trod_int Tryz.underlying39 (h1.trans (List.getElem?_eq_getElem (by rw [hxl]; exact hi)))
      exact ⟨a, e⟩
    obtain ⟨s0, e0⟩ := hg 0 (by omega)
    obtain ⟨s1, e1⟩ := hg 1 (by omega)
    obtain ⟨s2, e2⟩ := hg 2 (by omega)
    obtain ⟨s3, e3⟩ := hg 3 (by omega)
    obtain ⟨s4, e4⟩ := hg 4 (by omega)
    obtain ⟨s5, e5⟩ := hg 5 (by omega)
    obtain ⟨s6, e6⟩ := hg 6 (by omega)
    obtain ⟨s7, e7⟩ := hg 7 (by omega)
    simp at e0 e1 e2 e3 e4 e5 e6 e7
    exact ⟨s0, s1, s2, s3, s4, s5, s6, s7, by rw [e0, e1, e2, e3, e4, e5, e6, e7]⟩
theorem ev_cells {n : Nat} {cs : List Value} {y : DataW H × List MemPlace} (h : DataW.trod enc Tryz.prog w base spare held n 43 cs = some y) : ∃ z : Ev, cs = z.cells ∧ True := by
  obtain ⟨xs, n', _, _, hlen, hxl, hf⟩ := DataW.trod_struct Tryz.underlying43 h
  have hco : Tryz.prog.cellsOf 43 = 19 := by kernel_rfl
  rw [hco] at hlen
  match cs, hlen with
  | [c0, c1, c2, c3, c4, c5, c6, c7, c8, c9, d0, d1, d2, d3, d4, d5, d6, d7, f0], _ =>
    obtain ⟨y0, _, h0⟩ := fieldo_some hxl hf (i := 0) rfl 0 rfl rfl hco_int
    obtain ⟨y1, _, h1⟩ := fieldo_some hxl hf (i := 1) rfl 1 rfl rfl hco_int
    obtain ⟨y2, _, h2⟩ := fieldo_some hxl hf (i := 2) rfl 2 rfl rfl hco_int
    obtain ⟨y3, _, h3⟩ := fieldo_some hxl hf (i := 3) rfl 3 rfl rfl hco_int
    obtain ⟨y4, _, h4⟩ := fieldo_some hxl hf (i := 4) rfl 4 rfl rfl hco_int
    obtain ⟨y5, _, h5⟩ := fieldo_some hxl hf (i := 5) rfl 5 rfl rfl hco_i64
    obtain ⟨y6, _, h6⟩ := fieldo_some hxl hf (i := 6) rfl 6 rfl rfl hco_bool
    obtain ⟨y7, _, h7⟩ := fieldo_some hxl hf (i := 7) rfl 7 rfl rfl hco_i64
    obtain ⟨y8, _, h8⟩ := fieldo_some hxl hf (i := 8) rfl 8 rfl rfl hco_i64
    obtain ⟨y9, _, h9⟩ := fieldo_some hxl hf (i := 9) rfl 9 rfl rfl hco_i64
    obtain ⟨y10, _, h10⟩ := fieldo_some hxl hf (i := 10) rfl 10 rfl rfl hco_sig
    obtain ⟨y11, _, h11⟩ := fieldo_some hxl hf (i := 11) rfl 18 rfl rfl hco_err
    simp only [List.drop_zero, List.drop_succ_cons, List.take_succ_cons, List.take_zero] at h0 h1 h2 h3 h4 h5 h6 h7 h8 h9 h10 h11
    obtain ⟨a0, e0, _⟩ := DataW.trod_int Tryz.underlying3 h0
    obtain ⟨a1, e1, _⟩ := DataW.trod_int Tryz.underlying3 h1
    obtain ⟨a2, e2, _⟩ := DataW.trod_int Tryz.underlying3 h2
    obtain ⟨a3, e3, _⟩ := DataW.trod_int Tryz.underlying3 h3
    obtain ⟨a4, e4, _⟩ := DataW.trod_int Tryz.underlying3 h4
    obtain ⟨a5, e5, _⟩ := DataW.trod_int Tryz.underlying2 h5
    obtain ⟨a6, e6, _⟩ := DataW.trod_bool Tryz.underlying4 h6
    obtain ⟨a7, e7, _⟩ := DataW.trod_int Tryz.underlying2 h7
    obtain ⟨a8, e8, _⟩ := DataW.trod_int Tryz.underlying2 h8
    obtain ⟨a9, e9, _⟩ := DataW.trod_int Tryz.underlying2 h9
    obtain ⟨s0, s1, s2, s3, s4, s5, s6, s7, es⟩ := sig_cells h10
    obtain ⟨a11, e11, _⟩ := DataW.trod_int Tryz.underlying25 h11
    simp at e0 e1 e2 e3 e4 e5 e6 e7 e8 e9 es e11
    obtain ⟨g0, g1, g2, g3, g4, g5, g6, g7⟩ := es
    exact ⟨⟨a0, a1, a2, a3, a4, a5, a6, a7, a8, a9, s0, s1, s2, s3, s4, s5, s6, s7, a11⟩, by simp [Ev.cells, e0, e1, e2, e3, e4, e5, e6, e7, e8, e9, g0, g1, g2, g3, g4, g5, g6, g7, e11], trivial⟩
end
/-- A list of events that came in. -/
theorem param_evs {H : Type} {enc : TypeId × Value → H} {W : World} {r : Reach} {b0 : Nat} {v : Value} {d : DataW H} {p : List MemPlace} (hv : Value.okWide Tryz.prog W r b0 22 v) (h : DataW.Trod enc Tryz.prog W 0 (fun _ => true) true 22 v d p) :
    ∃ A n nc l, v = .slice A n nc ∧ l.length = n ∧ n ≤ nc ∧ nc ≤ maxLen ∧ Reads W W.heap.size 19 A n (evs l) ∧ ∀ {ts : List TypeId} {ds : List (DataW H)} {j : Nat}, (DataW.weightsEach Tryz.prog ts ds).all (· ≤ reachBytes) = true → ts[j]? = some 22 → ds[j]? = some d → n * 152 ≤ 140737488351232 := by
  obtain ⟨a, l, c, rfl⟩ := okWide_slice Tryz.underlying22 hv
  obtain ⟨fuel, hf⟩ := h
  have hf' : DataW.trod enc Tryz.prog W 0 (fun _ => true) true fuel 22 [.slice a l c] = some (d, p) := by simpa [Value.cells] using hf
  obtain ⟨A, n, nc, l, hvv, hl, hn, hnc, hA, _, hd⟩ := rows_open ⟨0, 0, 0, 0, 0, 0, false, 0, 0, 0, 0, 0, 0, 0, 0, 0, 0, 0, 0⟩ Ev.cells (fun _ => True) (sz := 19) Tryz.underlying22 (by kernel_rfl) (by omega) (fun _ => rfl) (fun n cs y h => ev_cells h) hf'
  refine ⟨A, n, nc, l, hvv, hl, hn, hnc, hA, ?_⟩
  intro ts ds j hs hts hds
  rcases hd with ⟨_, h, _⟩ | ⟨ds', rest, hdl, h⟩
  · omega
  · have hd' : d = .slice ds' rest := h
    have := sized_slice hs hts (by rw [hds, hd']) Tryz.underlying22
    rw [show Tryz.prog.bytesOf 43 = 152 from by kernel_rfl] at this
    simp only [reachBytes] at this
    omega
end Go.Proofs.YtffjcojehiblnaaGreatDoor

/- A book of transactions in memory; what stays of it when other blocks are written. -/
namespace Go.Proofs.YtffjcojehiblnaaGreatDoor
open Go.RowKit Go.Joins Go.ChangeShapes Go.WideShapes Go.Deep
set_option linter.unusedVariables false
set_option linter.unusedSimpArgs false
set_option maxRecDepth 100000

structure Frm (w w' : World) (S : Nat → Prop) : Prop where
  os : w'.os = w.os
  tape : w'.tape = w.tape
  output : w'.output = w.output
  size : w.heap.size ≤ w'.heap.size
  block : ∀ q, q < w.heap.size → ¬ S q → w'.heap[q]? = w.heap[q]?
theorem Frm.refl (w : World) (S : Nat → Prop) : Frm w w S := ⟨rfl, rfl, rfl, Nat.le_refl _, fun _ _ _ => rfl⟩
theorem Frm.of_below {w w' : World} {S : Nat → Prop} (h : Below w.heap.size w w') : Frm w w' S := ⟨h.os, h.tape, h.output, h.size, fun q hq _ => h.block q hq⟩
theorem Frm.mono {w w' : World} {S S' : Nat → Prop} (h : Frm w w' S) (hs : ∀ q, S q → S' q) : Frm w w' S' := ⟨h.os, h.tape, h.output, h.size, fun q hq hS => h.block q hq fun hh => hS (hs q hh)⟩
theorem Frm.trans {w w1 w2 : World} {S : Nat → Prop} {S' : Nat → Prop} (h : Frm w w1 S) (k : Frm w1 w2 S') (hs : ∀ q, S' q → S q ∨ w.heap.size ≤ q) : Frm w w2 S :=
  ⟨k.os.trans h.os, k.tape.trans h.tape, k.output.trans h.output, Nat.le_trans h.size k.size, fun q hq hS => (k.block q (Nat.lt_of_lt_of_le hq h.size) fun hh => by
    rcases hs q hh with h1 | h1
    · exact hS h1
    · omega).trans (h.block q hq hS)⟩
theorem Frm.below {w w' : World} {S : Nat → Prop} {B : Nat} (h : Frm w w' S) (hB : B ≤ w.heap.size) (hs : ∀ q, S q → B ≤ q) : Below B w w' :=
  ⟨h.os, h.tape, h.output, h.size, fun q hq => h.block q (by omega) fun hh => by have := hs q hh; omega⟩
theorem Frm.drewN {w w' : World} {S : Nat → Prop} (h : Frm w w' S) (n : Nat) : Frm w (w'.drewN n) S := ⟨h.os, h.tape, h.output, h.size, h.block⟩
theorem Frm.drew {w w' : World} {S : Nat → Prop} (h : Frm w w' S) : Frm w w'.drew S := ⟨h.os, h.tape, h.output, h.size, h.block⟩
theorem Frm.alloc {w w' : World} {S : Nat → Prop} (h : Frm w w' S) (o : Obj) : Frm w (w'.alloc o) S := h.trans (Frm.of_below (S := S) (Below.alloc (Below.refl _ _) (Nat.le_refl _) o)) fun q hq => .inl hq
theorem Frm.set {w w' : World} {S : Nat → Prop} (h : Frm w w' S) (b i : Nat) (u : Value) (hb : S b ∨ w.heap.size ≤ b) : Frm w (w'.setCell ⟨b, i, none⟩ u) S :=
  h.trans (S' := fun q => q = b) (Below.setCell (Below.refl b w') (Nat.le_refl b) u |> fun k => ⟨k.os, k.tape, k.output, k.size, fun q hq hn => Below.heap_setCell w' ⟨b, i, none⟩ u q hn⟩) fun q hq => by subst hq; exact hb
theorem Frm.grown {w w1 w2 : World} {S : Nat → Prop} {row : Option Nat} (h : Frm w w1 S) (k : w1.grownBy w2 row) (hr : ∀ q, row = some q → S q ∨ w.heap.size ≤ q) : Frm w w2 S :=
  h.trans (S' := fun q => row = some q) ⟨k.os, k.tape, k.output, k.size, fun q hq hn => k.block q hq (fun e => hn e.symm)⟩ hr
theorem own_keep {w w' : World} {base : Nat} {e : TypeId} {size n : Nat} {v : Value} {xs : List Value} (h : w.ownsRow base e size v n xs) (hk : ∀ b, v.ownBlock = some b → w'.heap[b]? = w.heap[b]?) : w'.ownsRow base e size v n xs := by
  refine ⟨h.1, ?_⟩
  rcases h.2 with h0 | ⟨g, cap, cur, hv, hb, hg, r⟩
  · exact .inl h0
  · exact .inr ⟨g, cap, cur, hv, hb, (hk g (by rw [hv]; rfl)).trans hg, r⟩
theorem own_drewN {w : World} {B e n size k : Nat} {v : Value} {xs : List Value} (h : w.ownsRow B e size v n xs) : (w.drewN k).ownsRow B e size v n xs := h
theorem own_shapes {w : World} {B e n size : Nat} {v : Value} {xs : List Value} (h : w.ownsRow B e size v n xs) : ∃ R c, v = .slice R n c ∧ n ≤ c ∧ Reads w w.heap.size size R n xs := by
  have h0 := h
  rcases h.2 with ⟨rfl, rfl⟩ | ⟨g, cap, cur, rfl, _, _, hnc, _⟩
  · exact ⟨none, 0, rfl, Nat.le_refl _, Reads.of_own h0⟩
  · exact ⟨_, cap, rfl, hnc, Reads.of_own h0⟩
theorem own_blk {w : World} {base : Nat} {e : TypeId} {size n : Nat} {v : Value} {xs : List Value} (h : w.ownsRow base e size v n xs) {b : Nat} (hb : v.ownBlock = some b) : ∃ cs, Blk w b e cs := by
  rcases h.2 with ⟨rfl, _⟩ | ⟨g, cap, cur, rfl, _, hg, _⟩
  · cases hb
  · injection hb with hb
    subst hb
    exact ⟨cur, hg⟩
theorem own_set {w : World} {base : Nat} {e t : TypeId} {size n b i : Nat} {v : Value} {xs : List Value} {cs : Array Value} (h : w.ownsRow base e size v n xs) (hb : Blk w b t cs) (hne : e ≠ t) (u : Value) : (w.setCell ⟨b, i, none⟩ u).ownsRow base e size v n xs := by
  refine own_keep h fun q hq => ?_
  obtain ⟨cs', hc⟩ := own_blk h hq
  exact Below.heap_setCell w ⟨b, i, none⟩ u q (hc.ne_ hb hne)

/-! ### A transaction -/
structure TxM where
  t : TxP
  g : Nat
  sv : Value
def TxM.cells (x : TxM) : Array Value := #[.int .i64 x.t.thread, .int .i64 x.t.begun, .int .i64 x.t.ended, .int .i64 x.t.stamp, .int .i64 x.t.seen, .int .i64 x.t.err, .bool x.t.bg, .bool x.t.ov, x.sv]
structure TxAt (w : World) (base : Nat) (x : TxM) : Prop where
  blk : Blk w x.g 66 x.cells
  lo : base ≤ x.g
  steps : w.ownsRow base 43 19 x.sv x.t.steps.length (evs x.t.steps)
def TxBlk (x : TxM) (q : Nat) : Prop := q = x.g ∨ x.sv.ownBlock = some q
theorem TxAt.keep {w w' : World} {base : Nat} {x : TxM} (h : TxAt w base x) (hk : ∀ q, TxBlk x q → w'.heap[q]? = w.heap[q]?) : TxAt w' base x :=
  ⟨(hk _ (.inl rfl)).trans h.blk, h.lo, own_keep h.steps fun q hq => hk q (.inr hq)⟩
theorem TxAt.lt {w : World} {base : Nat} {x : TxM} (h : TxAt w base x) {q : Nat} (hq : TxBlk x q) : base ≤ q ∧ q < w.heap.size := by
  rcases hq with rfl | hq
  · exact ⟨h.lo, h.blk.lt⟩
  · exact h.steps.lt q hq
theorem TxAt.drewN {w : World} {base : Nat} {x : TxM} (h : TxAt w base x) (n : Nat) : TxAt (w.drewN n) base x := ⟨h.blk, h.lo, h.steps⟩
theorem TxAt.drew {w : World} {base : Nat} {x : TxM} (h : TxAt w base x) : TxAt w.drew base x := ⟨h.blk, h.lo, h.steps⟩
theorem TxAt.alloc {w : World} {base : Nat} {x : TxM} (h : TxAt w base x) (o : Obj) : TxAt (w.alloc o) base x := ⟨h.blk.alloc o, h.lo, h.steps.alloc o⟩
theorem TxAt.frm {w w' : World} {base : Nat} {x : TxM} {S : Nat → Prop} (h : TxAt w base x) (hF : Frm w w' S) (hn : ∀ q, TxBlk x q → ¬ S q) : TxAt w' base x := h.keep fun q hq => hF.block q (h.lt hq).2 (hn q hq)
theorem TxAt.set_ {w : World} {base : Nat} {x : TxM} (h : TxAt w base x) (i : Nat) (u : Value) (t' : TxP) (hc : x.cells.setIfInBounds i u = TxM.cells ⟨t', x.g, x.sv⟩) (hs : t'.steps = x.t.steps) : TxAt (w.setCell ⟨x.g, i, none⟩ u) base ⟨t', x.g, x.sv⟩ :=
  ⟨hc ▸ h.blk.set_ i u, h.lo, by show World.ownsRow _ base _ 19 x.sv t'.steps.length (evs t'.steps); rw [hs]; exact own_set h.steps h.blk (by decide) u⟩
theorem TxAt.far {w : World} {base b i : Nat} {x : TxM} {cs : Array Value} (h : TxAt w base x) (hb : Blk w b 80 cs) (u : Value) : TxAt (w.setCell ⟨b, i, none⟩ u) base x :=
  ⟨h.blk.far (p := ⟨b, i, none⟩) (h.blk.ne_ hb (by decide)) u, h.lo, own_set h.steps hb (by decide) u⟩

/-! ### A book -/
structure BookAt (w : World) (base s : Nat) (lv : Value) (b : Book) (l : List TxM) : Prop where
  blk : Blk w s 80 #[lv, .int .i64 b.at_, .int .i64 b.pub, .int .i64 b.done]
  lo : base ≤ s
  eq : l.map TxM.t = b.l
  row : w.ownsRow base 58 1 lv l.length (l.map fun x => .pointer (some ⟨x.g, 0, none⟩))
  txs : ∀ x ∈ l, TxAt w base x
  gs : l.Pairwise fun x y => x.g ≠ y.g
  ss : l.Pairwise fun x y => ∀ q, x.sv.ownBlock = some q → y.sv.ownBlock ≠ some q
def BookBlk (s : Nat) (lv : Value) (l : List TxM) (q : Nat) : Prop := q = s ∨ lv.ownBlock = some q ∨ ∃ x ∈ l, TxBlk x q
theorem BookAt.lt {w : World} {base s : Nat} {lv : Value} {b : Book} {l : List TxM} (h : BookAt w base s lv b l) {q : Nat} (hq : BookBlk s lv l q) : base ≤ q ∧ q < w.heap.size := by
  rcases hq with rfl | hq | ⟨x, hx, hq⟩
  · exact ⟨h.lo, h.blk.lt⟩
  · exact h.row.lt q hq
  · exact (h.txs x hx).lt hq
theorem BookAt.keep {w w' : World} {base s : Nat} {lv : Value} {b : Book} {l : List TxM} (h : BookAt w base s lv b l) (hk : ∀ q, BookBlk s lv l q → w'.heap[q]? = w.heap[q]?) : BookAt w' base s lv b l :=
  ⟨(hk _ (.inl rfl)).trans h.blk, h.lo, h.eq, own_keep h.row fun q hq => hk q (.inr (.inl hq)), fun x hx => (h.txs x hx).keep fun q hq => hk q (.inr (.inr ⟨x, hx, hq⟩)), h.gs, h.ss⟩
theorem BookAt.drewN {w : World} {base s : Nat} {lv : Value} {b : Book} {l : List TxM} (h : BookAt w base s lv b l) (n : Nat) : BookAt (w.drewN n) base s lv b l := h.keep fun _ _ => rfl
theorem BookAt.alloc {w : World} {base s : Nat} {lv : Value} {b : Book} {l : List TxM} (h : BookAt w base s lv b l) (o : Obj) : BookAt (w.alloc o) base s lv b l := h.keep fun q hq => Below.heap_alloc w o q (h.lt hq).2
theorem BookAt.below {w w' : World} {base s B : Nat} {lv : Value} {b : Book} {l : List TxM} (h : BookAt w base s lv b l) (hb : Below B w w') (hB : w.heap.size ≤ B) : BookAt w' base s lv b l := h.keep fun q hq => hb.block q (by have := (h.lt hq).2; omega)
/-- A cell of the book's block is written, not the list. -/
theorem BookAt.set_ {w : World} {base s : Nat} {lv : Value} {b : Book} {l : List TxM} (h : BookAt w base s lv b l) (i : Nat) (u : Value) (b' : Book) (hc : (#[lv, .int .i64 b.at_, .int .i64 b.pub, .int .i64 b.done] : Array Value).setIfInBounds i u = #[lv, .int .i64 b'.at_, .int .i64 b'.pub, .int .i64 b'.done]) (hl : b'.l = b.l) : BookAt (w.setCell ⟨s, i, none⟩ u) base s lv b' l :=
  ⟨hc ▸ h.blk.set_ i u, h.lo, h.eq.trans hl.symm, own_set h.row h.blk (by decide) u, fun x hx => (h.txs x hx).far h.blk u, h.gs, h.ss⟩
theorem BookAt.len {w : World} {base s : Nat} {lv : Value} {b : Book} {l : List TxM} (h : BookAt w base s lv b l) : b.l.length = l.length := by rw [← h.eq, List.length_map]
theorem BookAt.nth {w : World} {base s : Nat} {lv : Value} {b : Book} {l : List TxM} (h : BookAt w base s lv b l) {n : Nat} (hn : n < b.l.length) : l[n]?.map TxM.t = some b.l[n] := by
  rw [← List.getElem?_map, h.eq, List.getElem?_eq_getElem hn]
end Go.Proofs.YtffjcojehiblnaaGreatDoor
