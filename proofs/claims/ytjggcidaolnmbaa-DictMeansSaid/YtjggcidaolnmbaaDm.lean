/- The dict machine as plain functions, and what it means that a block of memory holds such a machine. -/
import Derived.Test.YtjggcidaolnmbaaKit
namespace Go.Proofs.Ytjggcidaolnmbaa
open Go.RowKit Go.Joins Go.ChangeShapes Go.WideShapes Go.Deep
set_option linter.unusedVariables false

/-- What a call wants next. -/
structure Want where
  kind : Int
  cell : Int
  value : Int
  code : Int

def Want.cells (x : Want) : List Value := [.int .i64 x.kind, .int .i64 x.cell, .int .i64 x.value, .int .i64 x.code]
def cellsOf (l : List Want) : List Value := l.flatMap Want.cells

/-- What a machine does with what it is handed next. -/
inductive Thn where
  | begin | len | state | key | got | fine | counts | countsK | lostK
  | fin (x : Want)

/-- A dict call under way. -/
structure DS where
  base : Int
  most : Int
  call : Int
  k : Int
  v : Int
  slot : Int
  seen : Int
  free : Int
  todo : List Want
  thn : Thn

def DS.cells (s : DS) (tv nv : Value) : Array Value :=
  #[.int .i64 s.base, .int .i64 s.most, .int .i64 s.call, .int .i64 s.k, .int .i64 s.v, .int .i64 s.slot, .int .i64 s.seen, .int .i64 s.free, tv, nv]

def doneF (s : DS) (v code : Int) : Want × DS := (⟨6, 0, v, code⟩, { s with thn := .fin ⟨6, 0, v, code⟩ })
def readF (s : DS) (c : Int) (t : Thn) : Want × DS := (⟨2, wrap64 (s.base + c), 0, 0⟩, { s with thn := t })
def put (base : Int) (x : Want) : Want := { x with kind := 3, cell := wrap64 (x.cell + base) }
def writesF (s : DS) (x : Want) (l : List Want) : Want × DS := (put s.base x, { s with todo := l.map (put s.base) })
def lostF (s : DS) : Want × DS := if s.call = 3 then readF s 0 .lostK else doneF s 0 1
def looksF (s : DS) : Want × DS := if s.seen = s.most then lostF s else readF s (1 + 3 * s.slot) .state
def goesF (s : DS) : Want × DS := looksF { s with seen := s.seen + 1, slot := (s.slot + 1) % s.most }
def freed (s : DS) (x : Int) : DS := if x ≠ 1 ∧ s.free < 0 then { s with free := s.slot } else s
def stateF (s : DS) (x : Int) : Want × DS :=
  if x = 1 then readF s (1 + 3 * s.slot + 1) .key
  else if x = 0 then lostF (freed s x) else goesF (freed s x)
def keyF (s : DS) (x : Int) : Want × DS :=
  if x = s.k then
    (if s.call = 2 then readF s (1 + 3 * s.slot + 2) .got
     else if s.call = 3 then writesF { s with thn := .fine } ⟨0, 1 + 3 * s.slot + 2, s.v, 0⟩ []
     else writesF { s with thn := .counts } ⟨0, 1 + 3 * s.slot, 2, 0⟩ [])
  else goesF s
def lostKF (s : DS) (x : Int) : Want × DS :=
  if s.most ≤ x ∨ s.free < 0 then doneF s 0 2
  else writesF { s with thn := .fine } ⟨0, 1 + 3 * s.free, 1, 0⟩ [⟨0, 1 + 3 * s.free + 1, s.k, 0⟩, ⟨0, 1 + 3 * s.free + 2, s.v, 0⟩, ⟨0, 0, wrap64 (x + 1), 0⟩]
def beginF (s : DS) : Want × DS := if s.call = 5 then readF s 0 .len else looksF s
def thenF (s : DS) (x : Int) : Want × DS :=
  match s.thn with
  | .begin => beginF s
  | .len => doneF s x 0
  | .state => stateF s x
  | .key => keyF s x
  | .got => doneF s x 0
  | .fine => doneF s 0 0
  | .counts => readF s 0 .countsK
  | .countsK => writesF { s with thn := .fine } ⟨0, 0, wrap64 (x - 1), 0⟩ []
  | .lostK => lostKF s x
  | .fin y => (y, s)
def nextF (s : DS) (x : Int) : Want × DS :=
  match s.todo with
  | y :: l => (y, { s with todo := l })
  | [] => thenF s x

/-- The bounds that a machine keeps. -/
structure DS.Ok (s : DS) : Prop where
  b0 : 0 ≤ s.base
  b1 : s.base ≤ 1024
  m0 : 0 ≤ s.most
  m1 : s.most ≤ 16
  s0 : 0 ≤ s.slot
  s1 : s.slot < s.most ∨ s.most = 0
  s2 : s.slot ≤ 16
  e0 : 0 ≤ s.seen
  e1 : s.seen ≤ s.most
  f0 : -1 ≤ s.free
  f1 : s.free ≤ 16
  f2 : s.free < s.most

theorem DS.Ok.goes {s : DS} (h : s.Ok) (hne : s.seen < s.most) : ({ s with seen := s.seen + 1, slot := (s.slot + 1) % s.most } : DS).Ok := by
  have h1 := h.m1
  have h2 := h.e0
  have hp : 0 < s.most := by omega
  have ha := Int.emod_nonneg (s.slot + 1) (show s.most ≠ 0 by omega)
  have hb := Int.emod_lt_of_pos (s.slot + 1) hp
  exact ⟨h.b0, h.b1, h.m0, h.m1, ha, .inl hb, by show (s.slot + 1) % s.most ≤ 16; omega, by show 0 ≤ s.seen + 1; omega, by show s.seen + 1 ≤ s.most; omega, h.f0, h.f1, h.f2⟩
theorem DS.Ok.free {s : DS} (h : s.Ok) (hm : 0 < s.most) : ({ s with free := s.slot } : DS).Ok :=
  ⟨h.b0, h.b1, h.m0, h.m1, h.s0, h.s1, h.s2, h.e0, h.e1, by have := h.s0; show -1 ≤ s.slot; omega, h.s2, by have := h.s1; show s.slot < s.most; omega⟩
theorem DS.Ok.thn {s : DS} (h : s.Ok) (t : Thn) : ({ s with thn := t } : DS).Ok := ⟨h.b0, h.b1, h.m0, h.m1, h.s0, h.s1, h.s2, h.e0, h.e1, h.f0, h.f1, h.f2⟩
theorem DS.Ok.todo {s : DS} (h : s.Ok) (l : List Want) : ({ s with todo := l } : DS).Ok := ⟨h.b0, h.b1, h.m0, h.m1, h.s0, h.s1, h.s2, h.e0, h.e1, h.f0, h.f1, h.f2⟩

/-! ### In memory -/
def TodoIs (w : World) (S : Nat → Prop) (v : Value) (l : List Want) : Prop :=
  (l = [] ∧ ∃ A c, v = .slice A 0 c) ∨
  ∃ g off cap cs, v = .slice (some ⟨g, off, none⟩) l.length cap ∧ l.length ≤ cap ∧ cap ≤ 4 ∧ Blk w g 37 cs ∧ S g ∧ (∀ i u, (cellsOf l)[i]? = some u → cs[off + i]? = some u)
def ThnIs (w : World) (S : Nat → Prop) (v : Value) : Thn → Prop
  | .begin => v = .func (.func 30) #[] #[]
  | .len => v = .func (.func 41) #[] #[]
  | .state => v = .func (.func 55) #[] #[]
  | .key => v = .func (.func 69) #[] #[]
  | .got => v = .func (.func 76) #[] #[]
  | .fine => v = .func (.func 67) #[] #[]
  | .counts => v = .func (.func 77) #[] #[]
  | .countsK => v = .func (.func 79) #[] #[]
  | .lostK => v = .func (.func 66) #[] #[]
  | .fin x => ∃ g, v = .func (.func 53) #[] #[.pointer (some ⟨g, 0, none⟩)] ∧ S g ∧ Blk w g 37 x.cells.toArray
def MIs (w : World) (b : Nat) (s : DS) (S : Nat → Prop) : Prop :=
  ∃ tv nv, Blk w b 64 (s.cells tv nv) ∧ TodoIs w S tv s.todo ∧ ThnIs w S nv s.thn

/-- Every aux block that holds in w holds in w'. -/
theorem TodoIs.keep {w w' : World} {S S' : Nat → Prop} {v : Value} {l : List Want} (h : TodoIs w S v l) (hk : ∀ g cs, S g → Blk w g 37 cs → Blk w' g 37 cs)
    (hS : ∀ g, S g → S' g) : TodoIs w' S' v l := by
  rcases h with h | ⟨g, off, cap, cs, h1, h2, h3, h4, h5, h6⟩
  · exact .inl h
  · exact .inr ⟨g, off, cap, cs, h1, h2, h3, hk g _ h5 h4, hS g h5, h6⟩
theorem ThnIs.keep {w w' : World} {S S' : Nat → Prop} {v : Value} {t : Thn} (h : ThnIs w S v t) (hk : ∀ g cs, S g → Blk w g 37 cs → Blk w' g 37 cs)
    (hS : ∀ g, S g → S' g) : ThnIs w' S' v t := by
  cases t <;> try exact h
  obtain ⟨g, h1, h2, h3⟩ := h
  exact ⟨g, h1, hS g h2, hk g _ h2 h3⟩
theorem MIs.keep {w w' : World} {b : Nat} {s : DS} {S S' : Nat → Prop} (h : MIs w b s S) (hb : ∀ cs, Blk w b 64 cs → Blk w' b 64 cs) (hk : ∀ g cs, S g → Blk w g 37 cs → Blk w' g 37 cs)
    (hS : ∀ g, S g → S' g) : MIs w' b s S' := by
  obtain ⟨tv, nv, h1, h2, h3⟩ := h
  exact ⟨tv, nv, hb _ h1, h2.keep hk hS, h3.keep hk hS⟩
theorem MIs.lt {w : World} {b : Nat} {s : DS} {S : Nat → Prop} (h : MIs w b s S) : b < w.heap.size := by
  obtain ⟨_, _, h, _⟩ := h
  exact h.lt
theorem MIs.blk {w : World} {b : Nat} {s : DS} {S : Nat → Prop} (h : MIs w b s S) : ∃ cs, Blk w b 64 cs := by
  obtain ⟨_, _, h, _⟩ := h
  exact ⟨_, h⟩
theorem MIs.alloc {w : World} {b : Nat} {s : DS} {S : Nat → Prop} (h : MIs w b s S) (o : Obj) : MIs (w.alloc o) b s S :=
  h.keep (fun _ hb => hb.alloc o) (fun _ _ _ hb => hb.alloc o) fun _ h => h
theorem MIs.drew {w : World} {b : Nat} {s : DS} {S : Nat → Prop} (h : MIs w b s S) : MIs w.drew b s S := h
theorem MIs.drewN {w : World} {b : Nat} {s : DS} {S : Nat → Prop} (h : MIs w b s S) (n : Nat) : MIs (w.drewN n) b s S := h
theorem MIs.far {w : World} {b : Nat} {s : DS} {S : Nat → Prop} (h : MIs w b s S) {p : Addr} (hb : p.block ≠ b) (hS : ¬ S p.block) (u : Value) : MIs (w.setCell p u) b s S :=
  h.keep (fun _ hc => hc.far (p := p) (fun e => hb e.symm) u) (fun g _ hg hc => hc.far (p := p) (fun e => hS (e ▸ hg)) u) fun _ h => h
theorem MIs.more {w : World} {b : Nat} {s : DS} {S S' : Nat → Prop} (h : MIs w b s S) (hS : ∀ g, S g → S' g) : MIs w b s S' :=
  h.keep (fun _ hb => hb) (fun _ _ _ hb => hb) hS

/-- What a call of the machine leaves: its want, the machine as it stands then; nothing but it has turned. -/
def DPost (b : Nat) (S : Nat → Prop) (w : World) (r : Want × DS) : Ending → World → Prop := fun e w' =>
  ∃ x s', r = (x, s') ∧ e = .returned (.agg #[.int .i64 x.kind, .int .i64 x.cell, .int .i64 x.value, .int .i64 x.code]) ∧ MIs w' b s' (fun g => S g ∨ w.heap.size ≤ g) ∧ w.grownBy w' (some b)

/-- The aux blocks behind a store into the machine's own block. -/
theorem TodoIs.set_ {w : World} {b : Nat} {S S' : Nat → Prop} {v : Value} {l : List Want} {cs : Array Value} (h : TodoIs w S v l) (hB : Blk w b 64 cs) (i : Nat) (u : Value) (hS : ∀ g, S g → S' g) : TodoIs (w.setCell ⟨b, i, none⟩ u) S' v l :=
  h.keep (fun g _ _ hc => hc.far (p := ⟨b, i, none⟩) (hc.ne_ hB (by decide)) u) hS
theorem ThnIs.set_ {w : World} {b : Nat} {S S' : Nat → Prop} {v : Value} {t : Thn} {cs : Array Value} (h : ThnIs w S v t) (hB : Blk w b 64 cs) (i : Nat) (u : Value) (hS : ∀ g, S g → S' g) : ThnIs (w.setCell ⟨b, i, none⟩ u) S' v t :=
  h.keep (fun g _ _ hc => hc.far (p := ⟨b, i, none⟩) (hc.ne_ hB (by decide)) u) hS
theorem TodoIs.alloc {w : World} {S S' : Nat → Prop} {v : Value} {l : List Want} (h : TodoIs w S v l) (o : Obj) (hS : ∀ g, S g → S' g) : TodoIs (w.alloc o) S' v l := h.keep (fun _ _ _ hc => hc.alloc o) hS
theorem ThnIs.alloc {w : World} {S S' : Nat → Prop} {v : Value} {t : Thn} (h : ThnIs w S v t) (o : Obj) (hS : ∀ g, S g → S' g) : ThnIs (w.alloc o) S' v t := h.keep (fun _ _ _ hc => hc.alloc o) hS
theorem Blk.new' {w : World} {t : TypeId} {cs : Array Value} {n : Nat} (h : w.heap.size = n) : Blk (w.alloc (.cells cs t)) n t cs := h ▸ Blk.new w t cs
theorem only_trans {a b c : World} {g : Nat} (h : a.grownBy b (some g)) (k : b.grownBy c (some g)) : a.grownBy c (some g) :=
  ⟨k.os.trans h.os, k.tape.trans h.tape, k.output.trans h.output, Nat.le_trans h.size k.size, fun i hi hn => (k.block i (Nat.lt_of_lt_of_le hi h.size) hn).trans (h.block i hi hn)⟩

/-- A function that hands on what an inner call wants: its result variable's block, laid ahead of the call, is written behind it. -/
theorem DPost.tail {w w0 w1 : World} {b : Nat} {S : Nat → Prop} {x : Want} {s' : DS} {r : Want × DS} (hsz : w.heap.size < w0.heap.size) (h0 : w.grownBy w0 (some b))
    (hS : ∀ g, S g → g < w.heap.size) (hlt : b < w.heap.size) (hM : MIs w1 b s' (fun g => S g ∨ w0.heap.size ≤ g)) (hg : w0.grownBy w1 (some b)) (hr : r = (x, s')) :
    DPost b S w r (.returned (.agg #[.int .i64 x.kind, .int .i64 x.cell, .int .i64 x.value, .int .i64 x.code]))
      ((((w1.setCell ⟨w.heap.size, 0, none⟩ (.int .i64 x.kind)).setCell ⟨w.heap.size, 1, none⟩ (.int .i64 x.cell)).setCell ⟨w.heap.size, 2, none⟩ (.int .i64 x.value)).setCell ⟨w.heap.size, 3, none⟩ (.int .i64 x.code)) := by
  have hno : ¬ (S w.heap.size ∨ w0.heap.size ≤ w.heap.size) := by
    rintro (h | h)
    · have := hS _ h
      omega
    · omega
  have hb : w.heap.size ≠ b := by omega
  refine ⟨x, s', hr, rfl, ?_, ?_⟩
  · refine MIs.more ((((hM.far (p := ⟨w.heap.size, 0, none⟩) hb hno _).far (p := ⟨w.heap.size, 1, none⟩) hb hno _).far (p := ⟨w.heap.size, 2, none⟩) hb hno _).far (p := ⟨w.heap.size, 3, none⟩) hb hno _) ?_
    rintro g (h | h)
    · exact .inl h
    · exact .inr (by omega)
  · exact only_setCell (only_setCell (only_setCell (only_setCell (only_trans h0 hg) (.inr (Nat.le_refl _)) _) (.inr (Nat.le_refl _)) _) (.inr (Nat.le_refl _)) _) (.inr (Nat.le_refl _)) _
end Go.Proofs.Ytjggcidaolnmbaa
