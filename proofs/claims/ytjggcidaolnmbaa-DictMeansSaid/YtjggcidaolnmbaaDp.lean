/- The plain law of the dict machine: what it wants is what the document's Next says, step by step; it is through in time; it wants no cell but its own. No program in sight. -/
import Derived.Test.YtjggcidaolnmbaaDw8
namespace Go.Proofs.Ytjggcidaolnmbaa
open Go.RowKit Go.Joins Go.ChangeShapes Go.WideShapes Go.Deep
set_option linter.unusedVariables false

/-- The first and the second argument. -/
def a0 (args : List Int) : Int := args.getD 0 0
def a1 (args : List Int) : Int := args.getD 1 0

/-- A look for a key, by what was read. -/
structure Look where
  found : Int
  free : Int
  reads : Nat
  over : Bool
  cell : Int

def slotI (key n j : Int) : Int := (firstI key n + j) % n
def freeI (st free i : Int) : Int := if st ≠ 1 ∧ free < 0 then i else free

def findL (key n : Int) : Nat → Int → Int → Nat → List Int → Look
  | 0, j, free, pos, rest => ⟨-1, free, pos, true, 0⟩
  | f + 1, j, free, pos, [] => ⟨-1, free, pos, false, 1 + 3 * slotI key n j⟩
  | f + 1, j, free, pos, st :: rest =>
    if st = 0 then ⟨-1, freeI st free (slotI key n j), pos + 1, true, 0⟩
    else if st ≠ 1 then findL key n f (j + 1) (freeI st free (slotI key n j)) (pos + 1) rest
    else match rest with
      | [] => ⟨-1, free, pos + 1, false, 2 + 3 * slotI key n j⟩
      | k :: rest' => if k = key then ⟨slotI key n j, free, pos + 2, true, 0⟩ else findL key n f (j + 1) free (pos + 2) rest'
/-- The look, its state already read as THERE. -/
def findK (key n : Int) (f : Nat) (j free : Int) (pos : Nat) (rest : List Int) : Look :=
  match rest with
  | [] => ⟨-1, free, pos, false, 2 + 3 * slotI key n j⟩
  | k :: rest' => if k = key then ⟨slotI key n j, free, pos + 1, true, 0⟩ else findL key n f (j + 1) free (pos + 1) rest'

def lookF (key n : Int) (read : List Int) : Look := findL key n n.toNat 0 (-1) 0 read

def endW (v code : Int) : Want := ⟨6, 0, if code = 0 then v else 0, code⟩
def putsF (base most : Int) (args : List Int) (x : Look) (left : List Int) (writes : Int) : Want :=
  if 0 ≤ x.found then (if writes = 0 then ⟨3, base + 3 + 3 * x.found, a1 args, 0⟩ else endW 0 0)
  else match left with
    | [] => ⟨2, base, 0, 0⟩
    | c :: _ =>
      if most ≤ c ∨ x.free < 0 then endW 0 2
      else if writes = 0 then ⟨3, base + 1 + 3 * x.free, 1, 0⟩
      else if writes = 1 then ⟨3, base + 1 + 3 * x.free + 1, a0 args, 0⟩
      else if writes = 2 then ⟨3, base + 1 + 3 * x.free + 2, a1 args, 0⟩
      else if writes = 3 then ⟨3, base, wrap64 (c + 1), 0⟩
      else endW 0 0
/-- The document's next want. -/
def refNext (base most call : Int) (args read : List Int) (writes : Int) : Want :=
  if call = 5 then (match read with
    | [] => ⟨2, base, 0, 0⟩
    | c :: _ => endW c 0)
  else
    let x := lookF (a0 args) most read
    if x.over = false then ⟨2, base + x.cell, 0, 0⟩
    else if call = 3 then putsF base most args x (read.drop x.reads) writes
    else if x.found < 0 then endW 0 1
    else if call = 2 then (match read.drop x.reads with
      | [] => ⟨2, base + 3 + 3 * x.found, 0, 0⟩
      | l :: _ => endW l 0)
    else if writes = 0 then ⟨3, base + 1 + 3 * x.found, 2, 0⟩
    else match read.drop x.reads with
      | [] => ⟨2, base, 0, 0⟩
      | c :: _ => if writes = 1 then ⟨3, base, wrap64 (c - 1), 0⟩ else endW 0 0
def wantsF (base most call : Int) (args read : List Int) (writes : Int) (last : Want) : Want :=
  if last.kind = 6 then last else refNext base most call args read writes

/-- How many calls of Next a machine takes at most till it says its end. -/
def rank (s : DS) : Nat :=
  match s.thn with
  | .begin => 2 * s.most.toNat + 6
  | .len => 1
  | .state => 2 * (s.most - s.seen).toNat + 5
  | .key => 2 * (s.most - s.seen).toNat + 4
  | .got => 1
  | .fine => s.todo.length + 1
  | .counts => 3
  | .countsK => 2
  | .lostK => 5
  | .fin _ => 0

/-- What is the same in all of a call's machines. -/
structure Fixed (base most call : Int) (args : List Int) (s : DS) : Prop where
  hb : s.base = base
  hm : s.most = most
  hc : s.call = call
  hk : s.k = a0 args
  hv : s.v = a1 args

/-- The look is over. -/
def Over (key n : Int) (read : List Int) (found free : Int) (m : Nat) : Prop := ∀ ext, lookF key n (read ++ ext) = ⟨found, free, m, true, 0⟩

/-- A want that may be: of a cell of its own, or an end. -/
def WOk (base most : Int) (x : Want) : Prop :=
  (x.kind = 6 ∧ x.cell = 0 ∧ (x.code = 0 ∨ x.value = 0)) ∨ ((x.kind = 2 ∨ x.kind = 3) ∧ base ≤ x.cell ∧ x.cell < base + (3 * most + 1))

/-- Where a machine stands, by what was read, how many writes were told, and what was wanted last. -/
inductive At (base most call : Int) (args : List Int) : List Int → Int → Want → DS → Prop where
  | begin (s : DS) (last : Want) (h : s.thn = .begin) (ht : s.todo = []) (hs : s.slot = slotI (a0 args) most 0 ∨ most = 0 ∨ call = 5) (he : s.seen = 0) (hf : s.free = -1) (hl : last.kind = 0) : At base most call args [] 0 last s
  | len (s : DS) (last : Want) (h : s.thn = .len) (ht : s.todo = []) (hcall : call = 5) (hl : last.kind = 2) : At base most call args [] 0 last s
  | state (s : DS) (last : Want) (read : List Int) (h : s.thn = .state) (ht : s.todo = []) (hcall : call ≠ 5) (hl : last.kind = 2) (hlt : s.seen < most) (hs : s.slot = slotI (a0 args) most s.seen)
      (hi : ∀ ext, lookF (a0 args) most (read ++ ext) = findL (a0 args) most (most - s.seen).toNat s.seen s.free read.length ext) : At base most call args read 0 last s
  | key (s : DS) (last : Want) (read : List Int) (h : s.thn = .key) (ht : s.todo = []) (hcall : call ≠ 5) (hl : last.kind = 2) (hlt : s.seen < most) (hs : s.slot = slotI (a0 args) most s.seen)
      (hi : ∀ ext, lookF (a0 args) most (read ++ ext) = findK (a0 args) most ((most - s.seen).toNat - 1) s.seen s.free read.length ext) : At base most call args read 0 last s
  | got (s : DS) (last : Want) (read : List Int) (i free : Int) (h : s.thn = .got) (ht : s.todo = []) (hcall : call = 2) (hl : last.kind = 2) (hi0 : 0 ≤ i) (hi : Over (a0 args) most read i free read.length) : At base most call args read 0 last s
  | fine (s : DS) (last : Want) (read : List Int) (i free : Int) (h : s.thn = .fine) (ht : s.todo = []) (hcall : call = 3) (hl : last.kind = 3) (hi0 : 0 ≤ i) (hi : Over (a0 args) most read i free read.length) : At base most call args read 0 last s
  | counts (s : DS) (last : Want) (read : List Int) (i free : Int) (h : s.thn = .counts) (ht : s.todo = []) (hcall : call = 4) (hl : last.kind = 3) (hi0 : 0 ≤ i) (hi : Over (a0 args) most read i free read.length) : At base most call args read 0 last s
  | countsK (s : DS) (last : Want) (read : List Int) (i free : Int) (h : s.thn = .countsK) (ht : s.todo = []) (hcall : call = 4) (hl : last.kind = 2) (hi0 : 0 ≤ i) (hi : Over (a0 args) most read i free read.length) : At base most call args read 1 last s
  | fine2 (s : DS) (last : Want) (read : List Int) (c i free : Int) (h : s.thn = .fine) (ht : s.todo = []) (hcall : call = 4) (hl : last.kind = 3) (hi0 : 0 ≤ i) (hi : Over (a0 args) most read i free read.length) : At base most call args (read ++ [c]) 1 last s
  | lostK (s : DS) (last : Want) (read : List Int) (h : s.thn = .lostK) (ht : s.todo = []) (hcall : call = 3) (hl : last.kind = 2) (hi : Over (a0 args) most read (-1) s.free read.length) : At base most call args read 0 last s
  | writes (s : DS) (last : Want) (read : List Int) (c : Int) (n : Nat) (h : s.thn = .fine) (hcall : call = 3) (hl : last.kind = 3) (hn : n ≤ 3) (hf : 0 ≤ s.free) (hcm : c < most)
      (ht : s.todo = ([⟨3, base + 1 + 3 * s.free + 1, a0 args, 0⟩, ⟨3, base + 1 + 3 * s.free + 2, a1 args, 0⟩, ⟨3, base, wrap64 (c + 1), 0⟩] : List Want).drop n)
      (hi : Over (a0 args) most read (-1) s.free read.length) : At base most call args (read ++ [c]) n last s
  | fin (s : DS) (last : Want) (read : List Int) (w : Int) (h : s.thn = .fin last) (ht : s.todo = []) (hl : last.kind = 6) (hw : WOk base most last) : At base most call args read w last s

def readsNext (last : Want) (read : List Int) (v : Int) : List Int := if last.kind = 2 then read ++ [v] else read
def writesNext (last : Want) (writes : Int) : Int := if last.kind = 3 then writes + 1 else writes

/-- A machine of the call, and where it stands. -/
structure Sim (base most call : Int) (args read : List Int) (writes : Int) (last : Want) (s : DS) : Prop where
  ok : s.Ok
  fx : Fixed base most call args s
  at_ : At base most call args read writes last s

theorem Sim.look {base most call : Int} {args read : List Int} {writes : Int} {last : Want} {s : DS} (h : Sim base most call args read writes last s) : (s.thn matches .state) ∨ (s.thn matches .key) → s.seen < s.most := by
  intro hh
  have hm := h.fx.hm
  cases h.at_ with
  | state _ _ h ht hcall hl hlt => omega
  | key _ _ h ht hcall hl hlt => omega
  | begin _ h => simp_all
  | len _ h => simp_all
  | got _ _ _ _ h => simp_all
  | fine _ _ _ _ h => simp_all
  | counts _ _ _ _ h => simp_all
  | countsK _ _ _ _ h => simp_all
  | fine2 _ _ _ _ _ h => simp_all
  | lostK _ _ h => simp_all
  | writes _ _ _ _ h => simp_all
  | fin _ _ _ h => simp_all
end Go.Proofs.Ytjggcidaolnmbaa
