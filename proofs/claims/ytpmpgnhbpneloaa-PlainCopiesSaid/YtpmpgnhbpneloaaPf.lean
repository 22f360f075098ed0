/- Collections as they are meant, as plain data; what it means that rows of memory hold them. -/
import Derived.Test.YtpmpgnhbpneloaaPe
namespace Go.Proofs.Ytpmpgnhbpneloaa
open Go.RowKit Go.Joins Go.ChangeShapes Go.WideShapes Go.Deep
set_option linter.unusedVariables false
set_option maxRecDepth 100000

structure TS where
  kind : Int
  most : Int
  values : List Int
  pairs : List (Int × Int)
/-- A collection, and where its lists lie. -/
structure TM where
  t : TS
  vv : Value
  pv : Value
def TM.cells (x : TM) : List Value := [.int .i64 x.t.kind, .int .i64 x.t.most, x.vv, x.pv]
def TM.cells3 (x : TM) : List Value := [.int .i64 x.t.kind, x.vv, x.pv]
def sep (v v' : Value) : Prop := ∀ b, v.ownBlock = some b → v'.ownBlock ≠ some b

theorem own_keep {w w' : World} {base : Nat} {e : TypeId} {size n : Nat} {v : Value} {xs : List Value} (h : w.ownsRow base e size v n xs) (hk : ∀ b, v.ownBlock = some b → w'.heap[b]? = w.heap[b]?) : w'.ownsRow base e size v n xs := by
  refine ⟨h.1, ?_⟩
  rcases h.2 with h0 | ⟨g, cap, cur, hv, hb, hg, r⟩
  · exact .inl h0
  · exact .inr ⟨g, cap, cur, hv, hb, (hk g (by rw [hv]; rfl)).trans hg, r⟩
theorem own_blk {w : World} {base : Nat} {e : TypeId} {size n : Nat} {v : Value} {xs : List Value} (h : w.ownsRow base e size v n xs) {b : Nat} (hb : v.ownBlock = some b) : ∃ cs, Blk w b e cs := by
  rcases h.2 with ⟨rfl, _⟩ | ⟨g, cap, cur, hv, _, hg, r⟩
  · simp [Value.ownBlock] at hb
  · rw [hv] at hb
    have : g = b := by simpa [Value.ownBlock] using hb
    subst this
    exact ⟨_, hg⟩

structure ThingIs (w : World) (base : Nat) (x : TM) : Prop where
  vs : w.ownsRow base 2 1 x.vv x.t.values.length (ints x.t.values)
  ps : w.ownsRow base 54 2 x.pv x.t.pairs.length (prs x.t.pairs)

structure LIs (w : World) (base : Nat) (T : TypeId) (k : Nat) (enc : TM → List Value) (tv : Value) (l : List TM) : Prop where
  row : w.ownsRow base T k tv l.length (rows enc l)
  things : ∀ x ∈ l, ThingIs w base x
  sepv : l.Pairwise (fun x y => sep x.vv y.vv)
  sepp : l.Pairwise (fun x y => sep x.pv y.pv)

def LBlocks (tv : Value) (l : List TM) (b : Nat) : Prop := tv.ownBlock = some b ∨ ∃ x ∈ l, x.vv.ownBlock = some b ∨ x.pv.ownBlock = some b

section
variable {w w' : World} {base : Nat} {T : TypeId} {k : Nat} {enc : TM → List Value} {tv : Value} {l : List TM}
theorem ThingIs.keep {x : TM} (h : ThingIs w base x) (hk : ∀ b, x.vv.ownBlock = some b ∨ x.pv.ownBlock = some b → w'.heap[b]? = w.heap[b]?) : ThingIs w' base x :=
  ⟨own_keep h.vs fun b hb => hk b (.inl hb), own_keep h.ps fun b hb => hk b (.inr hb)⟩
theorem LIs.keep (h : LIs w base T k enc tv l) (hk : ∀ b, LBlocks tv l b → w'.heap[b]? = w.heap[b]?) : LIs w' base T k enc tv l :=
  ⟨own_keep h.row fun b hb => hk b (.inl hb), fun x hx => (h.things x hx).keep fun b hb => hk b (.inr ⟨x, hx, hb⟩), h.sepv, h.sepp⟩
theorem LIs.blk (h : LIs w base T k enc tv l) {b : Nat} (hb : LBlocks tv l b) : base ≤ b ∧ b < w.heap.size ∧ ∃ t cs, Blk w b t cs ∧ (t = T ∨ t = 2 ∨ t = 54) := by
  rcases hb with hb | ⟨x, hx, hb | hb⟩
  · obtain ⟨cs, hc⟩ := own_blk h.row hb
    exact ⟨(h.row.lt b hb).1, hc.lt, _, _, hc, .inl rfl⟩
  · obtain ⟨cs, hc⟩ := own_blk (h.things x hx).vs hb
    exact ⟨((h.things x hx).vs.lt b hb).1, hc.lt, _, _, hc, .inr (.inl rfl)⟩
  · obtain ⟨cs, hc⟩ := own_blk (h.things x hx).ps hb
    exact ⟨((h.things x hx).ps.lt b hb).1, hc.lt, _, _, hc, .inr (.inr rfl)⟩
theorem LIs.ne (h : LIs w base T k enc tv l) {b g : Nat} {t : TypeId} {cs : Array Value} (hb : LBlocks tv l b) (hg : Blk w g t cs) (h1 : T ≠ t) (h2 : 2 ≠ t) (h3 : 54 ≠ t) : b ≠ g := by
  obtain ⟨_, _, t', cs', hc, ht⟩ := h.blk hb
  rcases ht with rfl | rfl | rfl
  · exact hc.ne_ hg h1
  · exact hc.ne_ hg h2
  · exact hc.ne_ hg h3
theorem LIs.below (h : LIs w base T k enc tv l) (hb : Below w.heap.size w w') : LIs w' base T k enc tv l := h.keep fun b hl => hb.block b (h.blk hl).2.1
theorem LIs.alloc (h : LIs w base T k enc tv l) (o : Obj) : LIs (w.alloc o) base T k enc tv l := h.keep fun b hl => Below.heap_alloc w o b (h.blk hl).2.1
theorem LIs.drewN (h : LIs w base T k enc tv l) (n : Nat) : LIs (w.drewN n) base T k enc tv l := h.keep fun _ _ => rfl
theorem LIs.grown {row : Option Nat} (h : LIs w base T k enc tv l) (hg : w.grownBy w' row) (hne : ∀ b, LBlocks tv l b → some b ≠ row) : LIs w' base T k enc tv l := h.keep fun b hl => hg.block b (h.blk hl).2.1 (hne b hl)
theorem LIs.far (h : LIs w base T k enc tv l) {p : Addr} (hne : ∀ b, LBlocks tv l b → b ≠ p.block) (u : Value) : LIs (w.setCell p u) base T k enc tv l := h.keep fun b hl => Below.heap_setCell w p u b (hne b hl)
theorem LIs.nil : LIs w base T k enc (.slice none 0 0) [] := ⟨World.ownsRow_nil _ _ _ _, by simp, .nil, .nil⟩
/-- One more collection. -/
theorem LIs.snoc {w1 : World} {x : TM} {tv' : Value} (h : LIs w base T k enc tv l) (hx : ThingIs w base x) (hsv : ∀ y ∈ l, sep y.vv x.vv) (hsp : ∀ y ∈ l, sep y.pv x.pv) (h1 : T ≠ 2) (h2 : T ≠ 54) (hg : w.grownBy w1 tv.ownBlock)
    (hr : w1.ownsRow base T k tv' (l.length + 1) (rows enc l ++ enc x)) : LIs w1 base T k enc tv' (l ++ [x]) := by
  have hthing : ∀ y, ThingIs w base y → ThingIs w1 base y := by
    intro y hy
    refine hy.keep fun b hb => hg.block b ?_ ?_
    · rcases hb with hb | hb
      · exact (hy.vs.lt b hb).2
      · exact (hy.ps.lt b hb).2
    · intro e
      obtain ⟨cs, hc⟩ := own_blk h.row e.symm
      rcases hb with hb | hb
      · obtain ⟨cs', hc'⟩ := own_blk hy.vs hb
        exact hc.ne_ hc' h1 rfl
      · obtain ⟨cs', hc'⟩ := own_blk hy.ps hb
        exact hc.ne_ hc' h2 rfl
  refine ⟨by rw [rows_snoc, List.length_append]; exact hr, ?_, ?_, ?_⟩
  · intro y hy
    rcases List.mem_append.1 hy with hy | hy
    · exact hthing y (h.things y hy)
    · simp at hy
      subst hy
      exact hthing _ hx
  · rw [List.pairwise_append]
    exact ⟨h.sepv, List.pairwise_singleton _ _, fun y hy z hz => by simp at hz; subst hz; exact hsv y hy⟩
  · rw [List.pairwise_append]
    exact ⟨h.sepp, List.pairwise_singleton _ _, fun y hy z hz => by simp at hz; subst hz; exact hsp y hy⟩
end

/-- A state of plain: block s; its plain cells lie in block g. -/
structure PIs (w : World) (base s g : Nat) (tv : Value) (raw : List Int) (l : List TM) : Prop where
  blk : Blk w s 68 #[.slice (some ⟨g, 0, none⟩) raw.length raw.length, tv]
  rawb : Blk w g 2 (ints raw).toArray
  ls : LIs w base 71 4 TM.cells tv l
  sepr : ∀ x ∈ l, x.vv.ownBlock ≠ some g
  b0 : base ≤ s
  b1 : base ≤ g
/-- A state of the document: block s; its plain cells lie in block g. -/
structure RIs (w : World) (base s g : Nat) (rv : Option Addr) (rc : Nat × Nat) (tv : Value) (c : Cfg) (regs : List Reg) (raw : List Int) (l : List TM) : Prop where
  blk : Blk w s 80 #[.int .i64 c.raw, .int .i64 c.ring, .int .i64 c.writes, .int .i64 c.stamps, .bool c.multi, .int .i64 c.tries, .slice rv regs.length rc.1, .slice (some ⟨g, 0, none⟩) raw.length rc.2, tv]
  regs : w.ownsRow base 82 2 (.slice rv regs.length rc.1) regs.length (rows Reg.cells regs)
  rawb : w.ownsRow base 2 1 (.slice (some ⟨g, 0, none⟩) raw.length rc.2) raw.length (ints raw)
  ls : LIs w base 52 3 TM.cells3 tv l
  sepr : ∀ x ∈ l, x.vv.ownBlock ≠ some g
  b0 : base ≤ s
  b1 : base ≤ g

section
variable {w w' : World} {base s g : Nat} {tv : Value} {raw : List Int} {l : List TM}
theorem PIs.keep (h : PIs w base s g tv raw l) (hs : w'.heap[s]? = w.heap[s]?) (hg : w'.heap[g]? = w.heap[g]?) (hk : ∀ b, LBlocks tv l b → w'.heap[b]? = w.heap[b]?) : PIs w' base s g tv raw l :=
  ⟨hs.trans h.blk, hg.trans h.rawb, h.ls.keep hk, h.sepr, h.b0, h.b1⟩
theorem PIs.below (h : PIs w base s g tv raw l) (hb : Below w.heap.size w w') : PIs w' base s g tv raw l :=
  h.keep (hb.block s h.blk.lt) (hb.block g h.rawb.lt) fun b hl => hb.block b (h.ls.blk hl).2.1
theorem PIs.alloc (h : PIs w base s g tv raw l) (o : Obj) : PIs (w.alloc o) base s g tv raw l :=
  h.keep (Below.heap_alloc w o s h.blk.lt) (Below.heap_alloc w o g h.rawb.lt) fun b hl => Below.heap_alloc w o b (h.ls.blk hl).2.1
theorem PIs.drewN (h : PIs w base s g tv raw l) (n : Nat) : PIs (w.drewN n) base s g tv raw l := h.keep rfl rfl fun _ _ => rfl
variable {rv : Option Addr} {rc : Nat × Nat} {c : Cfg} {regs : List Reg}
theorem RIs.rb (h : RIs w base s g rv rc tv c regs raw l) : ∃ cs, Blk w g 2 cs := own_blk h.rawb rfl
theorem RIs.gl (h : RIs w base s g rv rc tv c regs raw l) : g < w.heap.size := (h.rawb.lt g rfl).2
theorem RIs.keep (h : RIs w base s g rv rc tv c regs raw l) (hs : w'.heap[s]? = w.heap[s]?) (hg : w'.heap[g]? = w.heap[g]?) (hr : ∀ b, (Value.slice rv regs.length rc.1).ownBlock = some b → w'.heap[b]? = w.heap[b]?) (hk : ∀ b, LBlocks tv l b → w'.heap[b]? = w.heap[b]?) : RIs w' base s g rv rc tv c regs raw l :=
  ⟨hs.trans h.blk, own_keep h.regs hr, own_keep h.rawb fun b hb => by injection hb with hb; rw [← hb]; exact hg, h.ls.keep hk, h.sepr, h.b0, h.b1⟩
theorem RIs.below (h : RIs w base s g rv rc tv c regs raw l) (hb : Below w.heap.size w w') : RIs w' base s g rv rc tv c regs raw l :=
  h.keep (hb.block s h.blk.lt) (hb.block g h.gl) (fun b hl => hb.block b (h.regs.lt b hl).2) fun b hl => hb.block b (h.ls.blk hl).2.1
theorem RIs.alloc (h : RIs w base s g rv rc tv c regs raw l) (o : Obj) : RIs (w.alloc o) base s g rv rc tv c regs raw l :=
  h.keep (Below.heap_alloc w o s h.blk.lt) (Below.heap_alloc w o g h.gl) (fun b hl => Below.heap_alloc w o b (h.regs.lt b hl).2) fun b hl => Below.heap_alloc w o b (h.ls.blk hl).2.1
theorem RIs.drewN (h : RIs w base s g rv rc tv c regs raw l) (n : Nat) : RIs (w.drewN n) base s g rv rc tv c regs raw l := h.keep rfl rfl (fun _ _ => rfl) fun _ _ => rfl
end

/-- What a region's collection is at first. -/
def thing0 (r : Reg) : TS := ⟨r.kind, r.cap, if r.kind = 1 then List.replicate r.cap.toNat 0 else [], []⟩
end Go.Proofs.Ytpmpgnhbpneloaa
