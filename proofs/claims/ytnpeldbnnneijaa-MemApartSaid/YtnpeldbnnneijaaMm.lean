/- The shared memory as plain lists, what it means that blocks of memory hold it, and what its log says of each word. -/
import Derived.Test.YtnpeldbnnneijaaArg
namespace Go.Proofs.Ytnpeldbnnneijaa
open Go.RowKit Go.Joins Go.ChangeShapes Go.WideShapes Go.Deep
set_option linter.unusedVariables false

/-- An access. -/
structure Acc where
  thread : Int
  kind : Int
  k : Int
  i : Int
  j : Int
  old : Int
  value : Int
  yes : Bool
def Acc.cells (x : Acc) : List Value := [.int .i64 x.thread, .int .i64 x.kind, .int .i64 x.k, .int .i64 x.i, .int .i64 x.j, .int .i64 x.old, .int .i64 x.value, .bool x.yes]
def accs (l : List Acc) : List Value := l.flatMap Acc.cells
theorem accs_length (l : List Acc) : (accs l).length = l.length * 8 := by
  induction l with
  | nil => rfl
  | cons x l ih => simp only [accs, List.flatMap_cons, List.length_append, List.length_cons] at ih ⊢; rw [ih]; simp [Acc.cells]; omega
theorem accs_snoc (l : List Acc) (x : Acc) : accs (l ++ [x]) = accs l ++ x.cells := by simp [accs]
theorem accs_at : ∀ (l : List Acc) (n t : Nat) (h : n < l.length) (ht : t < 8), (accs l)[8 * n + t]? = (l[n].cells)[t]?
  | x :: l, 0, t, h, ht => by
    simp only [accs, List.flatMap_cons, Nat.mul_zero, Nat.zero_add, List.getElem_cons_zero]
    rw [List.getElem?_append_left (by simp [Acc.cells]; omega)]
  | x :: l, n + 1, t, h, ht => by
    have := accs_at l n t (by simpa using h) ht
    simp only [accs, List.flatMap_cons, List.getElem_cons_succ] at this ⊢
    rw [← this, List.getElem?_append_right (by simp [Acc.cells]; omega)]
    congr 1
    simp [Acc.cells]
    omega

/-- A memory. -/
structure MS where
  newest : Int
  heads : List Int
  sigs : List Int
  cells : List Int
  log : List Acc

/-- The word of an address; none: it is none. -/
def wordAt (m : MS) (k i j : Int) : Option Int :=
  if i < 0 ∨ j < 0 ∨ (0 < j ∧ k ≠ 3) then none
  else if k = 1 then (if i = 0 then some m.newest else none)
  else if k = 2 then m.heads[i.toNat]?
  else if k = 3 then (if j < 8 then m.sigs[i.toNat * 8 + j.toNat]? else none)
  else if k = 4 then m.cells[i.toNat]?
  else none
def setAt (m : MS) (k i j v : Int) : MS :=
  if k = 1 then { m with newest := v }
  else if k = 2 then { m with heads := m.heads.set i.toNat v }
  else if k = 3 then { m with sigs := m.sigs.set (i.toNat * 8 + j.toNat) v }
  else { m with cells := m.cells.set i.toNat v }
def ptrAt (b gh gs gc : Nat) (k i j : Int) : Nat × Nat :=
  if k = 1 then (b, 0) else if k = 2 then (gh, i.toNat) else if k = 3 then (gs, i.toNat * 8 + j.toNat) else (gc, i.toNat)

theorem setAt_word (m : MS) (k i j v V : Int) (h : wordAt m k i j = some V) (k' i' j' : Int) :
    wordAt (setAt m k i j v) k' i' j' = if k' = k ∧ i' = i ∧ j' = j then some v else wordAt m k' i' j' := by
  unfold wordAt at h
  by_cases hbad : i < 0 ∨ j < 0 ∨ (0 < j ∧ k ≠ 3)
  · rw [if_pos hbad] at h; cases h
  rw [if_neg hbad] at h
  by_cases hbad' : i' < 0 ∨ j' < 0 ∨ (0 < j' ∧ k' ≠ 3)
  · rw [if_neg (by rintro ⟨rfl, rfl, rfl⟩; exact hbad hbad')]
    unfold wordAt
    rw [if_pos hbad', if_pos hbad']
  unfold wordAt setAt
  rw [if_neg hbad', if_neg hbad']
  by_cases h1 : k = 1
  · subst h1
    have hi : i = 0 := by by_cases hi : i = 0; exact hi; simp [hi] at h
    by_cases h1' : k' = 1
    · subst h1'
      by_cases hi' : i' = 0
      · have hj : j' = j := by omega
        simp [hi, hi', hj]
      · have : ¬ i' = i := by omega
        simp [hi', this]
    · simp [h1']
  · rw [if_neg h1] at h
    simp only [h1, if_false]
    by_cases h2 : k = 2
    · subst h2
      by_cases h2' : k' = 2
      · subst h2'
        simp only [if_true] at h ⊢
        simp only [show ¬ ((2 : Int) = 1) by omega, if_false]
        obtain ⟨hlt, _⟩ := List.getElem?_eq_some_iff.1 h
        rw [List.getElem?_set]
        by_cases hii : i' = i
        · have hj : j' = j := by omega
          subst hii
          simp [hj, hlt]
        · rw [if_neg (by omega)]
          simp [hii]
      · simp [h2']
    · rw [if_neg h2] at h
      simp only [h2, if_false]
      by_cases h3 : k = 3
      · subst h3
        simp only [if_true] at h ⊢
        have hj8 : j < 8 := by by_cases hj : j < 8; exact hj; simp [hj] at h
        rw [if_pos hj8] at h
        obtain ⟨hlt, _⟩ := List.getElem?_eq_some_iff.1 h
        by_cases h3' : k' = 3
        · subst h3'
          simp only [show ¬ ((3 : Int) = 1) by omega, show ¬ ((3 : Int) = 2) by omega, if_false, if_true]
          by_cases hj8' : j' < 8
          · rw [if_pos hj8', if_pos hj8', List.getElem?_set]
            by_cases he : i' = i ∧ j' = j
            · obtain ⟨rfl, rfl⟩ := he
              simp [hlt]
            · rw [if_neg (by omega), if_neg (by simpa using he)]
          · rw [if_neg hj8', if_neg hj8', if_neg (by omega)]
        · simp [h3']
      · rw [if_neg h3] at h
        simp only [h3, if_false]
        by_cases h4 : k = 4
        · subst h4
          simp only [if_true] at h
          obtain ⟨hlt, _⟩ := List.getElem?_eq_some_iff.1 h
          by_cases h4' : k' = 4
          · subst h4'
            simp only [show ¬ ((4 : Int) = 1) by omega, show ¬ ((4 : Int) = 2) by omega, show ¬ ((4 : Int) = 3) by omega, if_false, if_true]
            rw [List.getElem?_set]
            by_cases hii : i' = i
            · have hj : j' = j := by omega
              subst hii
              simp [hj, hlt]
            · rw [if_neg (by omega)]
              simp [hii]
          · simp [h4']
        · rw [if_neg h4] at h
          cases h

/-- What a log says of a word that was w at first; none: an access isn't as it says. -/
def tell (k i j : Int) : List Acc → Int → Option Int
  | [], w => some w
  | x :: l, w =>
    if ¬ (x.k = k ∧ x.i = i ∧ x.j = j) then tell k i j l w
    else if (x.kind = 1 ∧ x.value ≠ w) ∨ (x.kind = 3 ∧ x.yes ≠ decide (x.old = w)) then none
    else tell k i j l (if x.kind = 2 ∨ (x.kind = 3 ∧ x.yes = true) then x.value else w)
theorem tell_append (k i j : Int) (l l' : List Acc) (w : Int) : tell k i j (l ++ l') w = (tell k i j l w).bind (tell k i j l') := by
  induction l generalizing w with
  | nil => rfl
  | cons x l ih =>
    simp only [List.cons_append, tell]
    split
    · exact ih w
    · split
      · rfl
      · exact ih _

/-- The log says what the words are. -/
def Told (m0 m : MS) : Prop :=
  (∀ k i j, (wordAt m0 k i j).isSome = (wordAt m k i j).isSome) ∧ ∀ k i j, tell k i j m.log ((wordAt m0 k i j).getD 0) = some ((wordAt m k i j).getD 0)

def withLog (m : MS) (x : Acc) : MS := { m with log := m.log ++ [x] }
theorem withLog_word (m : MS) (x : Acc) (k i j : Int) : wordAt (withLog m x) k i j = wordAt m k i j := rfl
theorem setAt_log (m : MS) (k i j v : Int) : (setAt m k i j v).log = m.log := by unfold setAt; repeat (first | split | rfl)

theorem Told.load {m0 m : MS} {k i j V t : Int} (h : Told m0 m) (hw : wordAt m k i j = some V) : Told m0 (withLog m ⟨t, 1, k, i, j, 0, V, false⟩) := by
  refine ⟨h.1, fun k' i' j' => ?_⟩
  rw [withLog_word]
  show tell k' i' j' (m.log ++ _) _ = _
  rw [tell_append, h.2]
  simp only [Option.bind_some, tell]
  by_cases he : k = k' ∧ i = i' ∧ j = j'
  · obtain ⟨rfl, rfl, rfl⟩ := he
    simp [hw]
  · simp [he]
theorem Told.write {m0 m : MS} {k i j v V : Int} {x : Acc} (h : Told m0 m) (hw : wordAt m k i j = some V) (hx : x.k = k ∧ x.i = i ∧ x.j = j) (hv : x.value = v)
    (hk : x.kind = 2 ∨ (x.kind = 3 ∧ x.yes = true ∧ x.old = V)) : Told m0 (withLog (setAt m k i j v) x) := by
  refine ⟨fun k' i' j' => ?_, fun k' i' j' => ?_⟩
  · rw [withLog_word, setAt_word m k i j v V hw]
    split
    · next he => obtain ⟨rfl, rfl, rfl⟩ := he; rw [h.1, hw]; rfl
    · exact h.1 k' i' j'
  · rw [withLog_word, setAt_word m k i j v V hw]
    show tell k' i' j' ((setAt m k i j v).log ++ _) _ = _
    rw [setAt_log, tell_append, h.2]
    simp only [Option.bind_some, tell]
    obtain ⟨h1, h2, h3⟩ := hx
    by_cases he : k' = k ∧ i' = i ∧ j' = j
    · obtain ⟨rfl, rfl, rfl⟩ := he
      rcases hk with hk | ⟨hk, hy, ho⟩
      · simp [h1, h2, h3, hk, hv]
      · simp [h1, h2, h3, hk, hy, ho, hw, hv]
    · rw [if_pos (by rw [h1, h2, h3]; omega), if_neg he]
theorem Told.swapNo {m0 m : MS} {k i j V : Int} {x : Acc} (h : Told m0 m) (hw : wordAt m k i j = some V) (hx : x.k = k ∧ x.i = i ∧ x.j = j) (hk : x.kind = 3) (hy : x.yes = false) (ho : x.old ≠ V) : Told m0 (withLog m x) := by
  refine ⟨h.1, fun k' i' j' => ?_⟩
  rw [withLog_word]
  show tell k' i' j' (m.log ++ _) _ = _
  rw [tell_append, h.2]
  simp only [Option.bind_some, tell]
  obtain ⟨h1, h2, h3⟩ := hx
  by_cases he : k' = k ∧ i' = i ∧ j' = j
  · obtain ⟨rfl, rfl, rfl⟩ := he
    rw [if_neg (by simp [h1, h2, h3]), if_neg (by simp [hk, hy, hw, ho]), if_neg (by simp [hk, hy])]
  · rw [if_pos (by rw [h1, h2, h3]; omega)]
theorem Told.start {m : MS} (h : m.log = []) : Told m m := ⟨fun _ _ _ => rfl, fun _ _ _ => by rw [h]; rfl⟩

/-! ### In memory -/
structure MIs (w : World) (base b gh gs gc : Nat) (lv : Value) (m : MS) : Prop where
  blk : Blk w b 59 #[.int .i64 m.newest, .slice (some ⟨gh, 0, none⟩) m.heads.length m.heads.length, .slice (some ⟨gs, 0, none⟩) m.heads.length m.heads.length, .slice (some ⟨gc, 0, none⟩) m.cells.length m.cells.length, lv]
  heads : Blk w gh 2 (ints m.heads).toArray
  sigs : Blk w gs 76 (ints m.sigs).toArray
  cells : Blk w gc 2 (ints m.cells).toArray
  log : w.ownsRow base 44 8 lv m.log.length (accs m.log)
  ne : gh ≠ gc
  b0 : base ≤ b
  b1 : base ≤ gh
  b2 : base ≤ gs
  b3 : base ≤ gc
  l0 : m.sigs.length = m.heads.length * 8
  l1 : m.heads.length ≤ 16
  l2 : m.cells.length ≤ 1024

section
variable {w w' : World} {base b gh gs gc : Nat} {lv : Value} {m : MS}
theorem MIs.below (h : MIs w base b gh gs gc lv m) (k : Below w.heap.size w w') : MIs w' base b gh gs gc lv m :=
  ⟨h.blk.below k h.blk.lt, h.heads.below k h.heads.lt, h.sigs.below k h.sigs.lt, h.cells.below k h.cells.lt, h.log.kept (only_of_below k none) (by cases Value.ownBlock _ <;> simp), h.ne, h.b0, h.b1, h.b2, h.b3, h.l0, h.l1, h.l2⟩
theorem MIs.alloc (h : MIs w base b gh gs gc lv m) (o : Obj) : MIs (w.alloc o) base b gh gs gc lv m :=
  ⟨h.blk.alloc o, h.heads.alloc o, h.sigs.alloc o, h.cells.alloc o, h.log.alloc o, h.ne, h.b0, h.b1, h.b2, h.b3, h.l0, h.l1, h.l2⟩
theorem MIs.drewN (h : MIs w base b gh gs gc lv m) (n : Nat) : MIs (w.drewN n) base b gh gs gc lv m :=
  ⟨h.blk, h.heads, h.sigs, h.cells, h.log, h.ne, h.b0, h.b1, h.b2, h.b3, h.l0, h.l1, h.l2⟩
theorem MIs.drew (h : MIs w base b gh gs gc lv m) : MIs w.drew base b gh gs gc lv m :=
  ⟨h.blk, h.heads, h.sigs, h.cells, h.log, h.ne, h.b0, h.b1, h.b2, h.b3, h.l0, h.l1, h.l2⟩

theorem cell_ints {g : Nat} {t : TypeId} {l : List Int} {n : Nat} {V : Int} (h : Blk w g t (ints l).toArray) (hn : l[n]? = some V) : w.cell? ⟨g, n, none⟩ = some (.int .i64 V) := by
  rw [h.cell n]
  simp [ints, hn]
theorem set_ints {g : Nat} {t : TypeId} {l : List Int} (h : Blk w g t (ints l).toArray) (n : Nat) (v : Int) : Blk (w.setCell ⟨g, n, none⟩ (.int .i64 v)) g t (ints (l.set n v)).toArray := by
  have := h.set_ n (.int .i64 v)
  rw [show (ints l).toArray.setIfInBounds n (.int .i64 v) = (ints (l.set n v)).toArray by simp [ints, List.map_set]] at this
  exact this

theorem MIs.own_ne (h : MIs w base b gh gs gc lv m) {g : Nat} {t : TypeId} {cs : Array Value} (hg : Blk w g t cs) (hne : 44 ≠ t) : lv.ownBlock ≠ some g := own_blk_ne h.log hg hne

/-- A word in memory: what it holds, and the memory behind a store to it. -/
theorem MIs.word (h : MIs w base b gh gs gc lv m) {k i j V : Int} (hw : wordAt m k i j = some V) {g off : Nat} (hp : ptrAt b gh gs gc k i j = (g, off)) :
    w.cell? ⟨g, off, none⟩ = some (.int .i64 V) ∧ w.frozen? ⟨g, off, none⟩ = false ∧ base ≤ g ∧ g < w.heap.size ∧ (g = b ∧ off = 0 ∨ g ≠ b) ∧ lv.ownBlock ≠ some g ∧ ∀ v, MIs (w.setCell ⟨g, off, none⟩ (.int .i64 v)) base b gh gs gc lv (setAt m k i j v) := by
  unfold wordAt at hw
  by_cases hbad : i < 0 ∨ j < 0 ∨ (0 < j ∧ k ≠ 3)
  · rw [if_pos hbad] at hw; cases hw
  rw [if_neg hbad] at hw
  have n0 : b ≠ gh := h.blk.ne_ h.heads (by decide)
  have n1 : b ≠ gs := h.blk.ne_ h.sigs (by decide)
  have n2 : b ≠ gc := h.blk.ne_ h.cells (by decide)
  have n3 : gh ≠ gs := h.heads.ne_ h.sigs (by decide)
  have n4 : gc ≠ gs := h.cells.ne_ h.sigs (by decide)
  have n5 := h.ne
  by_cases h1 : k = 1
  · subst h1
    rw [if_pos rfl] at hw
    have hi : i = 0 := by by_cases hi : i = 0; exact hi; simp [hi] at hw
    rw [if_pos hi] at hw
    injection hw with hw
    subst hw
    simp only [ptrAt, if_true, Prod.mk.injEq] at hp
    obtain ⟨rfl, rfl⟩ := hp
    refine ⟨(h.blk.cell 0).trans rfl, h.blk.frozen 0, h.b0, h.blk.lt, .inl ⟨rfl, rfl⟩, h.own_ne h.blk (by decide), fun v => ?_⟩
    simp only [setAt, if_true]
    exact ⟨h.blk.set_ 0 _, h.heads.far (p := ⟨b, 0, none⟩) n0.symm _, h.sigs.far (p := ⟨b, 0, none⟩) n1.symm _, h.cells.far (p := ⟨b, 0, none⟩) n2.symm _, ownsRow_setCell_other h.log (a := ⟨b, 0, none⟩) (h.own_ne h.blk (by decide)) _, h.ne, h.b0, h.b1, h.b2, h.b3, h.l0, h.l1, h.l2⟩
  · rw [if_neg h1] at hw
    simp only [ptrAt, if_neg h1] at hp
    by_cases h2 : k = 2
    · subst h2
      rw [if_pos rfl] at hw
      simp only [if_true, Prod.mk.injEq] at hp
      obtain ⟨rfl, rfl⟩ := hp
      refine ⟨cell_ints h.heads hw, h.heads.frozen _, h.b1, h.heads.lt, .inr n0.symm, h.own_ne h.heads (by decide), fun v => ?_⟩
      simp only [setAt, if_neg h1, if_true]
      refine ⟨?_, set_ints h.heads _ _, h.sigs.far (p := ⟨gh, _, none⟩) n3.symm _, h.cells.far (p := ⟨gh, _, none⟩) n5.symm _, ownsRow_setCell_other h.log (a := ⟨gh, _, none⟩) (h.own_ne h.heads (by decide)) _, h.ne, h.b0, h.b1, h.b2, h.b3, by simpa using h.l0, by simpa using h.l1, h.l2⟩
      simpa using h.blk.far (p := ⟨gh, i.toNat, none⟩) n0 (.int .i64 v)
    · rw [if_neg h2] at hw
      simp only [if_neg h2] at hp
      by_cases h3 : k = 3
      · subst h3
        rw [if_pos rfl] at hw
        simp only [if_true, Prod.mk.injEq] at hp
        obtain ⟨rfl, rfl⟩ := hp
        have hj8 : j < 8 := by by_cases hj : j < 8; exact hj; simp [hj] at hw
        rw [if_pos hj8] at hw
        refine ⟨cell_ints h.sigs hw, h.sigs.frozen _, h.b2, h.sigs.lt, .inr n1.symm, h.own_ne h.sigs (by decide), fun v => ?_⟩
        simp only [setAt, if_neg h1, if_neg h2, if_true]
        exact ⟨h.blk.far (p := ⟨gs, _, none⟩) n1 _, h.heads.far (p := ⟨gs, _, none⟩) n3 _, set_ints h.sigs _ _, h.cells.far (p := ⟨gs, _, none⟩) n4 _, ownsRow_setCell_other h.log (a := ⟨gs, _, none⟩) (h.own_ne h.sigs (by decide)) _, h.ne, h.b0, h.b1, h.b2, h.b3, by simpa using h.l0, h.l1, h.l2⟩
      · rw [if_neg h3] at hw
        simp only [if_neg h3, Prod.mk.injEq] at hp
        obtain ⟨rfl, rfl⟩ := hp
        by_cases h4 : k = 4
        · subst h4
          rw [if_pos rfl] at hw
          refine ⟨cell_ints h.cells hw, h.cells.frozen _, h.b3, h.cells.lt, .inr n2.symm, h.own_ne h.cells (by decide), fun v => ?_⟩
          simp only [setAt, if_neg h1, if_neg h2, if_neg h3]
          refine ⟨?_, h.heads.far (p := ⟨gc, _, none⟩) n5 _, h.sigs.far (p := ⟨gc, _, none⟩) n4.symm _, set_ints h.cells _ _, ownsRow_setCell_other h.log (a := ⟨gc, _, none⟩) (h.own_ne h.cells (by decide)) _, h.ne, h.b0, h.b1, h.b2, h.b3, h.l0, h.l1, by simpa using h.l2⟩
          simpa using h.blk.far (p := ⟨gc, i.toNat, none⟩) n2 (.int .i64 v)
        · rw [if_neg h4] at hw
          cases hw
theorem Blk.ne_word {a : Nat} {cs : Array Value} (hA : Blk w a 24 cs) (h : MIs w base b gh gs gc lv m) {k i j V : Int} (hw : wordAt m k i j = some V) {g off : Nat} (hp : ptrAt b gh gs gc k i j = (g, off)) : a ≠ g := by
  unfold ptrAt at hp
  split at hp
  · injection hp with hp; rw [← hp]; exact hA.ne_ h.blk (by decide)
  · split at hp
    · injection hp with hp; rw [← hp]; exact hA.ne_ h.heads (by decide)
    · split at hp
      · injection hp with hp; rw [← hp]; exact hA.ne_ h.sigs (by decide)
      · injection hp with hp; rw [← hp]; exact hA.ne_ h.cells (by decide)

/-- The memory behind an access that was logged. -/
theorem MIs.logged {w1 W1 w2 : World} {lv' : Value} {x : Acc} {n : Nat} (h : MIs w1 base b gh gs gc lv m) (hn : n = m.log.length) (hb : Below w1.heap.size w1 W1) (hgrow : W1.grownBy w2 lv.ownBlock) (hown1 : w2.ownsRow base 44 8 lv' (n + 1) (accs m.log ++ x.cells)) :
    MIs (w2.setCell ⟨b, 4, none⟩ lv') base b gh gs gc lv' (withLog m x) ∧ Below base w1 (w2.setCell ⟨b, 4, none⟩ lv') := by
  subst hn
  have hW := h.below hb
  have hb2 := hW.blk.grown hgrow (fun e => hW.own_ne hW.blk (by decide) e.symm)
  have hh2 := hW.heads.grown hgrow (fun e => hW.own_ne hW.heads (by decide) e.symm)
  have hs2 := hW.sigs.grown hgrow (fun e => hW.own_ne hW.sigs (by decide) e.symm)
  have hc2 := hW.cells.grown hgrow (fun e => hW.own_ne hW.cells (by decide) e.symm)
  have n0 : b ≠ gh := h.blk.ne_ h.heads (by decide)
  have n1 : b ≠ gs := h.blk.ne_ h.sigs (by decide)
  have n2 : b ≠ gc := h.blk.ne_ h.cells (by decide)
  refine ⟨⟨hb2.set_ 4 lv', hh2.far (p := ⟨b, 4, none⟩) n0.symm _, hs2.far (p := ⟨b, 4, none⟩) n1.symm _, hc2.far (p := ⟨b, 4, none⟩) n2.symm _, ?_, h.ne, h.b0, h.b1, h.b2, h.b3, h.l0, h.l1, h.l2⟩, ?_⟩
  · have := ownsRow_setCell_other hown1 (a := ⟨b, 4, none⟩) (own_blk_ne hown1 hb2 (by decide)) lv'
    show World.ownsRow _ base _ 8 lv' (m.log ++ [x]).length (accs (m.log ++ [x]))
    rw [accs_snoc, List.length_append]
    exact this
  · have hs := hb.size
    have hbl := h.blk.lt
    have hb0 := h.b0
    exact ((hb.mono (by omega)).grown hgrow (by omega) (fun q hq => (hW.log.lt q hq).1)).setCell hb0 _
end
end Go.Proofs.Ytnpeldbnnneijaa
