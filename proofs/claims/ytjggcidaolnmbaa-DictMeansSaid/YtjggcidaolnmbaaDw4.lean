/- What the dict machine's 'writes' does. -/
import Derived.Test.YtjggcidaolnmbaaDw3
namespace Go.Proofs.Ytjggcidaolnmbaa
open Go.RowKit Go.Joins Go.ChangeShapes Go.WideShapes Go.Deep
set_option linter.unusedVariables false
set_option maxRecDepth 100000

structure Two (b g : Nat) (w w' : World) : Prop where
  os : w'.os = w.os
  tape : w'.tape = w.tape
  output : w'.output = w.output
  size : w.heap.size ≤ w'.heap.size
  block : ∀ k, k < w.heap.size → k ≠ b → k ≠ g → w'.heap[k]? = w.heap[k]?

theorem Two.refl (b g : Nat) (w : World) : Two b g w w := ⟨rfl, rfl, rfl, Nat.le_refl _, fun _ _ _ _ => rfl⟩
theorem Two.set_ {b g : Nat} {w w' : World} (h : Two b g w w') {p : Addr} (hp : p.block = b ∨ p.block = g ∨ w.heap.size ≤ p.block) (u : Value) : Two b g w (w'.setCell p u) :=
  ⟨h.os, h.tape, h.output, by simpa [World.setCell] using h.size, fun i hi hb hg => (Below.heap_setCell w' p u i (by rintro rfl; rcases hp with hp | hp | hp; exact hb hp; exact hg hp; omega)).trans (h.block i hi hb hg)⟩
theorem Two.drew {b g : Nat} {w w' : World} (h : Two b g w w') : Two b g w w'.drew := ⟨h.os, h.tape, h.output, h.size, h.block⟩
theorem Two.alloc {b g : Nat} {w w' : World} (h : Two b g w w') (o : Obj) : Two b g w (w'.alloc o) :=
  ⟨h.os, h.tape, h.output, Nat.le_trans h.size (by simp), fun i hi hb hg => (Below.heap_alloc w' o i (Nat.lt_of_lt_of_le hi h.size)).trans (h.block i hi hb hg)⟩

theorem cellsOf_cons (x : Want) (l : List Want) : cellsOf (x :: l) = x.cells ++ cellsOf l := rfl
theorem cellsOf_length (l : List Want) : (cellsOf l).length = l.length * 4 := by
  induction l with
  | nil => rfl
  | cons x l ih => rw [cellsOf_cons, List.length_append, ih]; simp [Want.cells]; omega
theorem cellsOf_at {l : List Want} {k : Nat} {x : Want} (h : l[k]? = some x) (j : Nat) (hj : j < 4) : (cellsOf l)[k * 4 + j]? = x.cells[j]? := by
  induction l generalizing k with
  | nil => simp at h
  | cons y l ih =>
    rw [cellsOf_cons]
    cases k with
    | zero =>
      simp at h
      subst h
      rw [List.getElem?_append_left (by simp [Want.cells]; omega)]
      simp
    | succ k =>
      simp at h
      rw [List.getElem?_append_right (by simp [Want.cells]; omega), ← ih h]
      congr 1
      simp [Want.cells]
      omega
theorem cellsOf_set (l : List Want) (k : Nat) (x y : Want) (h : l[k]? = some x) (e2 : y.value = x.value) (e3 : y.code = x.code) :
    ((cellsOf l).set (k * 4) (.int .i64 y.kind)).set (k * 4 + 1) (.int .i64 y.cell) = cellsOf (l.set k y) := by
  induction l generalizing k with
  | nil => simp at h
  | cons z l ih =>
    rw [cellsOf_cons]
    cases k with
    | zero =>
      simp at h
      subst h
      simp [Want.cells, cellsOf_cons, e2, e3]
    | succ k =>
      simp at h
      have e := ih k h
      rw [List.set_cons_succ, cellsOf_cons, ← e]
      have hz : z.cells.length = 4 := rfl
      rw [List.set_append_right _ _ (by omega), List.set_append_right _ _ (by omega)]
      congr 2
      · congr 1
        omega
      · omega
theorem take_step {α : Type} (f : α → α) (l : List α) (k : Nat) (h : k < l.length) : ((l.take k).map f ++ l.drop k).set k (f l[k]) = (l.take (k + 1)).map f ++ l.drop (k + 1) := by
  apply List.ext_getElem?
  intro i
  rw [List.getElem?_set]
  by_cases h1 : k = i
  · subst h1
    simp [List.getElem?_append, h, List.getElem?_take, Nat.min_eq_left (Nat.le_of_lt h), Nat.min_eq_left h]
    try omega
  · by_cases h2 : i < k
    · simp [List.getElem?_append, h1, List.getElem?_take, Nat.min_eq_left (Nat.le_of_lt h), Nat.min_eq_left h, h2, show i < k + 1 by omega]
    · have e1 : k + (i - k) = i := by omega
      have e2 : k + 1 + (i - (k + 1)) = i := by omega
      simp [List.getElem?_append, h1, Nat.min_eq_left (Nat.le_of_lt h), Nat.min_eq_left h, h2, show ¬ i < k + 1 by omega, e1, e2]
theorem mid_at {α : Type} (f : α → α) (l : List α) (k : Nat) (h : k < l.length) : ((l.take k).map f ++ l.drop k)[k]? = some l[k] := by
  rw [List.getElem?_append_right (by simp; omega)]
  simp [Nat.min_eq_left (Nat.le_of_lt h), List.getElem?_eq_getElem h]
/-- What a round of 'writes' makes of the block. -/
theorem round_blk {w : World} {g : Nat} (base : Int) (l : List Want) (k : Nat) (h : k < l.length) (hG : Blk w g 37 (cellsOf ((l.take k).map (put base) ++ l.drop k)).toArray) :
    Blk ((w.setCell ⟨g, k * 4, none⟩ (.int .i64 3)).setCell ⟨g, k * 4 + 1, none⟩ (.int .i64 (wrap64 (l[k].cell + base)))) g 37 (cellsOf ((l.take (k + 1)).map (put base) ++ l.drop (k + 1))).toArray := by
  have h1 := (hG.set_ (k * 4) (.int .i64 3)).set_ (k * 4 + 1) (.int .i64 (wrap64 (l[k].cell + base)))
  rw [List.setIfInBounds_toArray, List.setIfInBounds_toArray] at h1
  rw [← take_step (put base) l k h, ← cellsOf_set _ k l[k] (put base l[k]) (mid_at _ l k h) rfl rfl]
  exact h1

set_option maxHeartbeats 400000 in
theorem writes_any (b g : Nat) (s : DS) (x : Want) (l' : List Want) (tv nv : Value) (w : World) (hl4 : l'.length ≤ 3) (hN : ∀ w S, ThnIs w S nv s.thn) (hB : Blk w b 64 (s.cells tv nv))
    (hG : Blk w g 37 (cellsOf (x :: l')).toArray) (n : Nat) (hn : (x :: l').length = n) :
    Calls Try.prog 68 #[.pointer (some ⟨b, 0, none⟩), .slice (some ⟨g, 0, none⟩) n n] w fun e w' =>
      ∃ y s', writesF s x l' = (y, s') ∧ e = .returned (.agg #[.int .i64 y.kind, .int .i64 y.cell, .int .i64 y.value, .int .i64 y.code]) ∧ MIs w' b s' (fun q => q = g) ∧ Two b g w w' := by
  obtain ⟨l, hll⟩ : ∃ l, l = x :: l' := ⟨_, rfl⟩
  rw [← hll] at hn hG
  have hl : 0 < n := by rw [← hn, hll]; simp
  have hl4 : n ≤ 4 := by rw [← hn, hll]; simp; omega
  have hlt := hB.lt
  have hgt := hG.lt
  have hne : g ≠ b := hG.ne_ hB (by decide)
  have HL := Lib.hid hll
  have HN := Lib.hid hN
  have HLN := Lib.hid hn
  clear hll hn hN
  go_enter Try.func68, Try.ntmps68
  go_wp2
  go_loopw [8] (fun i wr => ∃ k : Nat, k ≤ n ∧ i = .int .i64 k ∧ Blk wr b 64 (s.cells tv nv) ∧ Blk wr g 37 (cellsOf ((l.take k).map (put s.base) ++ l.drop k)).toArray ∧
      Blk wr w.heap.size 37 #[.int .i64 0, .int .i64 0, .int .i64 0, .int .i64 0] ∧ Two b g w wr) (fun i _ => n - (intOf i).toNat)
  case atStart => exact ⟨0, Nat.zero_le _, rfl, hB.alloc _, by simpa using hG.alloc _, Blk.new _ _ _, (Two.refl _ _ _).alloc _⟩
  case round =>
    obtain ⟨k, hk, rfl, hBr, hGr, hZ, hT⟩ := hrel
    by_cases hkn : k < n
    · have hkl : k < l.length := by rw [HLN.out]; exact hkn
      have c0 : wr.cell? ⟨b, 0, none⟩ = some (.int .i64 s.base) := (hBr.cell 0).trans rfl
      have d0 : wr.cell? ⟨g, k * 4, none⟩ = some (.int .i64 l[k].kind) := (hGr.cell (k * 4)).trans (by simpa [Want.cells] using cellsOf_at (mid_at (put s.base) l k hkl) 0 (by omega))
      have d1 : wr.cell? ⟨g, k * 4 + 1, none⟩ = some (.int .i64 l[k].cell) := (hGr.cell (k * 4 + 1)).trans (by simpa [Want.cells] using cellsOf_at (mid_at (put s.base) l k hkl) 1 (by omega))
      have fz0 : wr.frozen? ⟨g, k * 4, none⟩ = false := hGr.frozen _
      have fz1 : wr.frozen? ⟨g, k * 4 + 1, none⟩ = false := hGr.frozen _
      have hrb := round_blk s.base l k hkl hGr
      have HR := Lib.hid hrb
      clear hrb
      go_wp2
      go_region
      go_wp2
      go_roundw
      case rel => exact ⟨k + 1, by omega, by go_num, (hBr.far (by exact hne.symm) _).far (by exact hne.symm) _, HR.out, (hZ.far (by show _ ≠ g; omega) _).far (by show _ ≠ g; omega) _, ((hT.set_ (.inr (.inl rfl)) _).set_ (.inr (.inl rfl)) _).drew⟩
      case measure => simp [intOf]; omega
    · obtain rfl : k = n := by omega
      have hGr' : Blk wr g 37 (cellsOf (l.map (put s.base))).toArray := by
        have := hGr
        rw [List.take_of_length_le (by rw [HLN.out]; exact Nat.le_refl _), List.drop_of_length_le (by rw [HLN.out]; exact Nat.le_refl _), List.append_nil] at this
        exact this
      clear hGr
      have hmap : l.map (put s.base) = put s.base x :: l'.map (put s.base) := by rw [HL.out]; rfl
      have HM := Lib.hid hmap
      rw [hmap] at hGr'
      clear hmap
      have c8 : wr.cell? ⟨b, 8, none⟩ = some tv := (hBr.cell 8).trans rfl
      have f8 : wr.frozen? ⟨b, 8, none⟩ = false := hBr.frozen 8
      have d0 : wr.cell? ⟨g, 0, none⟩ = some (.int .i64 3) := (hGr'.cell 0).trans rfl
      have d1 : wr.cell? ⟨g, 1, none⟩ = some (.int .i64 (put s.base x).cell) := (hGr'.cell 1).trans rfl
      have d2 : wr.cell? ⟨g, 2, none⟩ = some (.int .i64 (put s.base x).value) := (hGr'.cell 2).trans rfl
      have d3 : wr.cell? ⟨g, 3, none⟩ = some (.int .i64 (put s.base x).code) := (hGr'.cell 3).trans rfl
      have n0 : wr.cell? ⟨w.heap.size, 0, none⟩ = some (.int .i64 0) := (hZ.cell 0).trans rfl
      have n1 : wr.cell? ⟨w.heap.size, 1, none⟩ = some (.int .i64 0) := (hZ.cell 1).trans rfl
      have n2 : wr.cell? ⟨w.heap.size, 2, none⟩ = some (.int .i64 0) := (hZ.cell 2).trans rfl
      have n3 : wr.cell? ⟨w.heap.size, 3, none⟩ = some (.int .i64 0) := (hZ.cell 3).trans rfl
      have f0 : wr.frozen? ⟨w.heap.size, 0, none⟩ = false := hZ.frozen 0
      have f1 : wr.frozen? ⟨w.heap.size, 1, none⟩ = false := hZ.frozen 1
      have f2 : wr.frozen? ⟨w.heap.size, 2, none⟩ = false := hZ.frozen 2
      have f3 : wr.frozen? ⟨w.heap.size, 3, none⟩ = false := hZ.frozen 3
      have hn3 : w.heap.size ≠ g := by omega
      have hn4 : w.heap.size ≠ b := by omega
      have hlen : l'.length + 1 = k := by have := HLN.out; rw [HL.out] at this; simpa using this
      have HLL := Lib.hid hlen
      clear hlen
      go_wp2
      all_goals
        refine bodyPost_ret (v := .agg #[.int .i64 3, .int .i64 (put s.base x).cell, .int .i64 (put s.base x).value, .int .i64 (put s.base x).code]) (by simp [results, Try.results68, go_sem, n0, n1, n2, n3]) rfl ?_
      · have h1 : l' = [] := List.eq_nil_of_length_eq_zero (by have := HLL.out; omega)
        subst h1
        refine ⟨_, _, rfl, rfl, ⟨_, _, ((((hBr.set_ 8 _).far hn4.symm _).far hn4.symm _).far hn4.symm _).far hn4.symm _, .inl ⟨rfl, _, _, rfl⟩, HN.out _ _⟩, ?_⟩
        exact ((((hT.set_ (.inl rfl) _).set_ (.inr (.inr (Nat.le_refl _))) _).set_ (.inr (.inr (Nat.le_refl _))) _).set_ (.inr (.inr (Nat.le_refl _))) _).set_ (.inr (.inr (Nat.le_refl _))) _
      · refine ⟨_, _, rfl, rfl, ⟨_, _, ((((hBr.set_ 8 _).far hn4.symm _).far hn4.symm _).far hn4.symm _).far hn4.symm _, .inr ⟨g, 4, k - 1, _, ?_, ?_, by omega, ((((hGr'.far hne _).far hn3.symm _).far hn3.symm _).far hn3.symm _).far hn3.symm _, rfl, ?_⟩, HN.out _ _⟩, ?_⟩
        · simp only [writesF, List.length_map]
          have := HLL.out
          rw [show l'.length = k - 1 by omega]
        · simp only [writesF, List.length_map]
          have := HLL.out
          omega
        · intro i u hu
          rw [cellsOf_cons]
          simp only [List.getElem?_toArray]
          rw [List.getElem?_append_right (by simp [Want.cells])]
          rw [← hu]
          congr 1
          simp [Want.cells]
        · exact ((((hT.set_ (.inl rfl) _).set_ (.inr (.inr (Nat.le_refl _))) _).set_ (.inr (.inr (Nat.le_refl _))) _).set_ (.inr (.inr (Nat.le_refl _))) _).set_ (.inr (.inr (Nat.le_refl _))) _

/-- What 'writes' leaves. -/
def WPost (b g : Nat) (w : World) (r : Want × DS) : Ending → World → Prop := fun e w' =>
  ∃ y s', r = (y, s') ∧ e = .returned (.agg #[.int .i64 y.kind, .int .i64 y.cell, .int .i64 y.value, .int .i64 y.code]) ∧ MIs w' b s' (fun q => q = g) ∧ Two b g w w'

theorem aft_blk {w w0 w1 : World} {b g : Nat} {t : TypeId} {cs : Array Value} (h1 : w.heap.size < w0.heap.size) (h2 : w.heap.size ≠ b) (h3 : w.heap.size ≠ g) (hg : Two b g w0 w1) (h : Blk w0 w.heap.size t cs) : Blk w1 w.heap.size t cs :=
  (hg.block w.heap.size h1 h2 h3).trans h

theorem DPost.tail2 {w w0 w1 : World} {b g : Nat} {S : Nat → Prop} {x : Want} {s' : DS} {r : Want × DS} (h0 : w.grownBy w0 (some b)) (hgn : w.heap.size < g)
    (hlt : b < w.heap.size) (hM : MIs w1 b s' (fun q => q = g)) (hg : Two b g w0 w1) (hr : r = (x, s')) :
    DPost b S w r (.returned (.agg #[.int .i64 x.kind, .int .i64 x.cell, .int .i64 x.value, .int .i64 x.code]))
      ((((w1.setCell ⟨w.heap.size, 0, none⟩ (.int .i64 x.kind)).setCell ⟨w.heap.size, 1, none⟩ (.int .i64 x.cell)).setCell ⟨w.heap.size, 2, none⟩ (.int .i64 x.value)).setCell ⟨w.heap.size, 3, none⟩ (.int .i64 x.code)) := by
  have hno : ¬ (w.heap.size = g) := by omega
  have hb : w.heap.size ≠ b := by omega
  have h1 : w.grownBy w1 (some b) := ⟨hg.os.trans h0.os, hg.tape.trans h0.tape, hg.output.trans h0.output, Nat.le_trans h0.size hg.size, fun i hi hn =>
    (hg.block i (Nat.lt_of_lt_of_le hi h0.size) (fun e => hn (by rw [e])) (by omega)).trans (h0.block i hi hn)⟩
  refine ⟨x, s', hr, rfl, ?_, ?_⟩
  · refine MIs.more ((((hM.far (p := ⟨w.heap.size, 0, none⟩) hb hno _).far (p := ⟨w.heap.size, 1, none⟩) hb hno _).far (p := ⟨w.heap.size, 2, none⟩) hb hno _).far (p := ⟨w.heap.size, 3, none⟩) hb hno _) ?_
    rintro q rfl
    exact .inr (by omega)
  · exact only_setCell (only_setCell (only_setCell (only_setCell h1 (.inr (Nat.le_refl _)) _) (.inr (Nat.le_refl _)) _) (.inr (Nat.le_refl _)) _) (.inr (Nat.le_refl _)) _
end Go.Proofs.Ytjggcidaolnmbaa
