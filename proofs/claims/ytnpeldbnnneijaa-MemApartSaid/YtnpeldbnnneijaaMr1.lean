/- The document's memory: what it means that blocks hold it; is it an address, one address, what its word is. -/
import Derived.Test.YtnpeldbnnneijaaMp
import Derived.Test.YtnpeldbnnneijaaMsh
namespace Go.Proofs.Ytnpeldbnnneijaa
open Go.RowKit Go.Joins Go.ChangeShapes Go.WideShapes Go.Deep
set_option linter.unusedVariables false
set_option maxRecDepth 100000

structure Frm (w w' : World) (S : Nat → Prop) : Prop where
  os : w'.os = w.os
  tape : w'.tape = w.tape
  output : w'.output = w.output
  size : w.heap.size ≤ w'.heap.size
  block : ∀ q, q < w.heap.size → ¬ S q → w'.heap[q]? = w.heap[q]?
theorem Frm.refl (w : World) (S : Nat → Prop) : Frm w w S := ⟨rfl, rfl, rfl, Nat.le_refl _, fun _ _ _ => rfl⟩
theorem Frm.of_below {w w' : World} {S : Nat → Prop} (h : Below w.heap.size w w') : Frm w w' S := ⟨h.os, h.tape, h.output, h.size, fun q hq _ => h.block q hq⟩
theorem Frm.mono {w w' : World} {S S' : Nat → Prop} (h : Frm w w' S) (hs : ∀ q, S q → S' q) : Frm w w' S' := ⟨h.os, h.tape, h.output, h.size, fun q hq hS => h.block q hq fun hh => hS (hs q hh)⟩
theorem Frm.trans {w w1 w2 : World} {S : Nat → Prop} {S' : Nat → Prop} (h : Frm w w1 S) (k : Frm w1 w2 S') (hs : ∀ q, S' q → S q ∨ w.heap.size ≤ q) : Frm w w2 S :=
  ⟨k.os.trans h.os, k.tape.trans h.tape, k.output.trans h.output, Nat.le_trans h.size k.size, fun q hq hS => (k.block q (Nat.lt_of_lt_of_le hq h.size) fun hh => by
    rcases hs q hh with h1 | h1
    · exact hS h1
    · omega).trans (h.block q hq hS)⟩
theorem Frm.below {w w' : World} {S : Nat → Prop} {B : Nat} (h : Frm w w' S) (hB : B ≤ w.heap.size) (hs : ∀ q, S q → B ≤ q) : Below B w w' :=
  ⟨h.os, h.tape, h.output, h.size, fun q hq => h.block q (by omega) fun hh => by have := hs q hh; omega⟩
theorem Frm.drewN {w w' : World} {S : Nat → Prop} (h : Frm w w' S) (n : Nat) : Frm w (w'.drewN n) S := ⟨h.os, h.tape, h.output, h.size, h.block⟩
theorem own_shapes {w : World} {B e n size : Nat} {v : Value} {xs : List Value} (h : w.ownsRow B e size v n xs) : ∃ R c, v = .slice R n c ∧ n ≤ c ∧ Reads w w.heap.size size R n xs := by
  have h0 := h
  rcases h.2 with ⟨rfl, rfl⟩ | ⟨g, cap, cur, rfl, _, _, hnc, _⟩
  · exact ⟨none, 0, rfl, Nat.le_refl _, Reads.of_own h0⟩
  · exact ⟨_, cap, rfl, hnc, Reads.of_own h0⟩
theorem own_keep {w w' : World} {base : Nat} {e : TypeId} {size n : Nat} {v : Value} {xs : List Value} (h : w.ownsRow base e size v n xs) (hk : ∀ b, v.ownBlock = some b → w'.heap[b]? = w.heap[b]?) : w'.ownsRow base e size v n xs := by
  refine ⟨h.1, ?_⟩
  rcases h.2 with h0 | ⟨g, cap, cur, hv, hb, hg, r⟩
  · exact .inl h0
  · exact .inr ⟨g, cap, cur, hv, hb, (hk g (by rw [hv]; rfl)).trans hg, r⟩

theorem Reads.flatN {w : World} {B size n : Nat} {A : Option Addr} {xs : List Value} (h : Reads w B size A n xs) (hn : 0 < n) (hs : 0 < size) :
    ∃ b off, A = some ⟨b, off, none⟩ ∧ b < B ∧ ∀ j u, xs[j]? = some u → w.cell? ⟨b, off + j, none⟩ = some u := by
  obtain ⟨ad, rfl, hb, hc⟩ := h.2 hn
  obtain ⟨b, off, spot⟩ := ad
  have hl : 0 < xs.length := by have := h.1; have := Nat.mul_pos hn hs; omega
  have h0 := hc 0 _ (List.getElem?_eq_getElem hl)
  have hs : spot = none := by simpa [Addr.add] using World.cell?_spot h0
  subst hs
  refine ⟨b, off, rfl, hb, fun j u hu => ?_⟩
  have := hc j u hu
  unfold Addr.add at this
  by_cases hj : j = 0
  · subst hj
    simpa using this
  · rw [if_neg hj] at this
    simpa using this

/-! ### In memory -/
structure RIs (w : World) (base b : Nat) (lv : Value) (C R : Nat) (L : List Acc) : Prop where
  blk : Blk w b 63 #[.int .i64 C, .int .i64 R, lv]
  log : w.ownsRow base 44 8 lv L.length (accs L)
  b0 : base ≤ b
def RBlk (b : Nat) (lv : Value) (q : Nat) : Prop := q = b ∨ lv.ownBlock = some q
theorem RIs.keep {w w' : World} {base b C R : Nat} {lv : Value} {L : List Acc} (h : RIs w base b lv C R L) (hk : ∀ q, RBlk b lv q → w'.heap[q]? = w.heap[q]?) : RIs w' base b lv C R L :=
  ⟨(hk b (.inl rfl)).trans h.blk, own_keep h.log fun q hq => hk q (.inr hq), h.b0⟩
theorem RIs.in_ {w : World} {base b C R : Nat} {lv : Value} {L : List Acc} (h : RIs w base b lv C R L) {q : Nat} (hq : RBlk b lv q) : base ≤ q ∧ q < w.heap.size := by
  rcases hq with rfl | hq
  · exact ⟨h.b0, h.blk.lt⟩
  · exact h.log.lt q hq
theorem RIs.below {w w' : World} {base b C R : Nat} {lv : Value} {L : List Acc} (h : RIs w base b lv C R L) (hb : Below w.heap.size w w') : RIs w' base b lv C R L := h.keep fun q hq => hb.block q (h.in_ hq).2
theorem RIs.alloc {w : World} {base b C R : Nat} {lv : Value} {L : List Acc} (h : RIs w base b lv C R L) (o : Obj) : RIs (w.alloc o) base b lv C R L := h.below below_new
theorem RIs.drewN {w : World} {base b C R : Nat} {lv : Value} {L : List Acc} (h : RIs w base b lv C R L) (n : Nat) : RIs (w.drewN n) base b lv C R L := h.keep fun _ _ => rfl


theorem same_any (k i j k' i' j' : Int) (w : World) :
    Calls Try.prog 36 #[.agg #[.int .i64 k, .int .i64 i, .int .i64 j], .agg #[.int .i64 k', .int .i64 i', .int .i64 j']] w fun e w' => e = .returned (.bool (decide (k = k' ∧ i = i' ∧ j = j'))) ∧ Below w.heap.size w w' := by
  by_cases h1 : k = k'
  · subst h1
    by_cases h2 : i = i'
    · subst h2
      obtain ⟨r, hr⟩ : ∃ r, r = (j == j') := ⟨_, rfl⟩
      have e : decide (k = k ∧ i = i ∧ j = j') = r := by rw [hr]; by_cases hj : j = j' <;> simp [hj]
      have hr' : (j == j') = r := hr.symm
      rw [e]
      clear e hr
      go_enter Try.func36, Try.ntmps36
      go_wp2_with fail
      go_ret
      exact ⟨rfl, by repeat (first | with_reducible exact Below.refl _ _ | with_reducible refine Below.drew ?_ | with_reducible refine below_drewN ?_ _ | ((with_reducible refine Below.alloc ?_ ?_ _); (rotate_left; focus (first | with_reducible exact Nat.le_refl _ | omega | (simp; done) | (simp; omega) | (simp [World.setCell]; done) | (simp [World.setCell]; omega)))) | ((with_reducible refine Below.setCell ?_ ?_ _); (rotate_left; focus (first | with_reducible exact Nat.le_refl _ | omega | (simp; done) | (simp; omega) | (simp [World.setCell]; done) | (simp [World.setCell]; omega)))))⟩
    · have e : decide (k = k ∧ i = i' ∧ j = j') = false := by simp [h2]
      have e2 : (i == i') = false := by simp [h2]
      rw [e]
      clear e h2
      go_enter Try.func36, Try.ntmps36
      go_wp2_with fail
      go_ret
      exact ⟨rfl, by repeat (first | with_reducible exact Below.refl _ _ | with_reducible refine Below.drew ?_ | with_reducible refine below_drewN ?_ _ | ((with_reducible refine Below.alloc ?_ ?_ _); (rotate_left; focus (first | with_reducible exact Nat.le_refl _ | omega | (simp; done) | (simp; omega) | (simp [World.setCell]; done) | (simp [World.setCell]; omega)))) | ((with_reducible refine Below.setCell ?_ ?_ _); (rotate_left; focus (first | with_reducible exact Nat.le_refl _ | omega | (simp; done) | (simp; omega) | (simp [World.setCell]; done) | (simp [World.setCell]; omega)))))⟩
  · have e : decide (k = k' ∧ i = i' ∧ j = j') = false := by simp [h1]
    have e2 : (k == k') = false := by simp [h1]
    rw [e]
    clear e h1
    go_enter Try.func36, Try.ntmps36
    go_wp2_with fail
    go_ret
    exact ⟨rfl, by repeat (first | with_reducible exact Below.refl _ _ | with_reducible refine Below.drew ?_ | with_reducible refine below_drewN ?_ _ | ((with_reducible refine Below.alloc ?_ ?_ _); (rotate_left; focus (first | with_reducible exact Nat.le_refl _ | omega | (simp; done) | (simp; omega) | (simp [World.setCell]; done) | (simp [World.setCell]; omega)))) | ((with_reducible refine Below.setCell ?_ ?_ _); (rotate_left; focus (first | with_reducible exact Nat.le_refl _ | omega | (simp; done) | (simp; omega) | (simp [World.setCell]; done) | (simp [World.setCell]; omega)))))⟩

set_option maxHeartbeats 4000000 in
theorem is_any {w : World} {base b C R : Nat} {lv : Value} {L : List Acc} (h : RIs w base b lv C R L) (k i j : Int) :
    Calls Try.prog 30 #[.pointer (some ⟨b, 0, none⟩), .agg #[.int .i64 k, .int .i64 i, .int .i64 j]] w fun e w' => e = .returned (.bool (decide (isW C R k i j))) ∧ Below w.heap.size w w' := by
  have c0 : w.cell? ⟨b, 0, none⟩ = some (.int .i64 C) := (h.blk.cell 0).trans rfl
  have c1 : w.cell? ⟨b, 1, none⟩ = some (.int .i64 R) := (h.blk.cell 1).trans rfl
  have hbl := h.blk.lt
  clear h
  by_cases k1 : k = 1
  · subst k1
    by_cases h1 : i = 0
    · subst h1
      obtain ⟨r, hr⟩ : ∃ r, r = (j == 0) := ⟨_, rfl⟩
      have e : decide (isW C R 1 0 j) = r := by rw [hr, Bool.eq_iff_iff, decide_eq_true_iff, beq_iff_eq]; unfold isW; omega
      have hr' : (j == 0) = r := hr.symm
      clear hr
      rw [e]
      clear e
      go_enter Try.func30, Try.ntmps30
      go_wp2_with fail
      go_ret
      exact ⟨rfl, by repeat (first | with_reducible exact Below.refl _ _ | with_reducible refine Below.drew ?_ | with_reducible refine below_drewN ?_ _ | ((with_reducible refine Below.alloc ?_ ?_ _); (rotate_left; focus (first | with_reducible exact Nat.le_refl _ | omega | (simp; done) | (simp; omega) | (simp [World.setCell]; done) | (simp [World.setCell]; omega)))) | ((with_reducible refine Below.setCell ?_ ?_ _); (rotate_left; focus (first | with_reducible exact Nat.le_refl _ | omega | (simp; done) | (simp; omega) | (simp [World.setCell]; done) | (simp [World.setCell]; omega)))))⟩
    · have e : decide (isW C R 1 i j) = false := by rw [decide_eq_false_iff_not]; unfold isW; omega
      have e2 : (i == 0) = false := by simp [h1]
      rw [e]
      clear e
      go_enter Try.func30, Try.ntmps30
      go_wp2_with fail
      go_ret
      exact ⟨rfl, by repeat (first | with_reducible exact Below.refl _ _ | with_reducible refine Below.drew ?_ | with_reducible refine below_drewN ?_ _ | ((with_reducible refine Below.alloc ?_ ?_ _); (rotate_left; focus (first | with_reducible exact Nat.le_refl _ | omega | (simp; done) | (simp; omega) | (simp [World.setCell]; done) | (simp [World.setCell]; omega)))) | ((with_reducible refine Below.setCell ?_ ?_ _); (rotate_left; focus (first | with_reducible exact Nat.le_refl _ | omega | (simp; done) | (simp; omega) | (simp [World.setCell]; done) | (simp [World.setCell]; omega)))))⟩
  by_cases k2 : k = 2
  · subst k2
    by_cases h1 : 0 ≤ i
    · by_cases h2 : i < R
      · obtain ⟨r, hr⟩ : ∃ r, r = (j == 0) := ⟨_, rfl⟩
        have e : decide (isW C R 2 i j) = r := by rw [hr, Bool.eq_iff_iff, decide_eq_true_iff, beq_iff_eq]; unfold isW; omega
        have hr' : (j == 0) = r := hr.symm
        clear hr
        rw [e]
        clear e
        go_enter Try.func30, Try.ntmps30
        go_wp2_with fail
        go_quiet (fail)
        (try go_wp2_with fail)
        go_ret
        exact ⟨rfl, by repeat (first | with_reducible exact Below.refl _ _ | with_reducible refine Below.drew ?_ | with_reducible refine below_drewN ?_ _ | ((with_reducible refine Below.alloc ?_ ?_ _); (rotate_left; focus (first | with_reducible exact Nat.le_refl _ | omega | (simp; done) | (simp; omega) | (simp [World.setCell]; done) | (simp [World.setCell]; omega)))) | ((with_reducible refine Below.setCell ?_ ?_ _); (rotate_left; focus (first | with_reducible exact Nat.le_refl _ | omega | (simp; done) | (simp; omega) | (simp [World.setCell]; done) | (simp [World.setCell]; omega)))))⟩
      · have e : decide (isW C R 2 i j) = false := by rw [decide_eq_false_iff_not]; unfold isW; omega
        have e2 : decide (i < (R : Int)) = false := by simp; omega
        rw [e]
        clear e
        go_enter Try.func30, Try.ntmps30
        go_wp2_with fail
        go_quiet (fail)
        (try go_wp2_with fail)
        go_ret
        exact ⟨rfl, by repeat (first | with_reducible exact Below.refl _ _ | with_reducible refine Below.drew ?_ | with_reducible refine below_drewN ?_ _ | ((with_reducible refine Below.alloc ?_ ?_ _); (rotate_left; focus (first | with_reducible exact Nat.le_refl _ | omega | (simp; done) | (simp; omega) | (simp [World.setCell]; done) | (simp [World.setCell]; omega)))) | ((with_reducible refine Below.setCell ?_ ?_ _); (rotate_left; focus (first | with_reducible exact Nat.le_refl _ | omega | (simp; done) | (simp; omega) | (simp [World.setCell]; done) | (simp [World.setCell]; omega)))))⟩
    · have e : decide (isW C R 2 i j) = false := by rw [decide_eq_false_iff_not]; unfold isW; omega
      have e2 : decide (0 ≤ i) = false := by simp; omega
      rw [e]
      clear e
      go_enter Try.func30, Try.ntmps30
      go_wp2_with fail
      go_quiet (fail)
      (try go_wp2_with fail)
      go_ret
      exact ⟨rfl, by repeat (first | with_reducible exact Below.refl _ _ | with_reducible refine Below.drew ?_ | with_reducible refine below_drewN ?_ _ | ((with_reducible refine Below.alloc ?_ ?_ _); (rotate_left; focus (first | with_reducible exact Nat.le_refl _ | omega | (simp; done) | (simp; omega) | (simp [World.setCell]; done) | (simp [World.setCell]; omega)))) | ((with_reducible refine Below.setCell ?_ ?_ _); (rotate_left; focus (first | with_reducible exact Nat.le_refl _ | omega | (simp; done) | (simp; omega) | (simp [World.setCell]; done) | (simp [World.setCell]; omega)))))⟩
  by_cases k3 : k = 3
  · subst k3
    by_cases h1 : 0 ≤ i
    · by_cases h2 : i < R
      · by_cases h3 : 0 ≤ j
        · obtain ⟨r, hr⟩ : ∃ r, r = decide (j < 8) := ⟨_, rfl⟩
          have e : decide (isW C R 3 i j) = r := by rw [hr]; apply decide_eq_decide.2; unfold isW; omega
          have hr' : decide (j < 8) = r := hr.symm
          clear hr
          rw [e]
          clear e
          go_enter Try.func30, Try.ntmps30
          go_wp2_with fail
          go_quiet (fail)
          (try go_wp2_with fail)
          go_ret
          exact ⟨rfl, by repeat (first | with_reducible exact Below.refl _ _ | with_reducible refine Below.drew ?_ | with_reducible refine below_drewN ?_ _ | ((with_reducible refine Below.alloc ?_ ?_ _); (rotate_left; focus (first | with_reducible exact Nat.le_refl _ | omega | (simp; done) | (simp; omega) | (simp [World.setCell]; done) | (simp [World.setCell]; omega)))) | ((with_reducible refine Below.setCell ?_ ?_ _); (rotate_left; focus (first | with_reducible exact Nat.le_refl _ | omega | (simp; done) | (simp; omega) | (simp [World.setCell]; done) | (simp [World.setCell]; omega)))))⟩
        · have e : decide (isW C R 3 i j) = false := by rw [decide_eq_false_iff_not]; unfold isW; omega
          have e2 : decide (0 ≤ j) = false := by simp; omega
          rw [e]
          clear e
          go_enter Try.func30, Try.ntmps30
          go_wp2_with fail
          go_quiet (fail)
          (try go_wp2_with fail)
          go_ret
          exact ⟨rfl, by repeat (first | with_reducible exact Below.refl _ _ | with_reducible refine Below.drew ?_ | with_reducible refine below_drewN ?_ _ | ((with_reducible refine Below.alloc ?_ ?_ _); (rotate_left; focus (first | with_reducible exact Nat.le_refl _ | omega | (simp; done) | (simp; omega) | (simp [World.setCell]; done) | (simp [World.setCell]; omega)))) | ((with_reducible refine Below.setCell ?_ ?_ _); (rotate_left; focus (first | with_reducible exact Nat.le_refl _ | omega | (simp; done) | (simp; omega) | (simp [World.setCell]; done) | (simp [World.setCell]; omega)))))⟩
      · have e : decide (isW C R 3 i j) = false := by rw [decide_eq_false_iff_not]; unfold isW; omega
        have e2 : decide (i < (R : Int)) = false := by simp; omega
        rw [e]
        clear e
        go_enter Try.func30, Try.ntmps30
        go_wp2_with fail
        go_quiet (fail)
        (try go_wp2_with fail)
        go_ret
        exact ⟨rfl, by repeat (first | with_reducible exact Below.refl _ _ | with_reducible refine Below.drew ?_ | with_reducible refine below_drewN ?_ _ | ((with_reducible refine Below.alloc ?_ ?_ _); (rotate_left; focus (first | with_reducible exact Nat.le_refl _ | omega | (simp; done) | (simp; omega) | (simp [World.setCell]; done) | (simp [World.setCell]; omega)))) | ((with_reducible refine Below.setCell ?_ ?_ _); (rotate_left; focus (first | with_reducible exact Nat.le_refl _ | omega | (simp; done) | (simp; omega) | (simp [World.setCell]; done) | (simp [World.setCell]; omega)))))⟩
    · have e : decide (isW C R 3 i j) = false := by rw [decide_eq_false_iff_not]; unfold isW; omega
      have e2 : decide (0 ≤ i) = false := by simp; omega
      rw [e]
      clear e
      go_enter Try.func30, Try.ntmps30
      go_wp2_with fail
      go_quiet (fail)
      (try go_wp2_with fail)
      go_ret
      exact ⟨rfl, by repeat (first | with_reducible exact Below.refl _ _ | with_reducible refine Below.drew ?_ | with_reducible refine below_drewN ?_ _ | ((with_reducible refine Below.alloc ?_ ?_ _); (rotate_left; focus (first | with_reducible exact Nat.le_refl _ | omega | (simp; done) | (simp; omega) | (simp [World.setCell]; done) | (simp [World.setCell]; omega)))) | ((with_reducible refine Below.setCell ?_ ?_ _); (rotate_left; focus (first | with_reducible exact Nat.le_refl _ | omega | (simp; done) | (simp; omega) | (simp [World.setCell]; done) | (simp [World.setCell]; omega)))))⟩
  by_cases k4 : k = 4
  · subst k4
    by_cases h1 : 0 ≤ i
    · by_cases h2 : i < C
      · obtain ⟨r, hr⟩ : ∃ r, r = (j == 0) := ⟨_, rfl⟩
        have e : decide (isW C R 4 i j) = r := by rw [hr, Bool.eq_iff_iff, decide_eq_true_iff, beq_iff_eq]; unfold isW; omega
        have hr' : (j == 0) = r := hr.symm
        clear hr
        rw [e]
        clear e
        go_enter Try.func30, Try.ntmps30
        go_wp2_with fail
        go_quiet (fail)
        (try go_wp2_with fail)
        go_ret
        exact ⟨rfl, by repeat (first | with_reducible exact Below.refl _ _ | with_reducible refine Below.drew ?_ | with_reducible refine below_drewN ?_ _ | ((with_reducible refine Below.alloc ?_ ?_ _); (rotate_left; focus (first | with_reducible exact Nat.le_refl _ | omega | (simp; done) | (simp; omega) | (simp [World.setCell]; done) | (simp [World.setCell]; omega)))) | ((with_reducible refine Below.setCell ?_ ?_ _); (rotate_left; focus (first | with_reducible exact Nat.le_refl _ | omega | (simp; done) | (simp; omega) | (simp [World.setCell]; done) | (simp [World.setCell]; omega)))))⟩
      · have e : decide (isW C R 4 i j) = false := by rw [decide_eq_false_iff_not]; unfold isW; omega
        have e2 : decide (i < (C : Int)) = false := by simp; omega
        rw [e]
        clear e
        go_enter Try.func30, Try.ntmps30
        go_wp2_with fail
        go_quiet (fail)
        (try go_wp2_with fail)
        go_ret
        exact ⟨rfl, by repeat (first | with_reducible exact Below.refl _ _ | with_reducible refine Below.drew ?_ | with_reducible refine below_drewN ?_ _ | ((with_reducible refine Below.alloc ?_ ?_ _); (rotate_left; focus (first | with_reducible exact Nat.le_refl _ | omega | (simp; done) | (simp; omega) | (simp [World.setCell]; done) | (simp [World.setCell]; omega)))) | ((with_reducible refine Below.setCell ?_ ?_ _); (rotate_left; focus (first | with_reducible exact Nat.le_refl _ | omega | (simp; done) | (simp; omega) | (simp [World.setCell]; done) | (simp [World.setCell]; omega)))))⟩
    · have e : decide (isW C R 4 i j) = false := by rw [decide_eq_false_iff_not]; unfold isW; omega
      have e2 : decide (0 ≤ i) = false := by simp; omega
      rw [e]
      clear e
      go_enter Try.func30, Try.ntmps30
      go_wp2_with fail
      go_quiet (fail)
      (try go_wp2_with fail)
      go_ret
      exact ⟨rfl, by repeat (first | with_reducible exact Below.refl _ _ | with_reducible refine Below.drew ?_ | with_reducible refine below_drewN ?_ _ | ((with_reducible refine Below.alloc ?_ ?_ _); (rotate_left; focus (first | with_reducible exact Nat.le_refl _ | omega | (simp; done) | (simp; omega) | (simp [World.setCell]; done) | (simp [World.setCell]; omega)))) | ((with_reducible refine Below.setCell ?_ ?_ _); (rotate_left; focus (first | with_reducible exact Nat.le_refl _ | omega | (simp; done) | (simp; omega) | (simp [World.setCell]; done) | (simp [World.setCell]; omega)))))⟩
  · have e : decide (isW C R k i j) = false := by rw [decide_eq_false_iff_not]; unfold isW; omega
    have e1 : (k == 1) = false := by simp [k1]
    have e2 : (k == 2) = false := by simp [k2]
    have e3 : (k == 3) = false := by simp [k3]
    have e4 : (k == 4) = false := by simp [k4]
    clear k1 k2 k3 k4
    rw [e]
    clear e
    go_enter Try.func30, Try.ntmps30
    go_wp2_with fail
    go_ret
    exact ⟨rfl, by repeat (first | with_reducible exact Below.refl _ _ | with_reducible refine Below.drew ?_ | with_reducible refine below_drewN ?_ _ | ((with_reducible refine Below.alloc ?_ ?_ _); (rotate_left; focus (first | with_reducible exact Nat.le_refl _ | omega | (simp; done) | (simp; omega) | (simp [World.setCell]; done) | (simp [World.setCell]; omega)))) | ((with_reducible refine Below.setCell ?_ ?_ _); (rotate_left; focus (first | with_reducible exact Nat.le_refl _ | omega | (simp; done) | (simp; omega) | (simp [World.setCell]; done) | (simp [World.setCell]; omega)))))⟩

theorem lastW_none (k i j : Int) : ∀ (l : List Acc) (w : Int), (∀ x ∈ l, ¬ wrote k i j x) → lastW k i j l w = w
  | [], w, h => rfl
  | x :: l, w, h => by
    rw [lastW, if_neg (h x List.mem_cons_self)]
    exact lastW_none k i j l w fun y hy => h y (List.mem_cons_of_mem _ hy)
theorem lastW_hit (k i j : Int) (L : List Acc) (t : Nat) (w : Int) (ht : t < L.length) (h : wrote k i j L[t]) (hn : ∀ x ∈ L.drop (t + 1), ¬ wrote k i j x) : lastW k i j L w = L[t].value := by
  have e : L = L.take t ++ L[t] :: L.drop (t + 1) := by rw [← List.drop_eq_getElem_cons ht, List.take_append_drop]
  conv => lhs; rw [e]
  rw [lastW_append, lastW, if_pos h]
  exact lastW_none k i j _ _ hn

set_option maxHeartbeats 2000000 in
theorem rword_any {w : World} {base b C R : Nat} {lv : Value} {L : List Acc} (h : RIs w base b lv C R L) (k i j : Int) (hlog : L.length ≤ 2199023255550) :
    Calls Try.prog 31 #[.pointer (some ⟨b, 0, none⟩), .agg #[.int .i64 k, .int .i64 i, .int .i64 j]] w fun e w' => e = .returned (.int .i64 (lastW k i j L (begun k))) ∧ Below w.heap.size w w' := by
  obtain ⟨Rv, cap, rfl, hcap, hR⟩ := own_shapes h.log
  have c2 : w.cell? ⟨b, 2, none⟩ = some (.slice Rv L.length cap) := (h.blk.cell 2).trans rfl
  have hbl := h.blk.lt
  have HR := Lib.hid hR
  obtain ⟨n, hn⟩ : ∃ n, n = L.length := ⟨_, rfl⟩
  have HN := Lib.hid hn
  rw [← hn] at c2 hlog
  obtain ⟨z, hz⟩ : ∃ z, z = lastW k i j L (begun k) := ⟨_, rfl⟩
  have HZ := Lib.hid hz
  rw [← hz]
  clear h hR hn hz hcap
  go_enter Try.func31, Try.ntmps31
  go_wp2_with fail
  go_loopg [5] n (fun gk iv wr => ∃ q : Int, iv = .int .i64 q ∧ -1 ≤ q ∧ q < n ∧ gk = (q + 1).toNat ∧ (∀ x ∈ L.drop (q + 1).toNat, ¬ wrote k i j x) ∧ Blk wr w.heap.size 24 #[.int .i64 k, .int .i64 i, .int .i64 j] ∧ Below w.heap.size w wr)
  case atStart =>
    refine ⟨(n : Int) - 1, by go_num, by omega, by omega, by omega, ?_, by first | exact Blk.new _ _ _ | exact (Blk.new w _ _).drewN _, by repeat (first | with_reducible exact Below.refl _ _ | with_reducible refine Below.drew ?_ | with_reducible refine below_drewN ?_ _ | ((with_reducible refine Below.alloc ?_ ?_ _); (rotate_left; focus (first | with_reducible exact Nat.le_refl _ | omega | (simp; done) | (simp; omega) | (simp [World.setCell]; done) | (simp [World.setCell]; omega)))) | ((with_reducible refine Below.setCell ?_ ?_ _); (rotate_left; focus (first | with_reducible exact Nat.le_refl _ | omega | (simp; done) | (simp; omega) | (simp [World.setCell]; done) | (simp [World.setCell]; omega)))))⟩
    rw [show ((n : Int) - 1 + 1).toNat = n by omega, HN.out, List.drop_length]
    simp
  case round =>
    obtain ⟨q, rfl, hq1, hq2, hgk, hnw, hB, hbel⟩ := hrel
    have HG := Lib.hid hgk
    have HNW := Lib.hid hnw
    have HB := Lib.hid hB
    have HBEL := Lib.hid hbel
    have a0 : wr.cell? ⟨w.heap.size, 0, none⟩ = some (.int .i64 k) := (hB.cell 0).trans rfl
    have a1 : wr.cell? ⟨w.heap.size, 1, none⟩ = some (.int .i64 i) := (hB.cell 1).trans rfl
    have a2 : wr.cell? ⟨w.heap.size, 2, none⟩ = some (.int .i64 j) := (hB.cell 2).trans rfl
    have hAl := hB.lt
    have hblr : b < wr.heap.size := by have := hbel.size; omega
    have d2 : wr.cell? ⟨b, 2, none⟩ = some (.slice Rv n cap) := (hbel.cell (p := ⟨b, 2, none⟩) hbl).trans c2
    clear hgk hnw hB hbel
    by_cases hneg : q < 0
    · obtain rfl : q = -1 := by omega
      have hno : z = begun k := by
        rw [HZ.out]
        exact lastW_none _ _ _ _ _ (by simpa using HNW.out)
      by_cases k2 : k = 2
      · obtain rfl : z = 1 := by rw [hno, k2]; rfl
        subst k2
        clear hno
        go_wp2_with fail
        go_ret
        exact ⟨rfl, by repeat (first | with_reducible exact HBEL.out | with_reducible refine Below.drew ?_ | with_reducible refine below_drewN ?_ _ | ((with_reducible refine Below.alloc ?_ ?_ _); (rotate_left; focus (first | with_reducible exact Nat.le_refl _ | omega | (simp; done) | (simp; omega) | (simp [World.setCell]; done) | (simp [World.setCell]; omega)))) | ((with_reducible refine Below.setCell ?_ ?_ _); (rotate_left; focus (first | with_reducible exact Nat.le_refl _ | omega | (simp; done) | (simp; omega) | (simp [World.setCell]; done) | (simp [World.setCell]; omega)))))⟩
      · obtain rfl : z = 0 := by rw [hno, begun, if_neg k2]
        have e2 : (k == 2) = false := by simp [k2]
        clear hno k2
        go_wp2_with fail
        go_ret
        exact ⟨rfl, by repeat (first | with_reducible exact HBEL.out | with_reducible refine Below.drew ?_ | with_reducible refine below_drewN ?_ _ | ((with_reducible refine Below.alloc ?_ ?_ _); (rotate_left; focus (first | with_reducible exact Nat.le_refl _ | omega | (simp; done) | (simp; omega) | (simp [World.setCell]; done) | (simp [World.setCell]; omega)))) | ((with_reducible refine Below.setCell ?_ ?_ _); (rotate_left; focus (first | with_reducible exact Nat.le_refl _ | omega | (simp; done) | (simp; omega) | (simp [World.setCell]; done) | (simp [World.setCell]; omega)))))⟩
    · obtain ⟨t, rfl⟩ : ∃ t : Nat, q = t := ⟨q.toNat, by omega⟩
      have htn : t < n := by omega
      have htl : t < L.length := by rw [← HN.out]; exact htn
      obtain ⟨g, off, rfl, hg, hc⟩ := (HR.out.below HBEL.out).flatN (by omega) (by omega)
      have hx : ∀ s u, s < 8 → (L[t].cells)[s]? = some u → wr.cell? ⟨g, off + t * 8 + s, none⟩ = some u := by
        intro s u hs hu
        rw [Nat.add_assoc]
        refine hc (t * 8 + s) u ?_
        rw [show t * 8 + s = 8 * t + s by omega, accs_at L t s htl hs]
        exact hu
      have hhit := fun (hw : wrote k i j L[t]) => lastW_hit k i j L t (begun k) htl hw (by have := HNW.out; rwa [show ((t : Int) + 1).toNat = t + 1 by omega] at this)
      have hmiss : ¬ wrote k i j L[t] → ∀ x ∈ L.drop ((t : Int) - 1 + 1).toNat, ¬ wrote k i j x := by
        intro hw x hx
        rw [show ((t : Int) - 1 + 1).toNat = t by omega, List.drop_eq_getElem_cons htl] at hx
        rcases List.mem_cons.1 hx with rfl | hx
        · exact hw
        · exact HNW.out x (by rw [show ((t : Int) + 1).toNat = t + 1 by omega]; exact hx)
      obtain ⟨X, hX⟩ : ∃ X, X = L[t] := ⟨_, rfl⟩
      rw [← hX] at hx hhit hmiss
      obtain ⟨th, kd, xk, xi, xj, ol, vl, ys⟩ := X
      have x0 : wr.cell? ⟨g, off + t * 8, none⟩ = some (.int .i64 th) := hx 0 _ (by omega) rfl
      have x1 : wr.cell? ⟨g, off + t * 8 + 1, none⟩ = some (.int .i64 kd) := hx 1 _ (by omega) rfl
      have x2 : wr.cell? ⟨g, off + t * 8 + 2, none⟩ = some (.int .i64 xk) := hx 2 _ (by omega) rfl
      have x3 : wr.cell? ⟨g, off + t * 8 + 3, none⟩ = some (.int .i64 xi) := hx 3 _ (by omega) rfl
      have x4 : wr.cell? ⟨g, off + t * 8 + 4, none⟩ = some (.int .i64 xj) := hx 4 _ (by omega) rfl
      have x5 : wr.cell? ⟨g, off + t * 8 + 5, none⟩ = some (.int .i64 ol) := hx 5 _ (by omega) rfl
      have x6 : wr.cell? ⟨g, off + t * 8 + 6, none⟩ = some (.int .i64 vl) := hx 6 _ (by omega) rfl
      have x7 : wr.cell? ⟨g, off + t * 8 + 7, none⟩ = some (.bool ys) := hx 7 _ (by omega) rfl
      have hti : (t : Int) < (n : Int) := by omega
      have hgr : g < wr.heap.size := by have := HBEL.out.size; omega
      have HH := Lib.hid hhit
      have HM := Lib.hid hmiss
      clear hc hx hX hhit hmiss hneg hq1
      by_cases hs : xk = k ∧ xi = i ∧ xj = j
      · obtain ⟨g1, g2, g3⟩ := hs
        obtain rfl : k = xk := g1.symm
        obtain rfl : i = xi := g2.symm
        obtain rfl : j = xj := g3.symm
        clear g1 g2 g3
        have hsame := fun W => same_any k i j k i j W
        rw [show decide (k = k ∧ i = i ∧ j = j) = true by simp] at hsame
        by_cases k2 : kd = 2
        · subst k2
          have hz : z = vl := HZ.out.trans (HH.out ⟨⟨rfl, rfl, rfl⟩, .inl rfl⟩)
          subst hz
          go_wp2_with fail
          refine (hsame _).mono ?_
          rintro e w2 ⟨rfl, hb2⟩
          have hbx : Below w.heap.size w w2 := (by refine Below.trans ?_ (hb2.mono (by have := HBEL.out.size; simp; omega)); repeat (first | with_reducible exact HBEL.out | with_reducible refine Below.drew ?_ | with_reducible refine below_drewN ?_ _ | ((with_reducible refine Below.alloc ?_ ?_ _); (rotate_left; focus (first | with_reducible exact Nat.le_refl _ | omega | (simp; done) | (simp; omega) | (simp [World.setCell]; done) | (simp [World.setCell]; omega)))) | ((with_reducible refine Below.setCell ?_ ?_ _); (rotate_left; focus (first | with_reducible exact Nat.le_refl _ | omega | (simp; done) | (simp; omega) | (simp [World.setCell]; done) | (simp [World.setCell]; omega))))))
          have hXB : Blk w2 wr.heap.size 44 #[.int .i64 th, .int .i64 2, .int .i64 k, .int .i64 i, .int .i64 j, .int .i64 ol, .int .i64 z, .bool ys] := (by first | exact (Blk.new wr _ _).below hb2 (by simp [World.drewN]) | exact ((Blk.new wr _ _).drewN _).below hb2 (by simp [World.drewN]))
          have y1 : w2.cell? ⟨wr.heap.size, 1, none⟩ = some (.int .i64 2) := (hXB.cell 1).trans rfl
          have y6 : w2.cell? ⟨wr.heap.size, 6, none⟩ = some (.int .i64 z) := (hXB.cell 6).trans rfl
          have y7 : w2.cell? ⟨wr.heap.size, 7, none⟩ = some (.bool ys) := (hXB.cell 7).trans rfl
          have yl := hXB.lt
          go_wp2_with fail
          go_ret
          exact ⟨rfl, hbx⟩
        by_cases k3 : kd = 3
        · subst k3
          cases ys with
          | true =>
            have hz : z = vl := HZ.out.trans (HH.out ⟨⟨rfl, rfl, rfl⟩, .inr ⟨rfl, rfl⟩⟩)
            subst hz
            go_wp2_with fail
            refine (hsame _).mono ?_
            rintro e w2 ⟨rfl, hb2⟩
            have hbx : Below w.heap.size w w2 := (by refine Below.trans ?_ (hb2.mono (by have := HBEL.out.size; simp; omega)); repeat (first | with_reducible exact HBEL.out | with_reducible refine Below.drew ?_ | with_reducible refine below_drewN ?_ _ | ((with_reducible refine Below.alloc ?_ ?_ _); (rotate_left; focus (first | with_reducible exact Nat.le_refl _ | omega | (simp; done) | (simp; omega) | (simp [World.setCell]; done) | (simp [World.setCell]; omega)))) | ((with_reducible refine Below.setCell ?_ ?_ _); (rotate_left; focus (first | with_reducible exact Nat.le_refl _ | omega | (simp; done) | (simp; omega) | (simp [World.setCell]; done) | (simp [World.setCell]; omega))))))
            have hXB : Blk w2 wr.heap.size 44 #[.int .i64 th, .int .i64 3, .int .i64 k, .int .i64 i, .int .i64 j, .int .i64 ol, .int .i64 z, .bool true] := (by first | exact (Blk.new wr _ _).below hb2 (by simp [World.drewN]) | exact ((Blk.new wr _ _).drewN _).below hb2 (by simp [World.drewN]))
            have y1 : w2.cell? ⟨wr.heap.size, 1, none⟩ = some (.int .i64 3) := (hXB.cell 1).trans rfl
            have y6 : w2.cell? ⟨wr.heap.size, 6, none⟩ = some (.int .i64 z) := (hXB.cell 6).trans rfl
            have y7 : w2.cell? ⟨wr.heap.size, 7, none⟩ = some (.bool true) := (hXB.cell 7).trans rfl
            have yl := hXB.lt
            go_wp2_with fail
            go_ret
            exact ⟨rfl, hbx⟩
          | false =>
            have HM2 := Lib.hid (HM.out (fun h => by rcases h.2 with h | ⟨_, h⟩ <;> simp at h))
            go_wp2_with fail
            refine (hsame _).mono ?_
            rintro e w2 ⟨rfl, hb2⟩
            have hs2 := hb2.size
            simp at hs2
            have hbx : Below w.heap.size w w2 := (by refine Below.trans ?_ (hb2.mono (by have := HBEL.out.size; simp; omega)); repeat (first | with_reducible exact HBEL.out | with_reducible refine Below.drew ?_ | with_reducible refine below_drewN ?_ _ | ((with_reducible refine Below.alloc ?_ ?_ _); (rotate_left; focus (first | with_reducible exact Nat.le_refl _ | omega | (simp; done) | (simp; omega) | (simp [World.setCell]; done) | (simp [World.setCell]; omega)))) | ((with_reducible refine Below.setCell ?_ ?_ _); (rotate_left; focus (first | with_reducible exact Nat.le_refl _ | omega | (simp; done) | (simp; omega) | (simp [World.setCell]; done) | (simp [World.setCell]; omega))))))
            have hXB : Blk w2 wr.heap.size 44 #[.int .i64 th, .int .i64 3, .int .i64 k, .int .i64 i, .int .i64 j, .int .i64 ol, .int .i64 vl, .bool false] := (by first | exact (Blk.new wr _ _).below hb2 (by simp [World.drewN]) | exact ((Blk.new wr _ _).drewN _).below hb2 (by simp [World.drewN]))
            have y1 : w2.cell? ⟨wr.heap.size, 1, none⟩ = some (.int .i64 3) := (hXB.cell 1).trans rfl
            have y6 : w2.cell? ⟨wr.heap.size, 6, none⟩ = some (.int .i64 vl) := (hXB.cell 6).trans rfl
            have y7 : w2.cell? ⟨wr.heap.size, 7, none⟩ = some (.bool false) := (hXB.cell 7).trans rfl
            have yl := hXB.lt
            have hB2 : Blk w2 w.heap.size 24 #[.int .i64 k, .int .i64 i, .int .i64 j] := Blk.below (by first | exact HB.out.alloc _ | exact (HB.out.alloc _).drew | exact (HB.out.alloc _).drewN _ | exact (HB.out.drewN _).alloc _) hb2 (by simp; omega)
            clear a0 a1 a2 d2
            go_wp2_with fail
            go_roundg t
            case measure => have := HG.out; omega
            case rel => exact ⟨(t : Int) - 1, by go_num, by omega, by omega, by omega, HM2.out, hB2, hbx⟩
        · have e2 : (kd == 2) = false := by simp [k2]
          have e3 : (kd == 3) = false := by simp [k3]
          have HM2 := Lib.hid (HM.out (fun h => by rcases h.2 with h | ⟨h, _⟩; exact k2 h; exact k3 h))
          clear k2 k3
          go_wp2_with fail
          refine (hsame _).mono ?_
          rintro e w2 ⟨rfl, hb2⟩
          have hs2 := hb2.size
          simp at hs2
          have hbx : Below w.heap.size w w2 := (by refine Below.trans ?_ (hb2.mono (by have := HBEL.out.size; simp; omega)); repeat (first | with_reducible exact HBEL.out | with_reducible refine Below.drew ?_ | with_reducible refine below_drewN ?_ _ | ((with_reducible refine Below.alloc ?_ ?_ _); (rotate_left; focus (first | with_reducible exact Nat.le_refl _ | omega | (simp; done) | (simp; omega) | (simp [World.setCell]; done) | (simp [World.setCell]; omega)))) | ((with_reducible refine Below.setCell ?_ ?_ _); (rotate_left; focus (first | with_reducible exact Nat.le_refl _ | omega | (simp; done) | (simp; omega) | (simp [World.setCell]; done) | (simp [World.setCell]; omega))))))
          have hXB : Blk w2 wr.heap.size 44 #[.int .i64 th, .int .i64 kd, .int .i64 k, .int .i64 i, .int .i64 j, .int .i64 ol, .int .i64 vl, .bool ys] := (by first | exact (Blk.new wr _ _).below hb2 (by simp [World.drewN]) | exact ((Blk.new wr _ _).drewN _).below hb2 (by simp [World.drewN]))
          have y1 : w2.cell? ⟨wr.heap.size, 1, none⟩ = some (.int .i64 kd) := (hXB.cell 1).trans rfl
          have y6 : w2.cell? ⟨wr.heap.size, 6, none⟩ = some (.int .i64 vl) := (hXB.cell 6).trans rfl
          have y7 : w2.cell? ⟨wr.heap.size, 7, none⟩ = some (.bool ys) := (hXB.cell 7).trans rfl
          have yl := hXB.lt
          have hB2 : Blk w2 w.heap.size 24 #[.int .i64 k, .int .i64 i, .int .i64 j] := Blk.below (by first | exact HB.out.alloc _ | exact (HB.out.alloc _).drew | exact (HB.out.alloc _).drewN _ | exact (HB.out.drewN _).alloc _) hb2 (by simp; omega)
          clear a0 a1 a2 d2
          go_wp2_with fail
          go_roundg t
          case measure => have := HG.out; omega
          case rel => exact ⟨(t : Int) - 1, by go_num, by omega, by omega, by omega, HM2.out, hB2, hbx⟩
      · have hsame := fun W => same_any xk xi xj k i j W
        rw [show decide (xk = k ∧ xi = i ∧ xj = j) = false by simp [hs]] at hsame
        have HM2 := Lib.hid (HM.out (fun h => hs h.1))
        clear hs
        go_wp2_with fail
        refine (hsame _).mono ?_
        rintro e w2 ⟨rfl, hb2⟩
        have hs2 := hb2.size
        simp at hs2
        have hbx : Below w.heap.size w w2 := (by refine Below.trans ?_ (hb2.mono (by have := HBEL.out.size; simp; omega)); repeat (first | with_reducible exact HBEL.out | with_reducible refine Below.drew ?_ | with_reducible refine below_drewN ?_ _ | ((with_reducible refine Below.alloc ?_ ?_ _); (rotate_left; focus (first | with_reducible exact Nat.le_refl _ | omega | (simp; done) | (simp; omega) | (simp [World.setCell]; done) | (simp [World.setCell]; omega)))) | ((with_reducible refine Below.setCell ?_ ?_ _); (rotate_left; focus (first | with_reducible exact Nat.le_refl _ | omega | (simp; done) | (simp; omega) | (simp [World.setCell]; done) | (simp [World.setCell]; omega))))))
        have hXB : Blk w2 wr.heap.size 44 #[.int .i64 th, .int .i64 kd, .int .i64 xk, .int .i64 xi, .int .i64 xj, .int .i64 ol, .int .i64 vl, .bool ys] := (by first | exact (Blk.new wr _ _).below hb2 (by simp [World.drewN]) | exact ((Blk.new wr _ _).drewN _).below hb2 (by simp [World.drewN]))
        have y1 : w2.cell? ⟨wr.heap.size, 1, none⟩ = some (.int .i64 kd) := (hXB.cell 1).trans rfl
        have y6 : w2.cell? ⟨wr.heap.size, 6, none⟩ = some (.int .i64 vl) := (hXB.cell 6).trans rfl
        have y7 : w2.cell? ⟨wr.heap.size, 7, none⟩ = some (.bool ys) := (hXB.cell 7).trans rfl
        have yl := hXB.lt
        have hB2 : Blk w2 w.heap.size 24 #[.int .i64 k, .int .i64 i, .int .i64 j] := Blk.below (by first | exact HB.out.alloc _ | exact (HB.out.alloc _).drew | exact (HB.out.alloc _).drewN _ | exact (HB.out.drewN _).alloc _) hb2 (by simp; omega)
        clear a0 a1 a2 d2
        go_wp2_with fail
        go_roundg t
        case measure => have := HG.out; omega
        case rel => exact ⟨(t : Int) - 1, by go_num, by omega, by omega, by omega, HM2.out, hB2, hbx⟩
end Go.Proofs.Ytnpeldbnnneijaa
