/- What a memory's New does. -/
import Derived.Test.YtnpeldbnnneijaaMw2
import Derived.Laws.MakeOwn
import Derived.Deep.LoopGhost
namespace Go.Proofs.Ytnpeldbnnneijaa
open Go.RowKit Go.Joins Go.ChangeShapes Go.WideShapes Go.Deep
set_option linter.unusedVariables false
set_option maxRecDepth 100000

theorem minfo_i64 : (Try.prog.info? 2).map (fun i => (i.zero, i.size, i.bytes)) = some (some (.int .i64 0), 1, 8) := by kernel_rfl
theorem minfo_sig : (Try.prog.info? 76).map (fun i => (i.zero, i.size, i.bytes)) = some (some (.agg #[.int .i64 0, .int .i64 0, .int .i64 0, .int .i64 0, .int .i64 0, .int .i64 0, .int .i64 0, .int .i64 0]), 8, 64) := by kernel_rfl

theorem made_ints (n : Nat) : madeCells #[.int .i64 0] n = (ints (List.replicate n 0)).toArray := by
  apply Array.ext'
  rw [toList_madeCells_one]
  simp [ints]
theorem made_sigs (n : Nat) : madeCells #[.int .i64 0, .int .i64 0, .int .i64 0, .int .i64 0, .int .i64 0, .int .i64 0, .int .i64 0, .int .i64 0] n = (ints (List.replicate n 0)).toArray := by
  apply Array.ext'
  apply List.ext_getElem?
  intro j
  by_cases hj : j < n
  · have h8 : j % 8 < 8 := Nat.mod_lt _ (by omega)
    have hz : (#[(.int .i64 0 : Value), .int .i64 0, .int .i64 0, .int .i64 0, .int .i64 0, .int .i64 0, .int .i64 0, .int .i64 0] : Array Value)[j % 8]? = some (.int .i64 0) := by
      generalize j % 8 = q at h8
      match q, h8 with
      | 0, _ => rfl
      | 1, _ => rfl
      | 2, _ => rfl
      | 3, _ => rfl
      | 4, _ => rfl
      | 5, _ => rfl
      | 6, _ => rfl
      | 7, _ => rfl
    rw [show (8 : Nat) = (#[(.int .i64 0 : Value), .int .i64 0, .int .i64 0, .int .i64 0, .int .i64 0, .int .i64 0, .int .i64 0, .int .i64 0] : Array Value).size from rfl] at hz
    simp only [madeCells]
    simp [hj, ints]
    simpa using congrArg (fun o : Option Value => o.getD default) hz
  · simp [madeCells, hj, ints]

theorem mk_ints (n : Nat) (h : n ≤ 1024) (W : World) : (Instr.makeSlice 56 (.int .i64 (n : Int)) (.int .i64 (n : Int))).run Try.prog W = .ok (.slice (some ⟨W.heap.size, 0, none⟩) n n) (W.alloc (.cells (ints (List.replicate n 0)).toArray 2)) := by
  obtain ⟨i, hi, hz, hs, hb⟩ := info_parts minfo_i64
  have hr := run_make (P := Try.prog) W 56 2 i _ Try.underlying56 hi hz .i64 .i64 (n : Int) (n : Int) (by omega) (by omega) (by rw [hb]; omega) (by omega)
  rw [hs, Int.toNat_natCast, Nat.mul_one] at hr
  rw [← made_ints]
  exact hr
theorem mk_sigs (n : Nat) (h : n ≤ 16) (W : World) : (Instr.makeSlice 57 (.int .i64 (n : Int)) (.int .i64 (n : Int))).run Try.prog W = .ok (.slice (some ⟨W.heap.size, 0, none⟩) n n) (W.alloc (.cells (ints (List.replicate (n * 8) 0)).toArray 76)) := by
  obtain ⟨i, hi, hz, hs, hb⟩ := info_parts minfo_sig
  have hr := run_make (P := Try.prog) W 57 76 i _ Try.underlying57 hi hz .i64 .i64 (n : Int) (n : Int) (by omega) (by omega) (by rw [hb]; omega) (by omega)
  rw [hs, Int.toNat_natCast] at hr
  rw [← made_sigs]
  exact hr

theorem new_no (c r : Int) (w : World) (hno : ¬ (1 ≤ c ∧ c ≤ 1024 ∧ 1 ≤ r ∧ r ≤ 16)) :
    Calls Try.prog 8 #[.int .i64 c, .int .i64 r] w fun e w' => e = .returned (.tuple #[.pointer none, .int .i64 1]) ∧ w = w' := by
  by_cases h1 : c < 1
  · clear hno
    go_enter Try.func8, Try.ntmps8
    go_wp2_with fail
    go_ret2
    exact ⟨rfl, rfl⟩
  have e1 : decide (c < 1) = false := by simpa using h1
  by_cases h2 : 1024 < c
  · clear hno
    go_enter Try.func8, Try.ntmps8
    go_wp2_with fail
    go_ret2
    exact ⟨rfl, rfl⟩
  have e2 : decide (1024 < c) = false := by simpa using h2
  by_cases h3 : r < 1
  · clear hno
    go_enter Try.func8, Try.ntmps8
    go_wp2_with fail
    go_ret2
    exact ⟨rfl, rfl⟩
  have e3 : decide (r < 1) = false := by simpa using h3
  have h4 : 16 < r := by omega
  clear hno
  go_enter Try.func8, Try.ntmps8
  go_wp2_with fail
  go_ret2
  exact ⟨rfl, rfl⟩

def headsAt (R k : Nat) : List Int := List.replicate k 1 ++ List.replicate (R - k) 0
theorem headsAt_len {R k : Nat} (h : k ≤ R) : (headsAt R k).length = R := by simp [headsAt]; omega
theorem headsAt_set {R k : Nat} (h : k < R) : (headsAt R k).set k 1 = headsAt R (k + 1) := by
  unfold headsAt
  rw [List.set_append_right _ _ (by simp)]
  simp only [List.length_replicate, Nat.sub_self]
  rw [show R - k = (R - (k + 1)) + 1 by omega, List.replicate_succ, List.set_cons_zero, List.replicate_succ', List.append_assoc]
  rfl
def memAt (C R k : Nat) : MS := ⟨0, headsAt R k, List.replicate (R * 8) 0, List.replicate C 0, []⟩
def newM (C R : Nat) : MS := memAt C R R

theorem start_is {W : World} {base b gh gs gc C R : Nat} (hb : Blk W b 59 #[.int .i64 0, .slice (some ⟨gh, 0, none⟩) R R, .slice (some ⟨gs, 0, none⟩) R R, .slice (some ⟨gc, 0, none⟩) C C, .slice none 0 0])
    (hh : Blk W gh 2 (ints (List.replicate R 0)).toArray) (hs : Blk W gs 76 (ints (List.replicate (R * 8) 0)).toArray) (hc : Blk W gc 2 (ints (List.replicate C 0)).toArray)
    (ne : gh ≠ gc) (b0 : base ≤ b) (b1 : base ≤ gh) (b2 : base ≤ gs) (b3 : base ≤ gc) (l1 : R ≤ 16) (l2 : C ≤ 1024) : MIs W base b gh gs gc (.slice none 0 0) (memAt C R 0) := by
  have e : headsAt R 0 = List.replicate R 0 := by simp [headsAt]
  refine ⟨?_, ?_, hs, hc, World.ownsRow_nil _ _ _ _, ne, b0, b1, b2, b3, ?_, ?_, ?_⟩
  · simpa [memAt, e] using hb
  · simpa [memAt, e] using hh
  · simp [memAt, e]
  · simpa [memAt, e] using l1
  · simpa [memAt] using l2
theorem MIs.step {W : World} {base b gh gs gc C R k : Nat} {lv : Value} (h : MIs W base b gh gs gc lv (memAt C R k)) (hk : k < R) :
    W.cell? ⟨b, 1, none⟩ = some (.slice (some ⟨gh, 0, none⟩) R R) ∧ W.cell? ⟨gh, k, none⟩ = some (.int .i64 0) ∧ W.frozen? ⟨gh, k, none⟩ = false ∧ base ≤ gh ∧ gh < W.heap.size ∧ b < W.heap.size ∧ MIs (W.setCell ⟨gh, k, none⟩ (.int .i64 1)) base b gh gs gc lv (memAt C R (k + 1)) := by
  have hw : wordAt (memAt C R k) 2 k ((0 : Nat) : Int) = some 0 := by
    unfold wordAt
    rw [if_neg (by omega)]
    simp only [show ¬ ((2 : Int) = 1) by omega, if_false, if_true, Int.toNat_natCast]
    show (headsAt R k)[k]? = _
    unfold headsAt
    rw [List.getElem?_append_right (by simp), List.length_replicate, Nat.sub_self, List.getElem?_replicate, if_pos (by omega)]
  obtain ⟨h1, h2, h3, h4, _, _, h5⟩ := h.word hw (g := gh) (off := k) (by simp [ptrAt])
  refine ⟨?_, h1, h2, h3, h4, h.blk.lt, ?_⟩
  · rw [h.blk.cell 1]
    show some (Value.slice _ (headsAt R k).length (headsAt R k).length) = _
    rw [headsAt_len (by omega)]
  · have := h5 1
    have e : setAt (memAt C R k) 2 k ((0 : Nat) : Int) 1 = memAt C R (k + 1) := by
      simp only [setAt, show ¬ ((2 : Int) = 1) by omega, if_false, if_true, Int.toNat_natCast, memAt]
      rw [headsAt_set hk]
    rw [e] at this
    exact this
theorem Blk.new' {w : World} {t : TypeId} {cs : Array Value} {n : Nat} (h : w.heap.size = n) : Blk (w.alloc (.cells cs t)) n t cs := h ▸ Blk.new w t cs
theorem chain4 (w : World) (x y z m : Array Value) (tx ty tz tm : TypeId) :
    Blk ((((w.alloc (.cells x tx)).alloc (.cells y ty)).alloc (.cells z tz)).alloc (.cells m tm)) w.heap.size tx x ∧ Blk ((((w.alloc (.cells x tx)).alloc (.cells y ty)).alloc (.cells z tz)).alloc (.cells m tm)) (w.heap.size + 1) ty y ∧
    Blk ((((w.alloc (.cells x tx)).alloc (.cells y ty)).alloc (.cells z tz)).alloc (.cells m tm)) (w.heap.size + 1 + 1) tz z ∧ Blk ((((w.alloc (.cells x tx)).alloc (.cells y ty)).alloc (.cells z tz)).alloc (.cells m tm)) (w.heap.size + 1 + 1 + 1) tm m :=
  ⟨(((Blk.new' rfl).alloc _).alloc _).alloc _, ((Blk.new' (by simp)).alloc _).alloc _, (Blk.new' (by simp)).alloc _, Blk.new' (by simp)⟩
def NewRel (C R : Nat) (w : World) (b gk : Nat) (i : Value) (wr : World) : Prop :=
  ∃ k gh gs gc, k ≤ R ∧ gk = R - k ∧ i = .int .i64 (k : Int) ∧ MIs wr w.heap.size b gh gs gc (.slice none 0 0) (memAt C R k) ∧ Below w.heap.size w wr
def NewPost (C R : Nat) (w : World) : Ending → World → Prop := fun e w' =>
  ∃ b gh gs gc, e = .returned (.tuple #[.pointer (some ⟨b, 0, none⟩), .int .i64 0]) ∧ MIs w' w.heap.size b gh gs gc (.slice none 0 0) (newM C R) ∧ Below w.heap.size w w'

set_option maxHeartbeats 4000000 in
theorem new_yes (C R : Nat) (w : World) (hc1 : 1 ≤ C) (hc2 : C ≤ 1024) (hr1 : 1 ≤ R) (hr2 : R ≤ 16) : Calls Try.prog 8 #[.int .i64 C, .int .i64 R] w (NewPost C R w) := by
  have m1 := mk_ints C hc2
  have m2 := mk_ints R (by omega)
  have m3 := mk_sigs R hr2
  have e1 : decide ((C : Int) < 1) = false := by simp; omega
  have e2 : decide (1024 < (C : Int)) = false := by simp; omega
  have e3 : decide ((R : Int) < 1) = false := by simp; omega
  have e4 : decide (16 < (R : Int)) = false := by simp; omega
  go_enter Try.func8, Try.ntmps8
  go_wp2_with fail
  go_region
  all_goals
    go_wp2_with fail
    clear m1 m2 m3 e1 e2 e3 e4
    go_loopg [35] R (fun gk i wr => NewRel C R w (w.heap.size + 1 + 1 + 1) gk i wr)
    case atStart =>
      first | refine ⟨0, w.heap.size, w.heap.size + 1, w.heap.size + 1 + 1, Nat.zero_le _, rfl, rfl, MIs.drew (start_is (chain4 w _ _ _ _ _ _ _ _).2.2.2 (chain4 w _ _ _ _ _ _ _ _).1 (chain4 w _ _ _ _ _ _ _ _).2.1 (chain4 w _ _ _ _ _ _ _ _).2.2.1 (by omega) (by omega) (by omega) (by omega) (by omega) hr2 hc2), Below.drew ((((below_new.trans (below_new.mono (by simp))).trans (below_new.mono (by simp; omega))).trans (below_new.mono (by simp; omega))))⟩ | refine ⟨0, w.heap.size, w.heap.size + 1 + 1, w.heap.size + 1, Nat.zero_le _, rfl, rfl, MIs.drew (start_is (chain4 w _ _ _ _ _ _ _ _).2.2.2 (chain4 w _ _ _ _ _ _ _ _).1 (chain4 w _ _ _ _ _ _ _ _).2.2.1 (chain4 w _ _ _ _ _ _ _ _).2.1 (by omega) (by omega) (by omega) (by omega) (by omega) hr2 hc2), Below.drew ((((below_new.trans (below_new.mono (by simp))).trans (below_new.mono (by simp; omega))).trans (below_new.mono (by simp; omega))))⟩ | refine ⟨0, w.heap.size + 1, w.heap.size, w.heap.size + 1 + 1, Nat.zero_le _, rfl, rfl, MIs.drew (start_is (chain4 w _ _ _ _ _ _ _ _).2.2.2 (chain4 w _ _ _ _ _ _ _ _).2.1 (chain4 w _ _ _ _ _ _ _ _).1 (chain4 w _ _ _ _ _ _ _ _).2.2.1 (by omega) (by omega) (by omega) (by omega) (by omega) hr2 hc2), Below.drew ((((below_new.trans (below_new.mono (by simp))).trans (below_new.mono (by simp; omega))).trans (below_new.mono (by simp; omega))))⟩ | refine ⟨0, w.heap.size + 1, w.heap.size + 1 + 1, w.heap.size, Nat.zero_le _, rfl, rfl, MIs.drew (start_is (chain4 w _ _ _ _ _ _ _ _).2.2.2 (chain4 w _ _ _ _ _ _ _ _).2.1 (chain4 w _ _ _ _ _ _ _ _).2.2.1 (chain4 w _ _ _ _ _ _ _ _).1 (by omega) (by omega) (by omega) (by omega) (by omega) hr2 hc2), Below.drew ((((below_new.trans (below_new.mono (by simp))).trans (below_new.mono (by simp; omega))).trans (below_new.mono (by simp; omega))))⟩ | refine ⟨0, w.heap.size + 1 + 1, w.heap.size, w.heap.size + 1, Nat.zero_le _, rfl, rfl, MIs.drew (start_is (chain4 w _ _ _ _ _ _ _ _).2.2.2 (chain4 w _ _ _ _ _ _ _ _).2.2.1 (chain4 w _ _ _ _ _ _ _ _).1 (chain4 w _ _ _ _ _ _ _ _).2.1 (by omega) (by omega) (by omega) (by omega) (by omega) hr2 hc2), Below.drew ((((below_new.trans (below_new.mono (by simp))).trans (below_new.mono (by simp; omega))).trans (below_new.mono (by simp; omega))))⟩ | refine ⟨0, w.heap.size + 1 + 1, w.heap.size + 1, w.heap.size, Nat.zero_le _, rfl, rfl, MIs.drew (start_is (chain4 w _ _ _ _ _ _ _ _).2.2.2 (chain4 w _ _ _ _ _ _ _ _).2.2.1 (chain4 w _ _ _ _ _ _ _ _).2.1 (chain4 w _ _ _ _ _ _ _ _).1 (by omega) (by omega) (by omega) (by omega) (by omega) hr2 hc2), Below.drew ((((below_new.trans (below_new.mono (by simp))).trans (below_new.mono (by simp; omega))).trans (below_new.mono (by simp; omega))))⟩
    case round =>
      obtain ⟨k, gh, gs, gc, hk, hgk, rfl, hM, hbel⟩ := hrel
      have HG := Lib.hid hgk
      clear hgk
      by_cases hkr : k < R
      · obtain ⟨s1, s2, s3, s4, s5, s6, s7⟩ := hM.step hkr
        clear hM
        go_wp2_with fail
        go_roundg (R - (k + 1))
        case measure => have := HG.out; omega
        case rel => exact ⟨k + 1, gh, gs, gc, by omega, rfl, by go_num, s7, hbel.setCell s4 _⟩
      · obtain rfl : k = R := by omega
        go_wp2_with fail
        go_ret2
        exact ⟨_, gh, gs, gc, rfl, hM, hbel⟩
end Go.Proofs.Ytnpeldbnnneijaa
