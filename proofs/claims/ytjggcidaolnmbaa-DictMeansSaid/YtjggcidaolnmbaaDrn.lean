/- What the document's Next does. -/
import Derived.Test.YtjggcidaolnmbaaDrg
namespace Go.Proofs.Ytjggcidaolnmbaa
open Go.RowKit Go.Joins Go.ChangeShapes Go.WideShapes Go.Deep
set_option linter.unusedVariables false
set_option maxRecDepth 100000

def RPost (x0 : Want) (w : World) : Ending → World → Prop := fun e w' =>
  ∃ kd ce va co : Int, x0 = ⟨kd, ce, va, co⟩ ∧ e = .returned (.agg #[.int .i64 kd, .int .i64 ce, .int .i64 va, .int .i64 co]) ∧ Below w.heap.size w w'

theorem rNext_len (base most : Int) (args read : List Int) (writes : Int) (A R : Option Addr) (n nc rn rc : Nat) (w : World) (hrn : rn ≤ 17592186044416)
    (hR : Reads w w.heap.size 1 R rn (ints read)) :
    Calls Try.prog 33 #[.int .i64 base, .int .i64 most, .int .i64 5, .slice A n nc, .slice R rn rc, .int .i64 writes] w (RPost (refNext base most 5 args read writes) w) := by
  have hlen : read.length = rn := by have := hR.1; simpa [ints] using this
  have hn0 : Blk (w.alloc (.cells #[.int .i64 0, .int .i64 0, .int .i64 0, .int .i64 0] 37)) w.heap.size 37 #[.int .i64 0, .int .i64 0, .int .i64 0, .int .i64 0] := Blk.new _ _ _
  have hbel0 : Below w.heap.size w (w.alloc (.cells #[.int .i64 0, .int .i64 0, .int .i64 0, .int .i64 0] 37)) := by repeat (first | with_reducible exact Below.refl _ _ | with_reducible refine Below.drew ?_ | with_reducible refine below_drewN ?_ _ | ((with_reducible refine Below.alloc ?_ ?_ _); (rotate_left; focus (first | with_reducible exact Nat.le_refl _ | omega | (simp; done) | (simp; omega) | (simp [World.setCell]; done) | (simp [World.setCell]; omega)))) | ((with_reducible refine Below.setCell ?_ ?_ _); (rotate_left; focus (first | with_reducible exact Nat.le_refl _ | omega | (simp; done) | (simp; omega) | (simp [World.setCell]; done) | (simp [World.setCell]; omega)))))
  cases read with
  | nil =>
    have HR : Hid (refNext base most 5 args [] writes = ⟨2, base, 0, 0⟩) := rfl
    subst hlen
    go_enter Try.func33, Try.ntmps33
    go_wp2_with fail
    refine (rRead_any base _).mono ?_
    rintro e w2 ⟨rfl, hb2⟩
    have hn := Blk.below (by first | exact hn0 | exact Blk.drew hn0) hb2 (by simp <;> omega)
    have n0 : w2.cell? ⟨w.heap.size, 0, none⟩ = some (.int .i64 0) := (hn.cell 0).trans rfl
    have n1 : w2.cell? ⟨w.heap.size, 1, none⟩ = some (.int .i64 0) := (hn.cell 1).trans rfl
    have n2 : w2.cell? ⟨w.heap.size, 2, none⟩ = some (.int .i64 0) := (hn.cell 2).trans rfl
    have n3 : w2.cell? ⟨w.heap.size, 3, none⟩ = some (.int .i64 0) := (hn.cell 3).trans rfl
    have f0 : w2.frozen? ⟨w.heap.size, 0, none⟩ = false := hn.frozen 0
    have f1 : w2.frozen? ⟨w.heap.size, 1, none⟩ = false := hn.frozen 1
    have f2 : w2.frozen? ⟨w.heap.size, 2, none⟩ = false := hn.frozen 2
    have f3 : w2.frozen? ⟨w.heap.size, 3, none⟩ = false := hn.frozen 3
    have hbel2 := hbel0.trans (hb2.mono (B' := w.heap.size) (by simp <;> omega))
    go_wp2
    refine bodyPost_ret (v := .agg #[.int .i64 2, .int .i64 base, .int .i64 0, .int .i64 0]) (by simp [results, Try.results33, go_sem, n0, n1, n2, n3]) rfl ?_
    exact ⟨_, _, _, _, HR.out, rfl, by repeat (first | with_reducible exact hbel2 | with_reducible refine Below.drew ?_ | with_reducible refine below_drewN ?_ _ | ((with_reducible refine Below.alloc ?_ ?_ _); (rotate_left; focus (first | with_reducible exact Nat.le_refl _ | omega | (simp; done) | (simp; omega) | (simp [World.setCell]; done) | (simp [World.setCell]; omega)))) | ((with_reducible refine Below.setCell ?_ ?_ _); (rotate_left; focus (first | with_reducible exact Nat.le_refl _ | omega | (simp; done) | (simp; omega) | (simp [World.setCell]; done) | (simp [World.setCell]; omega)))))⟩
  | cons c l =>
    have HR : Hid (refNext base most 5 args (c :: l) writes = ⟨6, 0, (endW c 0).value, 0⟩) := rfl
    obtain ⟨b, off, rfl, hb, hc⟩ := hR.flat (by rw [← hlen]; simp)
    have d0 : w.cell? ⟨b, off, none⟩ = some (.int .i64 c) := hc 0 _ rfl
    have hpos : (0 : Int) < rn := by rw [← hlen]; simp <;> omega
    have hz : ((rn : Int) == 0) = false := by simp; omega
    clear hc hlen
    go_enter Try.func33, Try.ntmps33
    go_wp2_with fail
    refine (rEnd_any c 0 _).mono ?_
    rintro e w2 ⟨rfl, hb2⟩
    have hn := Blk.below (by first | exact hn0 | exact Blk.drew hn0) hb2 (by simp <;> omega)
    have n0 : w2.cell? ⟨w.heap.size, 0, none⟩ = some (.int .i64 0) := (hn.cell 0).trans rfl
    have n1 : w2.cell? ⟨w.heap.size, 1, none⟩ = some (.int .i64 0) := (hn.cell 1).trans rfl
    have n2 : w2.cell? ⟨w.heap.size, 2, none⟩ = some (.int .i64 0) := (hn.cell 2).trans rfl
    have n3 : w2.cell? ⟨w.heap.size, 3, none⟩ = some (.int .i64 0) := (hn.cell 3).trans rfl
    have f0 : w2.frozen? ⟨w.heap.size, 0, none⟩ = false := hn.frozen 0
    have f1 : w2.frozen? ⟨w.heap.size, 1, none⟩ = false := hn.frozen 1
    have f2 : w2.frozen? ⟨w.heap.size, 2, none⟩ = false := hn.frozen 2
    have f3 : w2.frozen? ⟨w.heap.size, 3, none⟩ = false := hn.frozen 3
    have hbel2 := hbel0.trans (hb2.mono (B' := w.heap.size) (by simp <;> omega))
    go_wp2
    refine bodyPost_ret (v := .agg #[.int .i64 6, .int .i64 0, .int .i64 (endW c 0).value, .int .i64 0]) (by simp [results, Try.results33, go_sem, n0, n1, n2, n3]) rfl ?_
    exact ⟨_, _, _, _, HR.out, rfl, by repeat (first | with_reducible exact hbel2 | with_reducible refine Below.drew ?_ | with_reducible refine below_drewN ?_ _ | ((with_reducible refine Below.alloc ?_ ?_ _); (rotate_left; focus (first | with_reducible exact Nat.le_refl _ | omega | (simp; done) | (simp; omega) | (simp [World.setCell]; done) | (simp [World.setCell]; omega)))) | ((with_reducible refine Below.setCell ?_ ?_ _); (rotate_left; focus (first | with_reducible exact Nat.le_refl _ | omega | (simp; done) | (simp; omega) | (simp [World.setCell]; done) | (simp [World.setCell]; omega)))))⟩

theorem rNext_more (base most call : Int) (k : Int) (args' read : List Int) (writes : Int) (A R : Option Addr) (n nc rn rc : Nat) (w : World) (hrn : rn ≤ 17592186044416) (hrc : rn ≤ rc) (b0 : 0 ≤ base) (b1 : base ≤ 1024) (m0 : 0 ≤ most) (m1 : most ≤ 16)
    (hA : Reads w w.heap.size 1 A n (ints (k :: args'))) (hR : Reads w w.heap.size 1 R rn (ints read)) (fd fr ce : Int) (rd : Nat) (ov : Bool) (hx : lookF k most read = ⟨fd, fr, rd, ov, ce⟩) (h5 : call ≠ 5) (hov : ov = false) :
    Calls Try.prog 33 #[.int .i64 base, .int .i64 most, .int .i64 call, .slice A n nc, .slice R rn rc, .int .i64 writes] w (RPost (refNext base most call (k :: args') read writes) w) := by
  have HR : Hid (refNext base most call (k :: args') read writes = ⟨2, base + ce, 0, 0⟩) := by
    show refNext base most call (k :: args') read writes = _
    simp only [refNext, if_neg h5, a0, List.getD_cons_zero, hx, hov, if_true]
  have e5 : (call == 5) = false := by simp [h5]
  subst hov
  clear h5
  have hnp : 0 < n := by have := hA.1; simp [ints] at this; omega
  have hbd := findL_bd (key := k) m1 most.toNat 0 (-1) 0 read (by omega) (by omega) (by omega) (by omega)
  change -1 ≤ (lookF k most read).found ∧ (lookF k most read).found < most ∧ -1 ≤ (lookF k most read).free ∧ (lookF k most read).free < most ∧ 0 ≤ (lookF k most read).cell ∧ (lookF k most read).cell ≤ 3 * most ∧ (lookF k most read).reads ≤ 0 + read.length at hbd
  rw [hx] at hbd
  simp only at hbd
  obtain ⟨q1, q2, q3, q4, q5, q6, q7⟩ := hbd
  have hrl : read.length = rn := by have := hR.1; simpa [ints] using this
  rw [hrl] at q7
  have q8 : rd ≤ rn := by omega
  have HRL := Lib.hid hrl
  have HX := Lib.hid hx
  obtain ⟨ab, ao, rfl, hab, hac⟩ := hA.flat hnp
  have d0 : w.cell? ⟨ab, ao, none⟩ = some (.int .i64 k) := hac 0 _ rfl
  clear hac hx hrl q7
  go_enter Try.func33, Try.ntmps33
  go_wp2_with fail
  refine (find_any k most read R rn rc _ hrn m0 m1 (by exact (hR.alloc (Nat.le_refl _) _).more (by simp))).mono ?_
  rintro e w1 ⟨fd', fr', ce', rd', ov', hlk, rfl, hb1⟩
  rw [HX.out] at hlk
  injection hlk with e1 e2 e3 e4 e5
  subst e1 e2 e3 e4 e5
  have hn0' : Blk w1 w.heap.size 37 #[.int .i64 0, .int .i64 0, .int .i64 0, .int .i64 0] := (Blk.new w _ _).below hb1 (by simp)
  have hbel0' : Below w.heap.size w w1 := ((Below.refl _ _).alloc (Nat.le_refl _) _).trans (hb1.mono (B' := w.heap.size) (by simp))
  have hlt1 : w.heap.size < w1.heap.size := hn0'.lt
  have hn0 := hn0'.alloc (.cells #[.int .i64 fd, .int .i64 fr, .int .i64 rd, .bool false, .int .i64 ce] 78)
  have hbel0 := hbel0'.alloc hbel0'.size (.cells #[.int .i64 fd, .int .i64 fr, .int .i64 rd, .bool false, .int .i64 ce] 78)
  have hR1 : Reads w1 w.heap.size 1 R rn (ints read) := hR.below hbel0'
  have hA1 : Reads w1 w.heap.size 1 (some ⟨ab, ao, none⟩) n (ints (k :: args')) := hA.below hbel0'
  clear hn0' hbel0' hb1 d0
  go_wp2_with fail
  refine (rRead_any (base + ce) _).mono ?_
  rintro e w2 ⟨rfl, hb2⟩
  have hn := Blk.below (by first | exact hn0 | exact Blk.drew hn0) hb2 (by simp <;> omega)
  have n0 : w2.cell? ⟨w.heap.size, 0, none⟩ = some (.int .i64 0) := (hn.cell 0).trans rfl
  have n1 : w2.cell? ⟨w.heap.size, 1, none⟩ = some (.int .i64 0) := (hn.cell 1).trans rfl
  have n2 : w2.cell? ⟨w.heap.size, 2, none⟩ = some (.int .i64 0) := (hn.cell 2).trans rfl
  have n3 : w2.cell? ⟨w.heap.size, 3, none⟩ = some (.int .i64 0) := (hn.cell 3).trans rfl
  have f0 : w2.frozen? ⟨w.heap.size, 0, none⟩ = false := hn.frozen 0
  have f1 : w2.frozen? ⟨w.heap.size, 1, none⟩ = false := hn.frozen 1
  have f2 : w2.frozen? ⟨w.heap.size, 2, none⟩ = false := hn.frozen 2
  have f3 : w2.frozen? ⟨w.heap.size, 3, none⟩ = false := hn.frozen 3
  have hbel2 := hbel0.trans (hb2.mono (B' := w.heap.size) (by simp <;> omega))
  go_wp2
  refine bodyPost_ret (v := .agg #[.int .i64 2, .int .i64 (base + ce), .int .i64 0, .int .i64 0]) (by simp [results, Try.results33, go_sem, n0, n1, n2, n3]) rfl ?_
  exact ⟨_, _, _, _, HR.out, rfl, by repeat (first | with_reducible exact hbel2 | with_reducible refine Below.drew ?_ | with_reducible refine below_drewN ?_ _ | ((with_reducible refine Below.alloc ?_ ?_ _); (rotate_left; focus (first | with_reducible exact Nat.le_refl _ | omega | (simp; done) | (simp; omega) | (simp [World.setCell]; done) | (simp [World.setCell]; omega)))) | ((with_reducible refine Below.setCell ?_ ?_ _); (rotate_left; focus (first | with_reducible exact Nat.le_refl _ | omega | (simp; done) | (simp; omega) | (simp [World.setCell]; done) | (simp [World.setCell]; omega)))))⟩

theorem rNext_none (base most call : Int) (k : Int) (args' read : List Int) (writes : Int) (A R : Option Addr) (n nc rn rc : Nat) (w : World) (hrn : rn ≤ 17592186044416) (hrc : rn ≤ rc) (b0 : 0 ≤ base) (b1 : base ≤ 1024) (m0 : 0 ≤ most) (m1 : most ≤ 16)
    (hA : Reads w w.heap.size 1 A n (ints (k :: args'))) (hR : Reads w w.heap.size 1 R rn (ints read)) (fd fr ce : Int) (rd : Nat) (hx : lookF k most read = ⟨fd, fr, rd, true, ce⟩) (h5 : call ≠ 5) (h3 : call ≠ 3) (hf : fd < 0) :
    Calls Try.prog 33 #[.int .i64 base, .int .i64 most, .int .i64 call, .slice A n nc, .slice R rn rc, .int .i64 writes] w (RPost (refNext base most call (k :: args') read writes) w) := by
  have HR : Hid (refNext base most call (k :: args') read writes = ⟨6, 0, (endW 0 1).value, 1⟩) := by
    show refNext base most call (k :: args') read writes = _
    simp [refNext, if_neg h5, a0, hx, h3, hf, endW]
  have e5 : (call == 5) = false := by simp [h5]
  have e3 : (call == 3) = false := by simp [h3]
  clear h5 h3
  have hnp : 0 < n := by have := hA.1; simp [ints] at this; omega
  have hbd := findL_bd (key := k) m1 most.toNat 0 (-1) 0 read (by omega) (by omega) (by omega) (by omega)
  change -1 ≤ (lookF k most read).found ∧ (lookF k most read).found < most ∧ -1 ≤ (lookF k most read).free ∧ (lookF k most read).free < most ∧ 0 ≤ (lookF k most read).cell ∧ (lookF k most read).cell ≤ 3 * most ∧ (lookF k most read).reads ≤ 0 + read.length at hbd
  rw [hx] at hbd
  simp only at hbd
  obtain ⟨q1, q2, q3, q4, q5, q6, q7⟩ := hbd
  have hrl : read.length = rn := by have := hR.1; simpa [ints] using this
  rw [hrl] at q7
  have q8 : rd ≤ rn := by omega
  have HRL := Lib.hid hrl
  have HX := Lib.hid hx
  obtain ⟨ab, ao, rfl, hab, hac⟩ := hA.flat hnp
  have d0 : w.cell? ⟨ab, ao, none⟩ = some (.int .i64 k) := hac 0 _ rfl
  clear hac hx hrl q7
  go_enter Try.func33, Try.ntmps33
  go_wp2_with fail
  refine (find_any k most read R rn rc _ hrn m0 m1 (by exact (hR.alloc (Nat.le_refl _) _).more (by simp))).mono ?_
  rintro e w1 ⟨fd', fr', ce', rd', ov', hlk, rfl, hb1⟩
  rw [HX.out] at hlk
  injection hlk with e1 e2 e3 e4 e5
  subst e1 e2 e3 e4 e5
  have hn0' : Blk w1 w.heap.size 37 #[.int .i64 0, .int .i64 0, .int .i64 0, .int .i64 0] := (Blk.new w _ _).below hb1 (by simp)
  have hbel0' : Below w.heap.size w w1 := ((Below.refl _ _).alloc (Nat.le_refl _) _).trans (hb1.mono (B' := w.heap.size) (by simp))
  have hlt1 : w.heap.size < w1.heap.size := hn0'.lt
  have hn0 := hn0'.alloc (.cells #[.int .i64 fd, .int .i64 fr, .int .i64 rd, .bool true, .int .i64 ce] 78)
  have hbel0 := hbel0'.alloc hbel0'.size (.cells #[.int .i64 fd, .int .i64 fr, .int .i64 rd, .bool true, .int .i64 ce] 78)
  have hR1 : Reads w1 w.heap.size 1 R rn (ints read) := hR.below hbel0'
  have hA1 : Reads w1 w.heap.size 1 (some ⟨ab, ao, none⟩) n (ints (k :: args')) := hA.below hbel0'
  clear hn0' hbel0' hb1 d0
  go_wp2_with fail
  all_goals
    refine (rEnd_any 0 1 _).mono ?_
    rintro e w2 ⟨rfl, hb2⟩
    have hn := Blk.below (by first | exact hn0 | exact Blk.drew hn0) hb2 (by simp <;> omega)
    have n0 : w2.cell? ⟨w.heap.size, 0, none⟩ = some (.int .i64 0) := (hn.cell 0).trans rfl
    have n1 : w2.cell? ⟨w.heap.size, 1, none⟩ = some (.int .i64 0) := (hn.cell 1).trans rfl
    have n2 : w2.cell? ⟨w.heap.size, 2, none⟩ = some (.int .i64 0) := (hn.cell 2).trans rfl
    have n3 : w2.cell? ⟨w.heap.size, 3, none⟩ = some (.int .i64 0) := (hn.cell 3).trans rfl
    have f0 : w2.frozen? ⟨w.heap.size, 0, none⟩ = false := hn.frozen 0
    have f1 : w2.frozen? ⟨w.heap.size, 1, none⟩ = false := hn.frozen 1
    have f2 : w2.frozen? ⟨w.heap.size, 2, none⟩ = false := hn.frozen 2
    have f3 : w2.frozen? ⟨w.heap.size, 3, none⟩ = false := hn.frozen 3
    have hbel2 := hbel0.trans (hb2.mono (B' := w.heap.size) (by simp <;> omega))
    go_wp2
    refine bodyPost_ret (v := .agg #[.int .i64 6, .int .i64 0, .int .i64 (endW 0 1).value, .int .i64 1]) (by simp [results, Try.results33, go_sem, n0, n1, n2, n3]) rfl ?_
    exact ⟨_, _, _, _, HR.out, rfl, by repeat (first | with_reducible exact hbel2 | with_reducible refine Below.drew ?_ | with_reducible refine below_drewN ?_ _ | ((with_reducible refine Below.alloc ?_ ?_ _); (rotate_left; focus (first | with_reducible exact Nat.le_refl _ | omega | (simp; done) | (simp; omega) | (simp [World.setCell]; done) | (simp [World.setCell]; omega)))) | ((with_reducible refine Below.setCell ?_ ?_ _); (rotate_left; focus (first | with_reducible exact Nat.le_refl _ | omega | (simp; done) | (simp; omega) | (simp [World.setCell]; done) | (simp [World.setCell]; omega)))))⟩

theorem rNext_get0 (base most call : Int) (k : Int) (args' read : List Int) (writes : Int) (A R : Option Addr) (n nc rn rc : Nat) (w : World) (hrn : rn ≤ 17592186044416) (hrc : rn ≤ rc) (b0 : 0 ≤ base) (b1 : base ≤ 1024) (m0 : 0 ≤ most) (m1 : most ≤ 16)
    (hA : Reads w w.heap.size 1 A n (ints (k :: args'))) (hR : Reads w w.heap.size 1 R rn (ints read)) (fd fr ce : Int) (rd : Nat) (hx : lookF k most read = ⟨fd, fr, rd, true, ce⟩) (h2 : call = 2) (hf : 0 ≤ fd) (hle : rn ≤ rd) :
    Calls Try.prog 33 #[.int .i64 base, .int .i64 most, .int .i64 call, .slice A n nc, .slice R rn rc, .int .i64 writes] w (RPost (refNext base most call (k :: args') read writes) w) := by
  have HR : Hid (refNext base most call (k :: args') read writes = ⟨2, base + 3 + 3 * fd, 0, 0⟩) := by
    show refNext base most call (k :: args') read writes = _
    have hrl : read.length = rn := by have := hR.1; simpa [ints] using this
    simp [refNext, h2, a0, hx, show ¬ fd < 0 by omega, List.drop_of_length_le (show read.length ≤ rd by omega)]
  have e5 : (call == 5) = false := by simp [h2]
  have e3 : (call == 3) = false := by simp [h2]
  have e2 : (call == 2) = true := by simp [h2]
  have ef : decide (fd < 0) = false := by simp; omega
  clear h2
  have el : ((rn - rd : Nat) : Int) = 0 := by omega
  have hnp : 0 < n := by have := hA.1; simp [ints] at this; omega
  have hbd := findL_bd (key := k) m1 most.toNat 0 (-1) 0 read (by omega) (by omega) (by omega) (by omega)
  change -1 ≤ (lookF k most read).found ∧ (lookF k most read).found < most ∧ -1 ≤ (lookF k most read).free ∧ (lookF k most read).free < most ∧ 0 ≤ (lookF k most read).cell ∧ (lookF k most read).cell ≤ 3 * most ∧ (lookF k most read).reads ≤ 0 + read.length at hbd
  rw [hx] at hbd
  simp only at hbd
  obtain ⟨q1, q2, q3, q4, q5, q6, q7⟩ := hbd
  have hrl : read.length = rn := by have := hR.1; simpa [ints] using this
  rw [hrl] at q7
  have q8 : rd ≤ rn := by omega
  have HRL := Lib.hid hrl
  have HX := Lib.hid hx
  obtain ⟨ab, ao, rfl, hab, hac⟩ := hA.flat hnp
  have d0 : w.cell? ⟨ab, ao, none⟩ = some (.int .i64 k) := hac 0 _ rfl
  clear hac hx hrl q7
  go_enter Try.func33, Try.ntmps33
  go_wp2_with fail
  refine (find_any k most read R rn rc _ hrn m0 m1 (by exact (hR.alloc (Nat.le_refl _) _).more (by simp))).mono ?_
  rintro e w1 ⟨fd', fr', ce', rd', ov', hlk, rfl, hb1⟩
  rw [HX.out] at hlk
  injection hlk with e1 e2 e3 e4 e5
  subst e1 e2 e3 e4 e5
  have hn0' : Blk w1 w.heap.size 37 #[.int .i64 0, .int .i64 0, .int .i64 0, .int .i64 0] := (Blk.new w _ _).below hb1 (by simp)
  have hbel0' : Below w.heap.size w w1 := ((Below.refl _ _).alloc (Nat.le_refl _) _).trans (hb1.mono (B' := w.heap.size) (by simp))
  have hlt1 : w.heap.size < w1.heap.size := hn0'.lt
  have hn0 := hn0'.alloc (.cells #[.int .i64 fd, .int .i64 fr, .int .i64 rd, .bool true, .int .i64 ce] 78)
  have hbel0 := hbel0'.alloc hbel0'.size (.cells #[.int .i64 fd, .int .i64 fr, .int .i64 rd, .bool true, .int .i64 ce] 78)
  have hR1 : Reads w1 w.heap.size 1 R rn (ints read) := hR.below hbel0'
  have hA1 : Reads w1 w.heap.size 1 (some ⟨ab, ao, none⟩) n (ints (k :: args')) := hA.below hbel0'
  clear hn0' hbel0' hb1 d0
  have hrr : rd = rn := by omega
  subst hrr
  go_wp2_with fail
  all_goals
    refine (rRead_any (base + 3 + 3 * fd) _).mono ?_
    rintro e w2 ⟨rfl, hb2⟩
    have hn := Blk.below (by first | exact hn0 | exact Blk.drew hn0) hb2 (by simp <;> omega)
    have n0 : w2.cell? ⟨w.heap.size, 0, none⟩ = some (.int .i64 0) := (hn.cell 0).trans rfl
    have n1 : w2.cell? ⟨w.heap.size, 1, none⟩ = some (.int .i64 0) := (hn.cell 1).trans rfl
    have n2 : w2.cell? ⟨w.heap.size, 2, none⟩ = some (.int .i64 0) := (hn.cell 2).trans rfl
    have n3 : w2.cell? ⟨w.heap.size, 3, none⟩ = some (.int .i64 0) := (hn.cell 3).trans rfl
    have f0 : w2.frozen? ⟨w.heap.size, 0, none⟩ = false := hn.frozen 0
    have f1 : w2.frozen? ⟨w.heap.size, 1, none⟩ = false := hn.frozen 1
    have f2 : w2.frozen? ⟨w.heap.size, 2, none⟩ = false := hn.frozen 2
    have f3 : w2.frozen? ⟨w.heap.size, 3, none⟩ = false := hn.frozen 3
    have hbel2 := hbel0.trans (hb2.mono (B' := w.heap.size) (by simp <;> omega))
    go_wp2
    refine bodyPost_ret (v := .agg #[.int .i64 2, .int .i64 (base + 3 + 3 * fd), .int .i64 0, .int .i64 0]) (by simp [results, Try.results33, go_sem, n0, n1, n2, n3]) rfl ?_
    exact ⟨_, _, _, _, HR.out, rfl, by repeat (first | with_reducible exact hbel2 | with_reducible refine Below.drew ?_ | with_reducible refine below_drewN ?_ _ | ((with_reducible refine Below.alloc ?_ ?_ _); (rotate_left; focus (first | with_reducible exact Nat.le_refl _ | omega | (simp; done) | (simp; omega) | (simp [World.setCell]; done) | (simp [World.setCell]; omega)))) | ((with_reducible refine Below.setCell ?_ ?_ _); (rotate_left; focus (first | with_reducible exact Nat.le_refl _ | omega | (simp; done) | (simp; omega) | (simp [World.setCell]; done) | (simp [World.setCell]; omega)))))⟩

theorem rNext_get1 (base most call : Int) (k : Int) (args' read : List Int) (writes : Int) (A R : Option Addr) (n nc rn rc : Nat) (w : World) (hrn : rn ≤ 17592186044416) (hrc : rn ≤ rc) (b0 : 0 ≤ base) (b1 : base ≤ 1024) (m0 : 0 ≤ most) (m1 : most ≤ 16)
    (hA : Reads w w.heap.size 1 A n (ints (k :: args'))) (hR : Reads w w.heap.size 1 R rn (ints read)) (fd fr ce : Int) (rd : Nat) (hx : lookF k most read = ⟨fd, fr, rd, true, ce⟩) (h2 : call = 2) (hf : 0 ≤ fd) (l : Int) (hlt : rd < read.length) (hl : read[rd] = l) :
    Calls Try.prog 33 #[.int .i64 base, .int .i64 most, .int .i64 call, .slice A n nc, .slice R rn rc, .int .i64 writes] w (RPost (refNext base most call (k :: args') read writes) w) := by
  have HR : Hid (refNext base most call (k :: args') read writes = ⟨6, 0, (endW l 0).value, 0⟩) := by
    show refNext base most call (k :: args') read writes = _
    have hrl : read.length = rn := by have := hR.1; simpa [ints] using this
    have hd : read.drop rd = l :: read.drop (rd + 1) := by rw [← hl]; exact List.drop_eq_getElem_cons (by omega)
    simp [refNext, h2, a0, hx, show ¬ fd < 0 by omega, hd, endW]
  have e5 : (call == 5) = false := by simp [h2]
  have e3 : (call == 3) = false := by simp [h2]
  have e2 : (call == 2) = true := by simp [h2]
  have ef : decide (fd < 0) = false := by simp; omega
  clear h2
  have hlt' : rd < rn := by have := hR.1; simp [ints] at this; omega
  have hnp : 0 < n := by have := hA.1; simp [ints] at this; omega
  have hbd := findL_bd (key := k) m1 most.toNat 0 (-1) 0 read (by omega) (by omega) (by omega) (by omega)
  change -1 ≤ (lookF k most read).found ∧ (lookF k most read).found < most ∧ -1 ≤ (lookF k most read).free ∧ (lookF k most read).free < most ∧ 0 ≤ (lookF k most read).cell ∧ (lookF k most read).cell ≤ 3 * most ∧ (lookF k most read).reads ≤ 0 + read.length at hbd
  rw [hx] at hbd
  simp only at hbd
  obtain ⟨q1, q2, q3, q4, q5, q6, q7⟩ := hbd
  have hrl : read.length = rn := by have := hR.1; simpa [ints] using this
  rw [hrl] at q7
  have q8 : rd ≤ rn := by omega
  have HRL := Lib.hid hrl
  have HX := Lib.hid hx
  obtain ⟨ab, ao, rfl, hab, hac⟩ := hA.flat hnp
  have d0 : w.cell? ⟨ab, ao, none⟩ = some (.int .i64 k) := hac 0 _ rfl
  clear hac hx hrl q7
  go_enter Try.func33, Try.ntmps33
  go_wp2_with fail
  refine (find_any k most read R rn rc _ hrn m0 m1 (by exact (hR.alloc (Nat.le_refl _) _).more (by simp))).mono ?_
  rintro e w1 ⟨fd', fr', ce', rd', ov', hlk, rfl, hb1⟩
  rw [HX.out] at hlk
  injection hlk with e1 e2 e3 e4 e5
  subst e1 e2 e3 e4 e5
  have hn0' : Blk w1 w.heap.size 37 #[.int .i64 0, .int .i64 0, .int .i64 0, .int .i64 0] := (Blk.new w _ _).below hb1 (by simp)
  have hbel0' : Below w.heap.size w w1 := ((Below.refl _ _).alloc (Nat.le_refl _) _).trans (hb1.mono (B' := w.heap.size) (by simp))
  have hlt1 : w.heap.size < w1.heap.size := hn0'.lt
  have hn0 := hn0'.alloc (.cells #[.int .i64 fd, .int .i64 fr, .int .i64 rd, .bool true, .int .i64 ce] 78)
  have hbel0 := hbel0'.alloc hbel0'.size (.cells #[.int .i64 fd, .int .i64 fr, .int .i64 rd, .bool true, .int .i64 ce] 78)
  have hR1 : Reads w1 w.heap.size 1 R rn (ints read) := hR.below hbel0'
  have hA1 : Reads w1 w.heap.size 1 (some ⟨ab, ao, none⟩) n (ints (k :: args')) := hA.below hbel0'
  clear hn0' hbel0' hb1 d0
  obtain ⟨rb, ro, rfl, hrb, hrcell⟩ := hR1.flat (by omega)
  have dl : w1.cell? ⟨rb, ro + rd, none⟩ = some (.int .i64 l) := hrcell rd _ (by rw [← hl]; exact ints_at _ _ (by rw [HRL.out]; omega))
  have hrlt : rb < w1.heap.size := by omega
  have hcd : ¬ rc = rd := by omega
  have hpos : (0 : Int) < (((rn - rd : Nat)) : Int) := by omega
  have hpos2 : 0 < rn - rd := by omega
  have hez : ((((rn - rd : Nat)) : Int) == 0) = false := by simp; omega
  clear hrcell
  go_wp2_with fail
  refine (rEnd_any l 0 _).mono ?_
  rintro e w2 ⟨rfl, hb2⟩
  have hn := Blk.below (by first | exact hn0 | exact Blk.drew hn0) hb2 (by simp <;> omega)
  have n0 : w2.cell? ⟨w.heap.size, 0, none⟩ = some (.int .i64 0) := (hn.cell 0).trans rfl
  have n1 : w2.cell? ⟨w.heap.size, 1, none⟩ = some (.int .i64 0) := (hn.cell 1).trans rfl
  have n2 : w2.cell? ⟨w.heap.size, 2, none⟩ = some (.int .i64 0) := (hn.cell 2).trans rfl
  have n3 : w2.cell? ⟨w.heap.size, 3, none⟩ = some (.int .i64 0) := (hn.cell 3).trans rfl
  have f0 : w2.frozen? ⟨w.heap.size, 0, none⟩ = false := hn.frozen 0
  have f1 : w2.frozen? ⟨w.heap.size, 1, none⟩ = false := hn.frozen 1
  have f2 : w2.frozen? ⟨w.heap.size, 2, none⟩ = false := hn.frozen 2
  have f3 : w2.frozen? ⟨w.heap.size, 3, none⟩ = false := hn.frozen 3
  have hbel2 := hbel0.trans (hb2.mono (B' := w.heap.size) (by simp <;> omega))
  go_wp2
  refine bodyPost_ret (v := .agg #[.int .i64 6, .int .i64 0, .int .i64 (endW l 0).value, .int .i64 0]) (by simp [results, Try.results33, go_sem, n0, n1, n2, n3]) rfl ?_
  exact ⟨_, _, _, _, HR.out, rfl, by repeat (first | with_reducible exact hbel2 | with_reducible refine Below.drew ?_ | with_reducible refine below_drewN ?_ _ | ((with_reducible refine Below.alloc ?_ ?_ _); (rotate_left; focus (first | with_reducible exact Nat.le_refl _ | omega | (simp; done) | (simp; omega) | (simp [World.setCell]; done) | (simp [World.setCell]; omega)))) | ((with_reducible refine Below.setCell ?_ ?_ _); (rotate_left; focus (first | with_reducible exact Nat.le_refl _ | omega | (simp; done) | (simp; omega) | (simp [World.setCell]; done) | (simp [World.setCell]; omega)))))⟩

theorem rNext_del0 (base most call : Int) (k : Int) (args' read : List Int) (writes : Int) (A R : Option Addr) (n nc rn rc : Nat) (w : World) (hrn : rn ≤ 17592186044416) (hrc : rn ≤ rc) (b0 : 0 ≤ base) (b1 : base ≤ 1024) (m0 : 0 ≤ most) (m1 : most ≤ 16)
    (hA : Reads w w.heap.size 1 A n (ints (k :: args'))) (hR : Reads w w.heap.size 1 R rn (ints read)) (fd fr ce : Int) (rd : Nat) (hx : lookF k most read = ⟨fd, fr, rd, true, ce⟩) (h4 : call = 4) (hf : 0 ≤ fd) (hw : writes = 0) :
    Calls Try.prog 33 #[.int .i64 base, .int .i64 most, .int .i64 call, .slice A n nc, .slice R rn rc, .int .i64 writes] w (RPost (refNext base most call (k :: args') read writes) w) := by
  have HR : Hid (refNext base most call (k :: args') read writes = ⟨3, base + 1 + 3 * fd, 2, 0⟩) := by
    show refNext base most call (k :: args') read writes = _
    simp [refNext, h4, a0, hx, show ¬ fd < 0 by omega, hw]
  have e5 : (call == 5) = false := by simp [h4]
  have e3 : (call == 3) = false := by simp [h4]
  have e2 : (call == 2) = false := by simp [h4]
  have ef : decide (fd < 0) = false := by simp; omega
  clear h4
  have ew : (writes == 0) = true := by simp [hw]
  clear hw
  have hnp : 0 < n := by have := hA.1; simp [ints] at this; omega
  have hbd := findL_bd (key := k) m1 most.toNat 0 (-1) 0 read (by omega) (by omega) (by omega) (by omega)
  change -1 ≤ (lookF k most read).found ∧ (lookF k most read).found < most ∧ -1 ≤ (lookF k most read).free ∧ (lookF k most read).free < most ∧ 0 ≤ (lookF k most read).cell ∧ (lookF k most read).cell ≤ 3 * most ∧ (lookF k most read).reads ≤ 0 + read.length at hbd
  rw [hx] at hbd
  simp only at hbd
  obtain ⟨q1, q2, q3, q4, q5, q6, q7⟩ := hbd
  have hrl : read.length = rn := by have := hR.1; simpa [ints] using this
  rw [hrl] at q7
  have q8 : rd ≤ rn := by omega
  have HRL := Lib.hid hrl
  have HX := Lib.hid hx
  obtain ⟨ab, ao, rfl, hab, hac⟩ := hA.flat hnp
  have d0 : w.cell? ⟨ab, ao, none⟩ = some (.int .i64 k) := hac 0 _ rfl
  clear hac hx hrl q7
  go_enter Try.func33, Try.ntmps33
  go_wp2_with fail
  refine (find_any k most read R rn rc _ hrn m0 m1 (by exact (hR.alloc (Nat.le_refl _) _).more (by simp))).mono ?_
  rintro e w1 ⟨fd', fr', ce', rd', ov', hlk, rfl, hb1⟩
  rw [HX.out] at hlk
  injection hlk with e1 e2 e3 e4 e5
  subst e1 e2 e3 e4 e5
  have hn0' : Blk w1 w.heap.size 37 #[.int .i64 0, .int .i64 0, .int .i64 0, .int .i64 0] := (Blk.new w _ _).below hb1 (by simp)
  have hbel0' : Below w.heap.size w w1 := ((Below.refl _ _).alloc (Nat.le_refl _) _).trans (hb1.mono (B' := w.heap.size) (by simp))
  have hlt1 : w.heap.size < w1.heap.size := hn0'.lt
  have hn0 := hn0'.alloc (.cells #[.int .i64 fd, .int .i64 fr, .int .i64 rd, .bool true, .int .i64 ce] 78)
  have hbel0 := hbel0'.alloc hbel0'.size (.cells #[.int .i64 fd, .int .i64 fr, .int .i64 rd, .bool true, .int .i64 ce] 78)
  have hR1 : Reads w1 w.heap.size 1 R rn (ints read) := hR.below hbel0'
  have hA1 : Reads w1 w.heap.size 1 (some ⟨ab, ao, none⟩) n (ints (k :: args')) := hA.below hbel0'
  clear hn0' hbel0' hb1 d0
  go_wp2_with fail
  all_goals
    refine (rPut_any (base + 1 + 3 * fd) 2 _).mono ?_
    rintro e w2 ⟨rfl, hb2⟩
    have hn := Blk.below (by first | exact hn0 | exact Blk.drew hn0) hb2 (by simp <;> omega)
    have n0 : w2.cell? ⟨w.heap.size, 0, none⟩ = some (.int .i64 0) := (hn.cell 0).trans rfl
    have n1 : w2.cell? ⟨w.heap.size, 1, none⟩ = some (.int .i64 0) := (hn.cell 1).trans rfl
    have n2 : w2.cell? ⟨w.heap.size, 2, none⟩ = some (.int .i64 0) := (hn.cell 2).trans rfl
    have n3 : w2.cell? ⟨w.heap.size, 3, none⟩ = some (.int .i64 0) := (hn.cell 3).trans rfl
    have f0 : w2.frozen? ⟨w.heap.size, 0, none⟩ = false := hn.frozen 0
    have f1 : w2.frozen? ⟨w.heap.size, 1, none⟩ = false := hn.frozen 1
    have f2 : w2.frozen? ⟨w.heap.size, 2, none⟩ = false := hn.frozen 2
    have f3 : w2.frozen? ⟨w.heap.size, 3, none⟩ = false := hn.frozen 3
    have hbel2 := hbel0.trans (hb2.mono (B' := w.heap.size) (by simp <;> omega))
    go_wp2
    refine bodyPost_ret (v := .agg #[.int .i64 3, .int .i64 (base + 1 + 3 * fd), .int .i64 2, .int .i64 0]) (by simp [results, Try.results33, go_sem, n0, n1, n2, n3]) rfl ?_
    exact ⟨_, _, _, _, HR.out, rfl, by repeat (first | with_reducible exact hbel2 | with_reducible refine Below.drew ?_ | with_reducible refine below_drewN ?_ _ | ((with_reducible refine Below.alloc ?_ ?_ _); (rotate_left; focus (first | with_reducible exact Nat.le_refl _ | omega | (simp; done) | (simp; omega) | (simp [World.setCell]; done) | (simp [World.setCell]; omega)))) | ((with_reducible refine Below.setCell ?_ ?_ _); (rotate_left; focus (first | with_reducible exact Nat.le_refl _ | omega | (simp; done) | (simp; omega) | (simp [World.setCell]; done) | (simp [World.setCell]; omega)))))⟩

theorem rNext_del1 (base most call : Int) (k : Int) (args' read : List Int) (writes : Int) (A R : Option Addr) (n nc rn rc : Nat) (w : World) (hrn : rn ≤ 17592186044416) (hrc : rn ≤ rc) (b0 : 0 ≤ base) (b1 : base ≤ 1024) (m0 : 0 ≤ most) (m1 : most ≤ 16)
    (hA : Reads w w.heap.size 1 A n (ints (k :: args'))) (hR : Reads w w.heap.size 1 R rn (ints read)) (fd fr ce : Int) (rd : Nat) (hx : lookF k most read = ⟨fd, fr, rd, true, ce⟩) (h4 : call = 4) (hf : 0 ≤ fd) (hw : writes ≠ 0) (hle : rn ≤ rd) :
    Calls Try.prog 33 #[.int .i64 base, .int .i64 most, .int .i64 call, .slice A n nc, .slice R rn rc, .int .i64 writes] w (RPost (refNext base most call (k :: args') read writes) w) := by
  have HR : Hid (refNext base most call (k :: args') read writes = ⟨2, base, 0, 0⟩) := by
    show refNext base most call (k :: args') read writes = _
    have hrl : read.length = rn := by have := hR.1; simpa [ints] using this
    have hd : read.drop rd = [] := List.drop_of_length_le (by omega)
    simp [refNext, h4, a0, hx, show ¬ fd < 0 by omega, hw, hd]
  have e5 : (call == 5) = false := by simp [h4]
  have e3 : (call == 3) = false := by simp [h4]
  have e2 : (call == 2) = false := by simp [h4]
  have ef : decide (fd < 0) = false := by simp; omega
  clear h4
  have ew : (writes == 0) = false := by simp [hw]
  clear hw
  have hnp : 0 < n := by have := hA.1; simp [ints] at this; omega
  have hbd := findL_bd (key := k) m1 most.toNat 0 (-1) 0 read (by omega) (by omega) (by omega) (by omega)
  change -1 ≤ (lookF k most read).found ∧ (lookF k most read).found < most ∧ -1 ≤ (lookF k most read).free ∧ (lookF k most read).free < most ∧ 0 ≤ (lookF k most read).cell ∧ (lookF k most read).cell ≤ 3 * most ∧ (lookF k most read).reads ≤ 0 + read.length at hbd
  rw [hx] at hbd
  simp only at hbd
  obtain ⟨q1, q2, q3, q4, q5, q6, q7⟩ := hbd
  have hrl : read.length = rn := by have := hR.1; simpa [ints] using this
  rw [hrl] at q7
  have q8 : rd ≤ rn := by omega
  have HRL := Lib.hid hrl
  have HX := Lib.hid hx
  obtain ⟨ab, ao, rfl, hab, hac⟩ := hA.flat hnp
  have d0 : w.cell? ⟨ab, ao, none⟩ = some (.int .i64 k) := hac 0 _ rfl
  clear hac hx hrl q7
  go_enter Try.func33, Try.ntmps33
  go_wp2_with fail
  refine (find_any k most read R rn rc _ hrn m0 m1 (by exact (hR.alloc (Nat.le_refl _) _).more (by simp))).mono ?_
  rintro e w1 ⟨fd', fr', ce', rd', ov', hlk, rfl, hb1⟩
  rw [HX.out] at hlk
  injection hlk with e1 e2 e3 e4 e5
  subst e1 e2 e3 e4 e5
  have hn0' : Blk w1 w.heap.size 37 #[.int .i64 0, .int .i64 0, .int .i64 0, .int .i64 0] := (Blk.new w _ _).below hb1 (by simp)
  have hbel0' : Below w.heap.size w w1 := ((Below.refl _ _).alloc (Nat.le_refl _) _).trans (hb1.mono (B' := w.heap.size) (by simp))
  have hlt1 : w.heap.size < w1.heap.size := hn0'.lt
  have hn0 := hn0'.alloc (.cells #[.int .i64 fd, .int .i64 fr, .int .i64 rd, .bool true, .int .i64 ce] 78)
  have hbel0 := hbel0'.alloc hbel0'.size (.cells #[.int .i64 fd, .int .i64 fr, .int .i64 rd, .bool true, .int .i64 ce] 78)
  have hR1 : Reads w1 w.heap.size 1 R rn (ints read) := hR.below hbel0'
  have hA1 : Reads w1 w.heap.size 1 (some ⟨ab, ao, none⟩) n (ints (k :: args')) := hA.below hbel0'
  clear hn0' hbel0' hb1 d0
  have hrr : rd = rn := by omega
  subst hrr
  go_wp2_with fail
  all_goals
    refine (rRead_any base _).mono ?_
    rintro e w2 ⟨rfl, hb2⟩
    have hn := Blk.below (by first | exact hn0 | exact Blk.drew hn0) hb2 (by simp <;> omega)
    have n0 : w2.cell? ⟨w.heap.size, 0, none⟩ = some (.int .i64 0) := (hn.cell 0).trans rfl
    have n1 : w2.cell? ⟨w.heap.size, 1, none⟩ = some (.int .i64 0) := (hn.cell 1).trans rfl
    have n2 : w2.cell? ⟨w.heap.size, 2, none⟩ = some (.int .i64 0) := (hn.cell 2).trans rfl
    have n3 : w2.cell? ⟨w.heap.size, 3, none⟩ = some (.int .i64 0) := (hn.cell 3).trans rfl
    have f0 : w2.frozen? ⟨w.heap.size, 0, none⟩ = false := hn.frozen 0
    have f1 : w2.frozen? ⟨w.heap.size, 1, none⟩ = false := hn.frozen 1
    have f2 : w2.frozen? ⟨w.heap.size, 2, none⟩ = false := hn.frozen 2
    have f3 : w2.frozen? ⟨w.heap.size, 3, none⟩ = false := hn.frozen 3
    have hbel2 := hbel0.trans (hb2.mono (B' := w.heap.size) (by simp <;> omega))
    go_wp2
    refine bodyPost_ret (v := .agg #[.int .i64 2, .int .i64 base, .int .i64 0, .int .i64 0]) (by simp [results, Try.results33, go_sem, n0, n1, n2, n3]) rfl ?_
    exact ⟨_, _, _, _, HR.out, rfl, by repeat (first | with_reducible exact hbel2 | with_reducible refine Below.drew ?_ | with_reducible refine below_drewN ?_ _ | ((with_reducible refine Below.alloc ?_ ?_ _); (rotate_left; focus (first | with_reducible exact Nat.le_refl _ | omega | (simp; done) | (simp; omega) | (simp [World.setCell]; done) | (simp [World.setCell]; omega)))) | ((with_reducible refine Below.setCell ?_ ?_ _); (rotate_left; focus (first | with_reducible exact Nat.le_refl _ | omega | (simp; done) | (simp; omega) | (simp [World.setCell]; done) | (simp [World.setCell]; omega)))))⟩

theorem rNext_del2 (base most call : Int) (k : Int) (args' read : List Int) (writes : Int) (A R : Option Addr) (n nc rn rc : Nat) (w : World) (hrn : rn ≤ 17592186044416) (hrc : rn ≤ rc) (b0 : 0 ≤ base) (b1 : base ≤ 1024) (m0 : 0 ≤ most) (m1 : most ≤ 16)
    (hA : Reads w w.heap.size 1 A n (ints (k :: args'))) (hR : Reads w w.heap.size 1 R rn (ints read)) (fd fr ce : Int) (rd : Nat) (hx : lookF k most read = ⟨fd, fr, rd, true, ce⟩) (h4 : call = 4) (hf : 0 ≤ fd) (hw : writes = 1) (l : Int) (hlt : rd < read.length) (hl : read[rd] = l) :
    Calls Try.prog 33 #[.int .i64 base, .int .i64 most, .int .i64 call, .slice A n nc, .slice R rn rc, .int .i64 writes] w (RPost (refNext base most call (k :: args') read writes) w) := by
  have HR : Hid (refNext base most call (k :: args') read writes = ⟨3, base, wrap64 (l - 1), 0⟩) := by
    show refNext base most call (k :: args') read writes = _
    have hrl : read.length = rn := by have := hR.1; simpa [ints] using this
    have hd : read.drop rd = l :: read.drop (rd + 1) := by rw [← hl]; exact List.drop_eq_getElem_cons (by omega)
    simp [refNext, h4, a0, hx, show ¬ fd < 0 by omega, hw, hd]
  have e5 : (call == 5) = false := by simp [h4]
  have e3 : (call == 3) = false := by simp [h4]
  have e2 : (call == 2) = false := by simp [h4]
  have ef : decide (fd < 0) = false := by simp; omega
  clear h4
  have hlt' : rd < rn := by have := hR.1; simp [ints] at this; omega
  have ew : (writes == 0) = false := by simp [hw]
  have ew1 : (writes == 1) = true := by simp [hw]
  clear hw
  have hnp : 0 < n := by have := hA.1; simp [ints] at this; omega
  have hbd := findL_bd (key := k) m1 most.toNat 0 (-1) 0 read (by omega) (by omega) (by omega) (by omega)
  change -1 ≤ (lookF k most read).found ∧ (lookF k most read).found < most ∧ -1 ≤ (lookF k most read).free ∧ (lookF k most read).free < most ∧ 0 ≤ (lookF k most read).cell ∧ (lookF k most read).cell ≤ 3 * most ∧ (lookF k most read).reads ≤ 0 + read.length at hbd
  rw [hx] at hbd
  simp only at hbd
  obtain ⟨q1, q2, q3, q4, q5, q6, q7⟩ := hbd
  have hrl : read.length = rn := by have := hR.1; simpa [ints] using this
  rw [hrl] at q7
  have q8 : rd ≤ rn := by omega
  have HRL := Lib.hid hrl
  have HX := Lib.hid hx
  obtain ⟨ab, ao, rfl, hab, hac⟩ := hA.flat hnp
  have d0 : w.cell? ⟨ab, ao, none⟩ = some (.int .i64 k) := hac 0 _ rfl
  clear hac hx hrl q7
  go_enter Try.func33, Try.ntmps33
  go_wp2_with fail
  refine (find_any k most read R rn rc _ hrn m0 m1 (by exact (hR.alloc (Nat.le_refl _) _).more (by simp))).mono ?_
  rintro e w1 ⟨fd', fr', ce', rd', ov', hlk, rfl, hb1⟩
  rw [HX.out] at hlk
  injection hlk with e1 e2 e3 e4 e5
  subst e1 e2 e3 e4 e5
  have hn0' : Blk w1 w.heap.size 37 #[.int .i64 0, .int .i64 0, .int .i64 0, .int .i64 0] := (Blk.new w _ _).below hb1 (by simp)
  have hbel0' : Below w.heap.size w w1 := ((Below.refl _ _).alloc (Nat.le_refl _) _).trans (hb1.mono (B' := w.heap.size) (by simp))
  have hlt1 : w.heap.size < w1.heap.size := hn0'.lt
  have hn0 := hn0'.alloc (.cells #[.int .i64 fd, .int .i64 fr, .int .i64 rd, .bool true, .int .i64 ce] 78)
  have hbel0 := hbel0'.alloc hbel0'.size (.cells #[.int .i64 fd, .int .i64 fr, .int .i64 rd, .bool true, .int .i64 ce] 78)
  have hR1 : Reads w1 w.heap.size 1 R rn (ints read) := hR.below hbel0'
  have hA1 : Reads w1 w.heap.size 1 (some ⟨ab, ao, none⟩) n (ints (k :: args')) := hA.below hbel0'
  clear hn0' hbel0' hb1 d0
  obtain ⟨rb, ro, rfl, hrb, hrcell⟩ := hR1.flat (by omega)
  have dl : w1.cell? ⟨rb, ro + rd, none⟩ = some (.int .i64 l) := hrcell rd _ (by rw [← hl]; exact ints_at _ _ (by rw [HRL.out]; omega))
  have hrlt : rb < w1.heap.size := by omega
  have hcd : ¬ rc = rd := by omega
  have hpos : (0 : Int) < (((rn - rd : Nat)) : Int) := by omega
  have hpos2 : 0 < rn - rd := by omega
  have hez : ((((rn - rd : Nat)) : Int) == 0) = false := by simp; omega
  clear hrcell
  go_wp2_with fail
  refine (rPut_any base (wrap64 (l - 1)) _).mono ?_
  rintro e w2 ⟨rfl, hb2⟩
  have hn := Blk.below (by first | exact hn0 | exact Blk.drew hn0) hb2 (by simp <;> omega)
  have n0 : w2.cell? ⟨w.heap.size, 0, none⟩ = some (.int .i64 0) := (hn.cell 0).trans rfl
  have n1 : w2.cell? ⟨w.heap.size, 1, none⟩ = some (.int .i64 0) := (hn.cell 1).trans rfl
  have n2 : w2.cell? ⟨w.heap.size, 2, none⟩ = some (.int .i64 0) := (hn.cell 2).trans rfl
  have n3 : w2.cell? ⟨w.heap.size, 3, none⟩ = some (.int .i64 0) := (hn.cell 3).trans rfl
  have f0 : w2.frozen? ⟨w.heap.size, 0, none⟩ = false := hn.frozen 0
  have f1 : w2.frozen? ⟨w.heap.size, 1, none⟩ = false := hn.frozen 1
  have f2 : w2.frozen? ⟨w.heap.size, 2, none⟩ = false := hn.frozen 2
  have f3 : w2.frozen? ⟨w.heap.size, 3, none⟩ = false := hn.frozen 3
  have hbel2 := hbel0.trans (hb2.mono (B' := w.heap.size) (by simp <;> omega))
  go_wp2
  refine bodyPost_ret (v := .agg #[.int .i64 3, .int .i64 base, .int .i64 (wrap64 (l - 1)), .int .i64 0]) (by simp [results, Try.results33, go_sem, n0, n1, n2, n3]) rfl ?_
  exact ⟨_, _, _, _, HR.out, rfl, by repeat (first | with_reducible exact hbel2 | with_reducible refine Below.drew ?_ | with_reducible refine below_drewN ?_ _ | ((with_reducible refine Below.alloc ?_ ?_ _); (rotate_left; focus (first | with_reducible exact Nat.le_refl _ | omega | (simp; done) | (simp; omega) | (simp [World.setCell]; done) | (simp [World.setCell]; omega)))) | ((with_reducible refine Below.setCell ?_ ?_ _); (rotate_left; focus (first | with_reducible exact Nat.le_refl _ | omega | (simp; done) | (simp; omega) | (simp [World.setCell]; done) | (simp [World.setCell]; omega)))))⟩

theorem rNext_del3 (base most call : Int) (k : Int) (args' read : List Int) (writes : Int) (A R : Option Addr) (n nc rn rc : Nat) (w : World) (hrn : rn ≤ 17592186044416) (hrc : rn ≤ rc) (b0 : 0 ≤ base) (b1 : base ≤ 1024) (m0 : 0 ≤ most) (m1 : most ≤ 16)
    (hA : Reads w w.heap.size 1 A n (ints (k :: args'))) (hR : Reads w w.heap.size 1 R rn (ints read)) (fd fr ce : Int) (rd : Nat) (hx : lookF k most read = ⟨fd, fr, rd, true, ce⟩) (h4 : call = 4) (hf : 0 ≤ fd) (hw : writes ≠ 0) (hw1 : writes ≠ 1) (l : Int) (hlt : rd < read.length) (hl : read[rd] = l) :
    Calls Try.prog 33 #[.int .i64 base, .int .i64 most, .int .i64 call, .slice A n nc, .slice R rn rc, .int .i64 writes] w (RPost (refNext base most call (k :: args') read writes) w) := by
  have HR : Hid (refNext base most call (k :: args') read writes = ⟨6, 0, (endW 0 0).value, 0⟩) := by
    show refNext base most call (k :: args') read writes = _
    have hrl : read.length = rn := by have := hR.1; simpa [ints] using this
    have hd : read.drop rd = l :: read.drop (rd + 1) := by rw [← hl]; exact List.drop_eq_getElem_cons (by omega)
    simp [refNext, h4, a0, hx, show ¬ fd < 0 by omega, hw, hw1, hd, endW]
  have e5 : (call == 5) = false := by simp [h4]
  have e3 : (call == 3) = false := by simp [h4]
  have e2 : (call == 2) = false := by simp [h4]
  have ef : decide (fd < 0) = false := by simp; omega
  clear h4
  have hlt' : rd < rn := by have := hR.1; simp [ints] at this; omega
  have ew : (writes == 0) = false := by simp [hw]
  have ew1 : (writes == 1) = false := by simp [hw1]
  clear hw hw1
  have hnp : 0 < n := by have := hA.1; simp [ints] at this; omega
  have hbd := findL_bd (key := k) m1 most.toNat 0 (-1) 0 read (by omega) (by omega) (by omega) (by omega)
  change -1 ≤ (lookF k most read).found ∧ (lookF k most read).found < most ∧ -1 ≤ (lookF k most read).free ∧ (lookF k most read).free < most ∧ 0 ≤ (lookF k most read).cell ∧ (lookF k most read).cell ≤ 3 * most ∧ (lookF k most read).reads ≤ 0 + read.length at hbd
  rw [hx] at hbd
  simp only at hbd
  obtain ⟨q1, q2, q3, q4, q5, q6, q7⟩ := hbd
  have hrl : read.length = rn := by have := hR.1; simpa [ints] using this
  rw [hrl] at q7
  have q8 : rd ≤ rn := by omega
  have HRL := Lib.hid hrl
  have HX := Lib.hid hx
  obtain ⟨ab, ao, rfl, hab, hac⟩ := hA.flat hnp
  have d0 : w.cell? ⟨ab, ao, none⟩ = some (.int .i64 k) := hac 0 _ rfl
  clear hac hx hrl q7
  go_enter Try.func33, Try.ntmps33
  go_wp2_with fail
  refine (find_any k most read R rn rc _ hrn m0 m1 (by exact (hR.alloc (Nat.le_refl _) _).more (by simp))).mono ?_
  rintro e w1 ⟨fd', fr', ce', rd', ov', hlk, rfl, hb1⟩
  rw [HX.out] at hlk
  injection hlk with e1 e2 e3 e4 e5
  subst e1 e2 e3 e4 e5
  have hn0' : Blk w1 w.heap.size 37 #[.int .i64 0, .int .i64 0, .int .i64 0, .int .i64 0] := (Blk.new w _ _).below hb1 (by simp)
  have hbel0' : Below w.heap.size w w1 := ((Below.refl _ _).alloc (Nat.le_refl _) _).trans (hb1.mono (B' := w.heap.size) (by simp))
  have hlt1 : w.heap.size < w1.heap.size := hn0'.lt
  have hn0 := hn0'.alloc (.cells #[.int .i64 fd, .int .i64 fr, .int .i64 rd, .bool true, .int .i64 ce] 78)
  have hbel0 := hbel0'.alloc hbel0'.size (.cells #[.int .i64 fd, .int .i64 fr, .int .i64 rd, .bool true, .int .i64 ce] 78)
  have hR1 : Reads w1 w.heap.size 1 R rn (ints read) := hR.below hbel0'
  have hA1 : Reads w1 w.heap.size 1 (some ⟨ab, ao, none⟩) n (ints (k :: args')) := hA.below hbel0'
  clear hn0' hbel0' hb1 d0
  obtain ⟨rb, ro, rfl, hrb, hrcell⟩ := hR1.flat (by omega)
  have dl : w1.cell? ⟨rb, ro + rd, none⟩ = some (.int .i64 l) := hrcell rd _ (by rw [← hl]; exact ints_at _ _ (by rw [HRL.out]; omega))
  have hrlt : rb < w1.heap.size := by omega
  have hcd : ¬ rc = rd := by omega
  have hpos : (0 : Int) < (((rn - rd : Nat)) : Int) := by omega
  have hpos2 : 0 < rn - rd := by omega
  have hez : ((((rn - rd : Nat)) : Int) == 0) = false := by simp; omega
  clear hrcell
  go_wp2_with fail
  refine (rEnd_any 0 0 _).mono ?_
  rintro e w2 ⟨rfl, hb2⟩
  have hn := Blk.below (by first | exact hn0 | exact Blk.drew hn0) hb2 (by simp <;> omega)
  have n0 : w2.cell? ⟨w.heap.size, 0, none⟩ = some (.int .i64 0) := (hn.cell 0).trans rfl
  have n1 : w2.cell? ⟨w.heap.size, 1, none⟩ = some (.int .i64 0) := (hn.cell 1).trans rfl
  have n2 : w2.cell? ⟨w.heap.size, 2, none⟩ = some (.int .i64 0) := (hn.cell 2).trans rfl
  have n3 : w2.cell? ⟨w.heap.size, 3, none⟩ = some (.int .i64 0) := (hn.cell 3).trans rfl
  have f0 : w2.frozen? ⟨w.heap.size, 0, none⟩ = false := hn.frozen 0
  have f1 : w2.frozen? ⟨w.heap.size, 1, none⟩ = false := hn.frozen 1
  have f2 : w2.frozen? ⟨w.heap.size, 2, none⟩ = false := hn.frozen 2
  have f3 : w2.frozen? ⟨w.heap.size, 3, none⟩ = false := hn.frozen 3
  have hbel2 := hbel0.trans (hb2.mono (B' := w.heap.size) (by simp <;> omega))
  go_wp2
  refine bodyPost_ret (v := .agg #[.int .i64 6, .int .i64 0, .int .i64 (endW 0 0).value, .int .i64 0]) (by simp [results, Try.results33, go_sem, n0, n1, n2, n3]) rfl ?_
  exact ⟨_, _, _, _, HR.out, rfl, by repeat (first | with_reducible exact hbel2 | with_reducible refine Below.drew ?_ | with_reducible refine below_drewN ?_ _ | ((with_reducible refine Below.alloc ?_ ?_ _); (rotate_left; focus (first | with_reducible exact Nat.le_refl _ | omega | (simp; done) | (simp; omega) | (simp [World.setCell]; done) | (simp [World.setCell]; omega)))) | ((with_reducible refine Below.setCell ?_ ?_ _); (rotate_left; focus (first | with_reducible exact Nat.le_refl _ | omega | (simp; done) | (simp; omega) | (simp [World.setCell]; done) | (simp [World.setCell]; omega)))))⟩

end Go.Proofs.Ytjggcidaolnmbaa
