/- What the document's puts does. -/
import Derived.Test.YtjggcidaolnmbaaDrn
import Derived.Deep.RegionWith
namespace Go.Proofs.Ytjggcidaolnmbaa
open Go.RowKit Go.Joins Go.ChangeShapes Go.WideShapes Go.Deep
set_option linter.unusedVariables false
set_option maxRecDepth 100000

theorem puts_f0 (base most : Int) (k v : Int) (args' left : List Int) (writes : Int) (A L : Option Addr) (n nc ln lc : Nat) (w : World) (b0 : 0 ≤ base) (b1 : base ≤ 1024) (m0 : 0 ≤ most) (m1 : most ≤ 16) (hln : ln ≤ 17592186044416)
    (hA : Reads w w.heap.size 1 A n (ints (k :: v :: args'))) (hL : Reads w w.heap.size 1 L ln (ints left)) (fd fr ce : Int) (rd : Nat) (q1 : -1 ≤ fd) (q2 : fd < most) (q3 : -1 ≤ fr) (q4 : fr < most) (hf : 0 ≤ fd) (hw : writes = 0) :
    Calls Try.prog 47 #[.int .i64 base, .int .i64 most, .slice A n nc, .agg #[.int .i64 fd, .int .i64 fr, .int .i64 rd, .bool true, .int .i64 ce], .slice L ln lc, .int .i64 writes] w (RPost (putsF base most (k :: v :: args') ⟨fd, fr, rd, true, ce⟩ (left) writes) w) := by
  have HR : Hid (putsF base most (k :: v :: args') ⟨fd, fr, rd, true, ce⟩ (left) writes = ⟨3, base + 3 + 3 * fd, v, 0⟩) := by
    show putsF base most (k :: v :: args') ⟨fd, fr, rd, true, ce⟩ (left) writes = _
    simp [putsF, hf, hw, a1]
  have ew : (writes == 0) = true := by simp [hw]
  have hwr : IntKind.i64.wrap (base + 3) = base + 3 := IntWalk.i64_in _ (by omega)
  have hwr1 : IntKind.i64.wrap (3 * fd) = 3 * fd := IntWalk.i64_in _ (by omega)
  have hwr2 : IntKind.i64.wrap (base + 3 + 3 * fd) = base + 3 + 3 * fd := IntWalk.i64_in _ (by omega)
  clear hw
  have hn0 : Blk ((w.alloc (.cells #[.int .i64 fd, .int .i64 fr, .int .i64 rd, .bool true, .int .i64 ce] 78)).alloc (.cells #[.int .i64 0, .int .i64 0, .int .i64 0, .int .i64 0] 37)) (w.heap.size + 1) 37 #[.int .i64 0, .int .i64 0, .int .i64 0, .int .i64 0] := Blk.new' (by simp)
  have hbel0 : Below w.heap.size w ((w.alloc (.cells #[.int .i64 fd, .int .i64 fr, .int .i64 rd, .bool true, .int .i64 ce] 78)).alloc (.cells #[.int .i64 0, .int .i64 0, .int .i64 0, .int .i64 0] 37)) := by repeat (first | with_reducible exact Below.refl _ _ | with_reducible refine Below.drew ?_ | with_reducible refine below_drewN ?_ _ | ((with_reducible refine Below.alloc ?_ ?_ _); (rotate_left; focus (first | with_reducible exact Nat.le_refl _ | omega | (simp; done) | (simp; omega) | (simp [World.setCell]; done) | (simp [World.setCell]; omega)))) | ((with_reducible refine Below.setCell ?_ ?_ _); (rotate_left; focus (first | with_reducible exact Nat.le_refl _ | omega | (simp; done) | (simp; omega) | (simp [World.setCell]; done) | (simp [World.setCell]; omega)))))
  have hnp : 1 < n := by have := hA.1; simp [ints] at this; omega
  obtain ⟨ab, ao, rfl, hab, hac⟩ := hA.flat (by omega)
  have da0 : w.cell? ⟨ab, ao, none⟩ = some (.int .i64 k) := hac 0 _ rfl
  have da1 : w.cell? ⟨ab, ao + 1, none⟩ = some (.int .i64 v) := hac 1 _ rfl
  clear hac
  go_enter Try.func47, Try.ntmps47
  go_wp2_with fail
  go_region_with (go_at_call 48; refine (rPut_any (base + 3 + 3 * fd) v _).mono ?_; rintro e w2 ⟨rfl, hb2⟩; have hn := Blk.below (by first | exact hn0 | exact Blk.drew hn0) hb2 (by simp <;> omega); have n0 : w2.cell? ⟨w.heap.size + 1, 0, none⟩ = some (.int .i64 0) := (hn.cell 0).trans rfl; have n1 : w2.cell? ⟨w.heap.size + 1, 1, none⟩ = some (.int .i64 0) := (hn.cell 1).trans rfl; have n2 : w2.cell? ⟨w.heap.size + 1, 2, none⟩ = some (.int .i64 0) := (hn.cell 2).trans rfl; have n3 : w2.cell? ⟨w.heap.size + 1, 3, none⟩ = some (.int .i64 0) := (hn.cell 3).trans rfl; have f0 : w2.frozen? ⟨w.heap.size + 1, 0, none⟩ = false := hn.frozen 0; have f1 : w2.frozen? ⟨w.heap.size + 1, 1, none⟩ = false := hn.frozen 1; have f2 : w2.frozen? ⟨w.heap.size + 1, 2, none⟩ = false := hn.frozen 2; have f3 : w2.frozen? ⟨w.heap.size + 1, 3, none⟩ = false := hn.frozen 3)
  all_goals
    have hbel2 := hbel0.drew.trans (hb2.mono (B' := w.heap.size) (by simp <;> omega))
    go_wp2
    refine bodyPost_ret (v := .agg #[.int .i64 3, .int .i64 (base + 3 + 3 * fd), .int .i64 v, .int .i64 0]) (by simp [results, Try.results47, go_sem, n0, n1, n2, n3]) rfl ?_
    exact ⟨_, _, _, _, HR.out, rfl, by repeat (first | with_reducible exact hbel2 | with_reducible refine Below.drew ?_ | with_reducible refine below_drewN ?_ _ | ((with_reducible refine Below.alloc ?_ ?_ _); (rotate_left; focus (first | with_reducible exact Nat.le_refl _ | omega | (simp; done) | (simp; omega) | (simp [World.setCell]; done) | (simp [World.setCell]; omega)))) | ((with_reducible refine Below.setCell ?_ ?_ _); (rotate_left; focus (first | with_reducible exact Nat.le_refl _ | omega | (simp; done) | (simp; omega) | (simp [World.setCell]; done) | (simp [World.setCell]; omega)))))⟩

theorem puts_f1 (base most : Int) (k v : Int) (args' left : List Int) (writes : Int) (A L : Option Addr) (n nc ln lc : Nat) (w : World) (b0 : 0 ≤ base) (b1 : base ≤ 1024) (m0 : 0 ≤ most) (m1 : most ≤ 16) (hln : ln ≤ 17592186044416)
    (hA : Reads w w.heap.size 1 A n (ints (k :: v :: args'))) (hL : Reads w w.heap.size 1 L ln (ints left)) (fd fr ce : Int) (rd : Nat) (q1 : -1 ≤ fd) (q2 : fd < most) (q3 : -1 ≤ fr) (q4 : fr < most) (hf : 0 ≤ fd) (hw : writes ≠ 0) :
    Calls Try.prog 47 #[.int .i64 base, .int .i64 most, .slice A n nc, .agg #[.int .i64 fd, .int .i64 fr, .int .i64 rd, .bool true, .int .i64 ce], .slice L ln lc, .int .i64 writes] w (RPost (putsF base most (k :: v :: args') ⟨fd, fr, rd, true, ce⟩ (left) writes) w) := by
  have HR : Hid (putsF base most (k :: v :: args') ⟨fd, fr, rd, true, ce⟩ (left) writes = ⟨6, 0, (endW 0 0).value, 0⟩) := by
    show putsF base most (k :: v :: args') ⟨fd, fr, rd, true, ce⟩ (left) writes = _
    simp [putsF, hf, hw, endW]
  have ew : (writes == 0) = false := by simp [hw]
  clear hw
  have hn0 : Blk ((w.alloc (.cells #[.int .i64 fd, .int .i64 fr, .int .i64 rd, .bool true, .int .i64 ce] 78)).alloc (.cells #[.int .i64 0, .int .i64 0, .int .i64 0, .int .i64 0] 37)) (w.heap.size + 1) 37 #[.int .i64 0, .int .i64 0, .int .i64 0, .int .i64 0] := Blk.new' (by simp)
  have hbel0 : Below w.heap.size w ((w.alloc (.cells #[.int .i64 fd, .int .i64 fr, .int .i64 rd, .bool true, .int .i64 ce] 78)).alloc (.cells #[.int .i64 0, .int .i64 0, .int .i64 0, .int .i64 0] 37)) := by repeat (first | with_reducible exact Below.refl _ _ | with_reducible refine Below.drew ?_ | with_reducible refine below_drewN ?_ _ | ((with_reducible refine Below.alloc ?_ ?_ _); (rotate_left; focus (first | with_reducible exact Nat.le_refl _ | omega | (simp; done) | (simp; omega) | (simp [World.setCell]; done) | (simp [World.setCell]; omega)))) | ((with_reducible refine Below.setCell ?_ ?_ _); (rotate_left; focus (first | with_reducible exact Nat.le_refl _ | omega | (simp; done) | (simp; omega) | (simp [World.setCell]; done) | (simp [World.setCell]; omega)))))
  have hnp : 1 < n := by have := hA.1; simp [ints] at this; omega
  obtain ⟨ab, ao, rfl, hab, hac⟩ := hA.flat (by omega)
  have da0 : w.cell? ⟨ab, ao, none⟩ = some (.int .i64 k) := hac 0 _ rfl
  have da1 : w.cell? ⟨ab, ao + 1, none⟩ = some (.int .i64 v) := hac 1 _ rfl
  clear hac
  go_enter Try.func47, Try.ntmps47
  go_wp2_with fail
  refine (rEnd_any 0 0 _).mono ?_
  rintro e w2 ⟨rfl, hb2⟩
  have hn := Blk.below (by first | exact hn0 | exact Blk.drew hn0) hb2 (by simp <;> omega)
  have n0 : w2.cell? ⟨w.heap.size + 1, 0, none⟩ = some (.int .i64 0) := (hn.cell 0).trans rfl
  have n1 : w2.cell? ⟨w.heap.size + 1, 1, none⟩ = some (.int .i64 0) := (hn.cell 1).trans rfl
  have n2 : w2.cell? ⟨w.heap.size + 1, 2, none⟩ = some (.int .i64 0) := (hn.cell 2).trans rfl
  have n3 : w2.cell? ⟨w.heap.size + 1, 3, none⟩ = some (.int .i64 0) := (hn.cell 3).trans rfl
  have f0 : w2.frozen? ⟨w.heap.size + 1, 0, none⟩ = false := hn.frozen 0
  have f1 : w2.frozen? ⟨w.heap.size + 1, 1, none⟩ = false := hn.frozen 1
  have f2 : w2.frozen? ⟨w.heap.size + 1, 2, none⟩ = false := hn.frozen 2
  have f3 : w2.frozen? ⟨w.heap.size + 1, 3, none⟩ = false := hn.frozen 3
  have hbel2 := hbel0.trans (hb2.mono (B' := w.heap.size) (by simp <;> omega))
  go_wp2
  refine bodyPost_ret (v := .agg #[.int .i64 6, .int .i64 0, .int .i64 (endW 0 0).value, .int .i64 0]) (by simp [results, Try.results47, go_sem, n0, n1, n2, n3]) rfl ?_
  exact ⟨_, _, _, _, HR.out, rfl, by repeat (first | with_reducible exact hbel2 | with_reducible refine Below.drew ?_ | with_reducible refine below_drewN ?_ _ | ((with_reducible refine Below.alloc ?_ ?_ _); (rotate_left; focus (first | with_reducible exact Nat.le_refl _ | omega | (simp; done) | (simp; omega) | (simp [World.setCell]; done) | (simp [World.setCell]; omega)))) | ((with_reducible refine Below.setCell ?_ ?_ _); (rotate_left; focus (first | with_reducible exact Nat.le_refl _ | omega | (simp; done) | (simp; omega) | (simp [World.setCell]; done) | (simp [World.setCell]; omega)))))⟩

theorem puts_n (base most : Int) (k v : Int) (args' : List Int) (writes : Int) (A L : Option Addr) (n nc ln lc : Nat) (w : World) (b0 : 0 ≤ base) (b1 : base ≤ 1024) (m0 : 0 ≤ most) (m1 : most ≤ 16) (hln : ln ≤ 17592186044416)
    (hA : Reads w w.heap.size 1 A n (ints (k :: v :: args'))) (hL : Reads w w.heap.size 1 L ln (ints (([] : List Int)))) (fd fr ce : Int) (rd : Nat) (q1 : -1 ≤ fd) (q2 : fd < most) (q3 : -1 ≤ fr) (q4 : fr < most) (hf : fd < 0) :
    Calls Try.prog 47 #[.int .i64 base, .int .i64 most, .slice A n nc, .agg #[.int .i64 fd, .int .i64 fr, .int .i64 rd, .bool true, .int .i64 ce], .slice L ln lc, .int .i64 writes] w (RPost (putsF base most (k :: v :: args') ⟨fd, fr, rd, true, ce⟩ (([] : List Int)) writes) w) := by
  have HR : Hid (putsF base most (k :: v :: args') ⟨fd, fr, rd, true, ce⟩ (([] : List Int)) writes = ⟨2, base, 0, 0⟩) := by
    show putsF base most (k :: v :: args') ⟨fd, fr, rd, true, ce⟩ (([] : List Int)) writes = _
    simp [putsF, show ¬ 0 ≤ fd by omega]
  have ef : decide (0 ≤ fd) = false := by simp; omega
  have hl0 : ln = 0 := by have := hL.1; simpa [ints] using this.symm
  subst hl0
  have hn0 : Blk ((w.alloc (.cells #[.int .i64 fd, .int .i64 fr, .int .i64 rd, .bool true, .int .i64 ce] 78)).alloc (.cells #[.int .i64 0, .int .i64 0, .int .i64 0, .int .i64 0] 37)) (w.heap.size + 1) 37 #[.int .i64 0, .int .i64 0, .int .i64 0, .int .i64 0] := Blk.new' (by simp)
  have hbel0 : Below w.heap.size w ((w.alloc (.cells #[.int .i64 fd, .int .i64 fr, .int .i64 rd, .bool true, .int .i64 ce] 78)).alloc (.cells #[.int .i64 0, .int .i64 0, .int .i64 0, .int .i64 0] 37)) := by repeat (first | with_reducible exact Below.refl _ _ | with_reducible refine Below.drew ?_ | with_reducible refine below_drewN ?_ _ | ((with_reducible refine Below.alloc ?_ ?_ _); (rotate_left; focus (first | with_reducible exact Nat.le_refl _ | omega | (simp; done) | (simp; omega) | (simp [World.setCell]; done) | (simp [World.setCell]; omega)))) | ((with_reducible refine Below.setCell ?_ ?_ _); (rotate_left; focus (first | with_reducible exact Nat.le_refl _ | omega | (simp; done) | (simp; omega) | (simp [World.setCell]; done) | (simp [World.setCell]; omega)))))
  have hnp : 1 < n := by have := hA.1; simp [ints] at this; omega
  obtain ⟨ab, ao, rfl, hab, hac⟩ := hA.flat (by omega)
  have da0 : w.cell? ⟨ab, ao, none⟩ = some (.int .i64 k) := hac 0 _ rfl
  have da1 : w.cell? ⟨ab, ao + 1, none⟩ = some (.int .i64 v) := hac 1 _ rfl
  clear hac
  go_enter Try.func47, Try.ntmps47
  go_wp2_with fail
  refine (rRead_any base _).mono ?_
  rintro e w2 ⟨rfl, hb2⟩
  have hn := Blk.below (by first | exact hn0 | exact Blk.drew hn0) hb2 (by simp <;> omega)
  have n0 : w2.cell? ⟨w.heap.size + 1, 0, none⟩ = some (.int .i64 0) := (hn.cell 0).trans rfl
  have n1 : w2.cell? ⟨w.heap.size + 1, 1, none⟩ = some (.int .i64 0) := (hn.cell 1).trans rfl
  have n2 : w2.cell? ⟨w.heap.size + 1, 2, none⟩ = some (.int .i64 0) := (hn.cell 2).trans rfl
  have n3 : w2.cell? ⟨w.heap.size + 1, 3, none⟩ = some (.int .i64 0) := (hn.cell 3).trans rfl
  have f0 : w2.frozen? ⟨w.heap.size + 1, 0, none⟩ = false := hn.frozen 0
  have f1 : w2.frozen? ⟨w.heap.size + 1, 1, none⟩ = false := hn.frozen 1
  have f2 : w2.frozen? ⟨w.heap.size + 1, 2, none⟩ = false := hn.frozen 2
  have f3 : w2.frozen? ⟨w.heap.size + 1, 3, none⟩ = false := hn.frozen 3
  have hbel2 := hbel0.trans (hb2.mono (B' := w.heap.size) (by simp <;> omega))
  go_wp2
  refine bodyPost_ret (v := .agg #[.int .i64 2, .int .i64 base, .int .i64 0, .int .i64 0]) (by simp [results, Try.results47, go_sem, n0, n1, n2, n3]) rfl ?_
  exact ⟨_, _, _, _, HR.out, rfl, by repeat (first | with_reducible exact hbel2 | with_reducible refine Below.drew ?_ | with_reducible refine below_drewN ?_ _ | ((with_reducible refine Below.alloc ?_ ?_ _); (rotate_left; focus (first | with_reducible exact Nat.le_refl _ | omega | (simp; done) | (simp; omega) | (simp [World.setCell]; done) | (simp [World.setCell]; omega)))) | ((with_reducible refine Below.setCell ?_ ?_ _); (rotate_left; focus (first | with_reducible exact Nat.le_refl _ | omega | (simp; done) | (simp; omega) | (simp [World.setCell]; done) | (simp [World.setCell]; omega)))))⟩

theorem puts_full1 (base most : Int) (k v c : Int) (args' left' : List Int) (writes : Int) (A L : Option Addr) (n nc ln lc : Nat) (w : World) (b0 : 0 ≤ base) (b1 : base ≤ 1024) (m0 : 0 ≤ most) (m1 : most ≤ 16) (hln : ln ≤ 17592186044416)
    (hA : Reads w w.heap.size 1 A n (ints (k :: v :: args'))) (hL : Reads w w.heap.size 1 L ln (ints (c :: left'))) (fd fr ce : Int) (rd : Nat) (q1 : -1 ≤ fd) (q2 : fd < most) (q3 : -1 ≤ fr) (q4 : fr < most) (hf : fd < 0) (hc : most ≤ c) :
    Calls Try.prog 47 #[.int .i64 base, .int .i64 most, .slice A n nc, .agg #[.int .i64 fd, .int .i64 fr, .int .i64 rd, .bool true, .int .i64 ce], .slice L ln lc, .int .i64 writes] w (RPost (putsF base most (k :: v :: args') ⟨fd, fr, rd, true, ce⟩ (c :: left') writes) w) := by
  have HR : Hid (putsF base most (k :: v :: args') ⟨fd, fr, rd, true, ce⟩ (c :: left') writes = ⟨6, 0, (endW 0 2).value, 2⟩) := by
    show putsF base most (k :: v :: args') ⟨fd, fr, rd, true, ce⟩ (c :: left') writes = _
    simp [putsF, show ¬ 0 ≤ fd by omega, hc, endW]
  have ef : decide (0 ≤ fd) = false := by simp; omega
  have hn0 : Blk ((w.alloc (.cells #[.int .i64 fd, .int .i64 fr, .int .i64 rd, .bool true, .int .i64 ce] 78)).alloc (.cells #[.int .i64 0, .int .i64 0, .int .i64 0, .int .i64 0] 37)) (w.heap.size + 1) 37 #[.int .i64 0, .int .i64 0, .int .i64 0, .int .i64 0] := Blk.new' (by simp)
  have hbel0 : Below w.heap.size w ((w.alloc (.cells #[.int .i64 fd, .int .i64 fr, .int .i64 rd, .bool true, .int .i64 ce] 78)).alloc (.cells #[.int .i64 0, .int .i64 0, .int .i64 0, .int .i64 0] 37)) := by repeat (first | with_reducible exact Below.refl _ _ | with_reducible refine Below.drew ?_ | with_reducible refine below_drewN ?_ _ | ((with_reducible refine Below.alloc ?_ ?_ _); (rotate_left; focus (first | with_reducible exact Nat.le_refl _ | omega | (simp; done) | (simp; omega) | (simp [World.setCell]; done) | (simp [World.setCell]; omega)))) | ((with_reducible refine Below.setCell ?_ ?_ _); (rotate_left; focus (first | with_reducible exact Nat.le_refl _ | omega | (simp; done) | (simp; omega) | (simp [World.setCell]; done) | (simp [World.setCell]; omega)))))
  have hnp : 1 < n := by have := hA.1; simp [ints] at this; omega
  obtain ⟨ab, ao, rfl, hab, hac⟩ := hA.flat (by omega)
  have da0 : w.cell? ⟨ab, ao, none⟩ = some (.int .i64 k) := hac 0 _ rfl
  have da1 : w.cell? ⟨ab, ao + 1, none⟩ = some (.int .i64 v) := hac 1 _ rfl
  clear hac
  have hlp : 0 < ln := by have := hL.1; simp [ints] at this; omega
  have hez : ((ln : Int) == 0) = false := by simp; omega
  obtain ⟨lb, lo, rfl, hlb, hlc⟩ := hL.flat hlp
  have dl : w.cell? ⟨lb, lo, none⟩ = some (.int .i64 c) := hlc 0 _ rfl
  clear hlc
  go_enter Try.func47, Try.ntmps47
  go_wp2_with fail
  refine (rEnd_any 0 2 _).mono ?_
  rintro e w2 ⟨rfl, hb2⟩
  have hn := Blk.below (by first | exact hn0 | exact Blk.drew hn0) hb2 (by simp <;> omega)
  have n0 : w2.cell? ⟨w.heap.size + 1, 0, none⟩ = some (.int .i64 0) := (hn.cell 0).trans rfl
  have n1 : w2.cell? ⟨w.heap.size + 1, 1, none⟩ = some (.int .i64 0) := (hn.cell 1).trans rfl
  have n2 : w2.cell? ⟨w.heap.size + 1, 2, none⟩ = some (.int .i64 0) := (hn.cell 2).trans rfl
  have n3 : w2.cell? ⟨w.heap.size + 1, 3, none⟩ = some (.int .i64 0) := (hn.cell 3).trans rfl
  have f0 : w2.frozen? ⟨w.heap.size + 1, 0, none⟩ = false := hn.frozen 0
  have f1 : w2.frozen? ⟨w.heap.size + 1, 1, none⟩ = false := hn.frozen 1
  have f2 : w2.frozen? ⟨w.heap.size + 1, 2, none⟩ = false := hn.frozen 2
  have f3 : w2.frozen? ⟨w.heap.size + 1, 3, none⟩ = false := hn.frozen 3
  have hbel2 := hbel0.trans (hb2.mono (B' := w.heap.size) (by simp <;> omega))
  go_wp2
  refine bodyPost_ret (v := .agg #[.int .i64 6, .int .i64 0, .int .i64 (endW 0 2).value, .int .i64 2]) (by simp [results, Try.results47, go_sem, n0, n1, n2, n3]) rfl ?_
  exact ⟨_, _, _, _, HR.out, rfl, by repeat (first | with_reducible exact hbel2 | with_reducible refine Below.drew ?_ | with_reducible refine below_drewN ?_ _ | ((with_reducible refine Below.alloc ?_ ?_ _); (rotate_left; focus (first | with_reducible exact Nat.le_refl _ | omega | (simp; done) | (simp; omega) | (simp [World.setCell]; done) | (simp [World.setCell]; omega)))) | ((with_reducible refine Below.setCell ?_ ?_ _); (rotate_left; focus (first | with_reducible exact Nat.le_refl _ | omega | (simp; done) | (simp; omega) | (simp [World.setCell]; done) | (simp [World.setCell]; omega)))))⟩

theorem puts_full2 (base most : Int) (k v c : Int) (args' left' : List Int) (writes : Int) (A L : Option Addr) (n nc ln lc : Nat) (w : World) (b0 : 0 ≤ base) (b1 : base ≤ 1024) (m0 : 0 ≤ most) (m1 : most ≤ 16) (hln : ln ≤ 17592186044416)
    (hA : Reads w w.heap.size 1 A n (ints (k :: v :: args'))) (hL : Reads w w.heap.size 1 L ln (ints (c :: left'))) (fd fr ce : Int) (rd : Nat) (q1 : -1 ≤ fd) (q2 : fd < most) (q3 : -1 ≤ fr) (q4 : fr < most) (hf : fd < 0) (hc : ¬ most ≤ c) (hfr : fr < 0) :
    Calls Try.prog 47 #[.int .i64 base, .int .i64 most, .slice A n nc, .agg #[.int .i64 fd, .int .i64 fr, .int .i64 rd, .bool true, .int .i64 ce], .slice L ln lc, .int .i64 writes] w (RPost (putsF base most (k :: v :: args') ⟨fd, fr, rd, true, ce⟩ (c :: left') writes) w) := by
  have HR : Hid (putsF base most (k :: v :: args') ⟨fd, fr, rd, true, ce⟩ (c :: left') writes = ⟨6, 0, (endW 0 2).value, 2⟩) := by
    show putsF base most (k :: v :: args') ⟨fd, fr, rd, true, ce⟩ (c :: left') writes = _
    simp [putsF, show ¬ 0 ≤ fd by omega, hfr, endW]
  have ef : decide (0 ≤ fd) = false := by simp; omega
  have hn0 : Blk ((w.alloc (.cells #[.int .i64 fd, .int .i64 fr, .int .i64 rd, .bool true, .int .i64 ce] 78)).alloc (.cells #[.int .i64 0, .int .i64 0, .int .i64 0, .int .i64 0] 37)) (w.heap.size + 1) 37 #[.int .i64 0, .int .i64 0, .int .i64 0, .int .i64 0] := Blk.new' (by simp)
  have hbel0 : Below w.heap.size w ((w.alloc (.cells #[.int .i64 fd, .int .i64 fr, .int .i64 rd, .bool true, .int .i64 ce] 78)).alloc (.cells #[.int .i64 0, .int .i64 0, .int .i64 0, .int .i64 0] 37)) := by repeat (first | with_reducible exact Below.refl _ _ | with_reducible refine Below.drew ?_ | with_reducible refine below_drewN ?_ _ | ((with_reducible refine Below.alloc ?_ ?_ _); (rotate_left; focus (first | with_reducible exact Nat.le_refl _ | omega | (simp; done) | (simp; omega) | (simp [World.setCell]; done) | (simp [World.setCell]; omega)))) | ((with_reducible refine Below.setCell ?_ ?_ _); (rotate_left; focus (first | with_reducible exact Nat.le_refl _ | omega | (simp; done) | (simp; omega) | (simp [World.setCell]; done) | (simp [World.setCell]; omega)))))
  have hnp : 1 < n := by have := hA.1; simp [ints] at this; omega
  obtain ⟨ab, ao, rfl, hab, hac⟩ := hA.flat (by omega)
  have da0 : w.cell? ⟨ab, ao, none⟩ = some (.int .i64 k) := hac 0 _ rfl
  have da1 : w.cell? ⟨ab, ao + 1, none⟩ = some (.int .i64 v) := hac 1 _ rfl
  clear hac
  have hlp : 0 < ln := by have := hL.1; simp [ints] at this; omega
  have hez : ((ln : Int) == 0) = false := by simp; omega
  obtain ⟨lb, lo, rfl, hlb, hlc⟩ := hL.flat hlp
  have dl : w.cell? ⟨lb, lo, none⟩ = some (.int .i64 c) := hlc 0 _ rfl
  clear hlc
  go_enter Try.func47, Try.ntmps47
  go_wp2_with fail
  refine (rEnd_any 0 2 _).mono ?_
  rintro e w2 ⟨rfl, hb2⟩
  have hn := Blk.below (by first | exact hn0 | exact Blk.drew hn0) hb2 (by simp <;> omega)
  have n0 : w2.cell? ⟨w.heap.size + 1, 0, none⟩ = some (.int .i64 0) := (hn.cell 0).trans rfl
  have n1 : w2.cell? ⟨w.heap.size + 1, 1, none⟩ = some (.int .i64 0) := (hn.cell 1).trans rfl
  have n2 : w2.cell? ⟨w.heap.size + 1, 2, none⟩ = some (.int .i64 0) := (hn.cell 2).trans rfl
  have n3 : w2.cell? ⟨w.heap.size + 1, 3, none⟩ = some (.int .i64 0) := (hn.cell 3).trans rfl
  have f0 : w2.frozen? ⟨w.heap.size + 1, 0, none⟩ = false := hn.frozen 0
  have f1 : w2.frozen? ⟨w.heap.size + 1, 1, none⟩ = false := hn.frozen 1
  have f2 : w2.frozen? ⟨w.heap.size + 1, 2, none⟩ = false := hn.frozen 2
  have f3 : w2.frozen? ⟨w.heap.size + 1, 3, none⟩ = false := hn.frozen 3
  have hbel2 := hbel0.trans (hb2.mono (B' := w.heap.size) (by simp <;> omega))
  go_wp2
  refine bodyPost_ret (v := .agg #[.int .i64 6, .int .i64 0, .int .i64 (endW 0 2).value, .int .i64 2]) (by simp [results, Try.results47, go_sem, n0, n1, n2, n3]) rfl ?_
  exact ⟨_, _, _, _, HR.out, rfl, by repeat (first | with_reducible exact hbel2 | with_reducible refine Below.drew ?_ | with_reducible refine below_drewN ?_ _ | ((with_reducible refine Below.alloc ?_ ?_ _); (rotate_left; focus (first | with_reducible exact Nat.le_refl _ | omega | (simp; done) | (simp; omega) | (simp [World.setCell]; done) | (simp [World.setCell]; omega)))) | ((with_reducible refine Below.setCell ?_ ?_ _); (rotate_left; focus (first | with_reducible exact Nat.le_refl _ | omega | (simp; done) | (simp; omega) | (simp [World.setCell]; done) | (simp [World.setCell]; omega)))))⟩

theorem puts_w0 (base most : Int) (k v c : Int) (args' left' : List Int) (A L : Option Addr) (n nc ln lc : Nat) (w : World) (b0 : 0 ≤ base) (b1 : base ≤ 1024) (m0 : 0 ≤ most) (m1 : most ≤ 16) (hln : ln ≤ 17592186044416)
    (hA : Reads w w.heap.size 1 A n (ints (k :: v :: args'))) (hL : Reads w w.heap.size 1 L ln (ints (c :: left'))) (fd fr ce : Int) (rd : Nat) (q1 : -1 ≤ fd) (q2 : fd < most) (q3 : -1 ≤ fr) (q4 : fr < most) (hf : fd < 0) (hc : ¬ most ≤ c) (hfr : 0 ≤ fr) :
    Calls Try.prog 47 #[.int .i64 base, .int .i64 most, .slice A n nc, .agg #[.int .i64 fd, .int .i64 fr, .int .i64 rd, .bool true, .int .i64 ce], .slice L ln lc, .int .i64 0] w (RPost (putsF base most (k :: v :: args') ⟨fd, fr, rd, true, ce⟩ (c :: left') 0) w) := by
  have HR : Hid (putsF base most (k :: v :: args') ⟨fd, fr, rd, true, ce⟩ (c :: left') 0 = ⟨3, base + 1 + 3 * fr, 1, 0⟩) := by
    show putsF base most (k :: v :: args') ⟨fd, fr, rd, true, ce⟩ (c :: left') 0 = _
    simp [putsF, show ¬ 0 ≤ fd by omega, hc, show ¬ fr < 0 by omega, a0, a1]
  have ef : decide (0 ≤ fd) = false := by simp; omega
  have efr : decide (fr < 0) = false := by simp; omega
  have hn0 : Blk ((w.alloc (.cells #[.int .i64 fd, .int .i64 fr, .int .i64 rd, .bool true, .int .i64 ce] 78)).alloc (.cells #[.int .i64 0, .int .i64 0, .int .i64 0, .int .i64 0] 37)) (w.heap.size + 1) 37 #[.int .i64 0, .int .i64 0, .int .i64 0, .int .i64 0] := Blk.new' (by simp)
  have hbel0 : Below w.heap.size w ((w.alloc (.cells #[.int .i64 fd, .int .i64 fr, .int .i64 rd, .bool true, .int .i64 ce] 78)).alloc (.cells #[.int .i64 0, .int .i64 0, .int .i64 0, .int .i64 0] 37)) := by repeat (first | with_reducible exact Below.refl _ _ | with_reducible refine Below.drew ?_ | with_reducible refine below_drewN ?_ _ | ((with_reducible refine Below.alloc ?_ ?_ _); (rotate_left; focus (first | with_reducible exact Nat.le_refl _ | omega | (simp; done) | (simp; omega) | (simp [World.setCell]; done) | (simp [World.setCell]; omega)))) | ((with_reducible refine Below.setCell ?_ ?_ _); (rotate_left; focus (first | with_reducible exact Nat.le_refl _ | omega | (simp; done) | (simp; omega) | (simp [World.setCell]; done) | (simp [World.setCell]; omega)))))
  have hnp : 1 < n := by have := hA.1; simp [ints] at this; omega
  obtain ⟨ab, ao, rfl, hab, hac⟩ := hA.flat (by omega)
  have da0 : w.cell? ⟨ab, ao, none⟩ = some (.int .i64 k) := hac 0 _ rfl
  have da1 : w.cell? ⟨ab, ao + 1, none⟩ = some (.int .i64 v) := hac 1 _ rfl
  clear hac
  have hlp : 0 < ln := by have := hL.1; simp [ints] at this; omega
  have hez : ((ln : Int) == 0) = false := by simp; omega
  obtain ⟨lb, lo, rfl, hlb, hlc⟩ := hL.flat hlp
  have dl : w.cell? ⟨lb, lo, none⟩ = some (.int .i64 c) := hlc 0 _ rfl
  clear hlc
  go_enter Try.func47, Try.ntmps47
  go_wp2_with fail
  refine (rPut_any (base + 1 + 3 * fr) (1) _).mono ?_
  rintro e w2 ⟨rfl, hb2⟩
  have hn := Blk.below (by first | exact hn0 | exact Blk.drew hn0) hb2 (by simp <;> omega)
  have n0 : w2.cell? ⟨w.heap.size + 1, 0, none⟩ = some (.int .i64 0) := (hn.cell 0).trans rfl
  have n1 : w2.cell? ⟨w.heap.size + 1, 1, none⟩ = some (.int .i64 0) := (hn.cell 1).trans rfl
  have n2 : w2.cell? ⟨w.heap.size + 1, 2, none⟩ = some (.int .i64 0) := (hn.cell 2).trans rfl
  have n3 : w2.cell? ⟨w.heap.size + 1, 3, none⟩ = some (.int .i64 0) := (hn.cell 3).trans rfl
  have f0 : w2.frozen? ⟨w.heap.size + 1, 0, none⟩ = false := hn.frozen 0
  have f1 : w2.frozen? ⟨w.heap.size + 1, 1, none⟩ = false := hn.frozen 1
  have f2 : w2.frozen? ⟨w.heap.size + 1, 2, none⟩ = false := hn.frozen 2
  have f3 : w2.frozen? ⟨w.heap.size + 1, 3, none⟩ = false := hn.frozen 3
  have hbel2 := hbel0.trans (hb2.mono (B' := w.heap.size) (by simp <;> omega))
  go_wp2
  refine bodyPost_ret (v := .agg #[.int .i64 3, .int .i64 (base + 1 + 3 * fr), .int .i64 (1), .int .i64 0]) (by simp [results, Try.results47, go_sem, n0, n1, n2, n3]) rfl ?_
  exact ⟨_, _, _, _, HR.out, rfl, by repeat (first | with_reducible exact hbel2 | with_reducible refine Below.drew ?_ | with_reducible refine below_drewN ?_ _ | ((with_reducible refine Below.alloc ?_ ?_ _); (rotate_left; focus (first | with_reducible exact Nat.le_refl _ | omega | (simp; done) | (simp; omega) | (simp [World.setCell]; done) | (simp [World.setCell]; omega)))) | ((with_reducible refine Below.setCell ?_ ?_ _); (rotate_left; focus (first | with_reducible exact Nat.le_refl _ | omega | (simp; done) | (simp; omega) | (simp [World.setCell]; done) | (simp [World.setCell]; omega)))))⟩

theorem puts_w1 (base most : Int) (k v c : Int) (args' left' : List Int) (A L : Option Addr) (n nc ln lc : Nat) (w : World) (b0 : 0 ≤ base) (b1 : base ≤ 1024) (m0 : 0 ≤ most) (m1 : most ≤ 16) (hln : ln ≤ 17592186044416)
    (hA : Reads w w.heap.size 1 A n (ints (k :: v :: args'))) (hL : Reads w w.heap.size 1 L ln (ints (c :: left'))) (fd fr ce : Int) (rd : Nat) (q1 : -1 ≤ fd) (q2 : fd < most) (q3 : -1 ≤ fr) (q4 : fr < most) (hf : fd < 0) (hc : ¬ most ≤ c) (hfr : 0 ≤ fr) :
    Calls Try.prog 47 #[.int .i64 base, .int .i64 most, .slice A n nc, .agg #[.int .i64 fd, .int .i64 fr, .int .i64 rd, .bool true, .int .i64 ce], .slice L ln lc, .int .i64 1] w (RPost (putsF base most (k :: v :: args') ⟨fd, fr, rd, true, ce⟩ (c :: left') 1) w) := by
  have HR : Hid (putsF base most (k :: v :: args') ⟨fd, fr, rd, true, ce⟩ (c :: left') 1 = ⟨3, base + 1 + 3 * fr + 1, k, 0⟩) := by
    show putsF base most (k :: v :: args') ⟨fd, fr, rd, true, ce⟩ (c :: left') 1 = _
    simp [putsF, show ¬ 0 ≤ fd by omega, hc, show ¬ fr < 0 by omega, a0, a1]
  have ef : decide (0 ≤ fd) = false := by simp; omega
  have efr : decide (fr < 0) = false := by simp; omega
  have hn0 : Blk ((w.alloc (.cells #[.int .i64 fd, .int .i64 fr, .int .i64 rd, .bool true, .int .i64 ce] 78)).alloc (.cells #[.int .i64 0, .int .i64 0, .int .i64 0, .int .i64 0] 37)) (w.heap.size + 1) 37 #[.int .i64 0, .int .i64 0, .int .i64 0, .int .i64 0] := Blk.new' (by simp)
  have hbel0 : Below w.heap.size w ((w.alloc (.cells #[.int .i64 fd, .int .i64 fr, .int .i64 rd, .bool true, .int .i64 ce] 78)).alloc (.cells #[.int .i64 0, .int .i64 0, .int .i64 0, .int .i64 0] 37)) := by repeat (first | with_reducible exact Below.refl _ _ | with_reducible refine Below.drew ?_ | with_reducible refine below_drewN ?_ _ | ((with_reducible refine Below.alloc ?_ ?_ _); (rotate_left; focus (first | with_reducible exact Nat.le_refl _ | omega | (simp; done) | (simp; omega) | (simp [World.setCell]; done) | (simp [World.setCell]; omega)))) | ((with_reducible refine Below.setCell ?_ ?_ _); (rotate_left; focus (first | with_reducible exact Nat.le_refl _ | omega | (simp; done) | (simp; omega) | (simp [World.setCell]; done) | (simp [World.setCell]; omega)))))
  have hnp : 1 < n := by have := hA.1; simp [ints] at this; omega
  obtain ⟨ab, ao, rfl, hab, hac⟩ := hA.flat (by omega)
  have da0 : w.cell? ⟨ab, ao, none⟩ = some (.int .i64 k) := hac 0 _ rfl
  have da1 : w.cell? ⟨ab, ao + 1, none⟩ = some (.int .i64 v) := hac 1 _ rfl
  clear hac
  have hlp : 0 < ln := by have := hL.1; simp [ints] at this; omega
  have hez : ((ln : Int) == 0) = false := by simp; omega
  obtain ⟨lb, lo, rfl, hlb, hlc⟩ := hL.flat hlp
  have dl : w.cell? ⟨lb, lo, none⟩ = some (.int .i64 c) := hlc 0 _ rfl
  clear hlc
  go_enter Try.func47, Try.ntmps47
  go_wp2_with fail
  refine (rPut_any (base + 1 + 3 * fr + 1) (k) _).mono ?_
  rintro e w2 ⟨rfl, hb2⟩
  have hn := Blk.below (by first | exact hn0 | exact Blk.drew hn0) hb2 (by simp <;> omega)
  have n0 : w2.cell? ⟨w.heap.size + 1, 0, none⟩ = some (.int .i64 0) := (hn.cell 0).trans rfl
  have n1 : w2.cell? ⟨w.heap.size + 1, 1, none⟩ = some (.int .i64 0) := (hn.cell 1).trans rfl
  have n2 : w2.cell? ⟨w.heap.size + 1, 2, none⟩ = some (.int .i64 0) := (hn.cell 2).trans rfl
  have n3 : w2.cell? ⟨w.heap.size + 1, 3, none⟩ = some (.int .i64 0) := (hn.cell 3).trans rfl
  have f0 : w2.frozen? ⟨w.heap.size + 1, 0, none⟩ = false := hn.frozen 0
  have f1 : w2.frozen? ⟨w.heap.size + 1, 1, none⟩ = false := hn.frozen 1
  have f2 : w2.frozen? ⟨w.heap.size + 1, 2, none⟩ = false := hn.frozen 2
  have f3 : w2.frozen? ⟨w.heap.size + 1, 3, none⟩ = false := hn.frozen 3
  have hbel2 := hbel0.trans (hb2.mono (B' := w.heap.size) (by simp <;> omega))
  go_wp2
  refine bodyPost_ret (v := .agg #[.int .i64 3, .int .i64 (base + 1 + 3 * fr + 1), .int .i64 (k), .int .i64 0]) (by simp [results, Try.results47, go_sem, n0, n1, n2, n3]) rfl ?_
  exact ⟨_, _, _, _, HR.out, rfl, by repeat (first | with_reducible exact hbel2 | with_reducible refine Below.drew ?_ | with_reducible refine below_drewN ?_ _ | ((with_reducible refine Below.alloc ?_ ?_ _); (rotate_left; focus (first | with_reducible exact Nat.le_refl _ | omega | (simp; done) | (simp; omega) | (simp [World.setCell]; done) | (simp [World.setCell]; omega)))) | ((with_reducible refine Below.setCell ?_ ?_ _); (rotate_left; focus (first | with_reducible exact Nat.le_refl _ | omega | (simp; done) | (simp; omega) | (simp [World.setCell]; done) | (simp [World.setCell]; omega)))))⟩

theorem puts_w2 (base most : Int) (k v c : Int) (args' left' : List Int) (A L : Option Addr) (n nc ln lc : Nat) (w : World) (b0 : 0 ≤ base) (b1 : base ≤ 1024) (m0 : 0 ≤ most) (m1 : most ≤ 16) (hln : ln ≤ 17592186044416)
    (hA : Reads w w.heap.size 1 A n (ints (k :: v :: args'))) (hL : Reads w w.heap.size 1 L ln (ints (c :: left'))) (fd fr ce : Int) (rd : Nat) (q1 : -1 ≤ fd) (q2 : fd < most) (q3 : -1 ≤ fr) (q4 : fr < most) (hf : fd < 0) (hc : ¬ most ≤ c) (hfr : 0 ≤ fr) :
    Calls Try.prog 47 #[.int .i64 base, .int .i64 most, .slice A n nc, .agg #[.int .i64 fd, .int .i64 fr, .int .i64 rd, .bool true, .int .i64 ce], .slice L ln lc, .int .i64 2] w (RPost (putsF base most (k :: v :: args') ⟨fd, fr, rd, true, ce⟩ (c :: left') 2) w) := by
  have HR : Hid (putsF base most (k :: v :: args') ⟨fd, fr, rd, true, ce⟩ (c :: left') 2 = ⟨3, base + 1 + 3 * fr + 2, v, 0⟩) := by
    show putsF base most (k :: v :: args') ⟨fd, fr, rd, true, ce⟩ (c :: left') 2 = _
    simp [putsF, show ¬ 0 ≤ fd by omega, hc, show ¬ fr < 0 by omega, a0, a1]
  have ef : decide (0 ≤ fd) = false := by simp; omega
  have efr : decide (fr < 0) = false := by simp; omega
  have hn0 : Blk ((w.alloc (.cells #[.int .i64 fd, .int .i64 fr, .int .i64 rd, .bool true, .int .i64 ce] 78)).alloc (.cells #[.int .i64 0, .int .i64 0, .int .i64 0, .int .i64 0] 37)) (w.heap.size + 1) 37 #[.int .i64 0, .int .i64 0, .int .i64 0, .int .i64 0] := Blk.new' (by simp)
  have hbel0 : Below w.heap.size w ((w.alloc (.cells #[.int .i64 fd, .int .i64 fr, .int .i64 rd, .bool true, .int .i64 ce] 78)).alloc (.cells #[.int .i64 0, .int .i64 0, .int .i64 0, .int .i64 0] 37)) := by repeat (first | with_reducible exact Below.refl _ _ | with_reducible refine Below.drew ?_ | with_reducible refine below_drewN ?_ _ | ((with_reducible refine Below.alloc ?_ ?_ _); (rotate_left; focus (first | with_reducible exact Nat.le_refl _ | omega | (simp; done) | (simp; omega) | (simp [World.setCell]; done) | (simp [World.setCell]; omega)))) | ((with_reducible refine Below.setCell ?_ ?_ _); (rotate_left; focus (first | with_reducible exact Nat.le_refl _ | omega | (simp; done) | (simp; omega) | (simp [World.setCell]; done) | (simp [World.setCell]; omega)))))
  have hnp : 1 < n := by have := hA.1; simp [ints] at this; omega
  obtain ⟨ab, ao, rfl, hab, hac⟩ := hA.flat (by omega)
  have da0 : w.cell? ⟨ab, ao, none⟩ = some (.int .i64 k) := hac 0 _ rfl
  have da1 : w.cell? ⟨ab, ao + 1, none⟩ = some (.int .i64 v) := hac 1 _ rfl
  clear hac
  have hlp : 0 < ln := by have := hL.1; simp [ints] at this; omega
  have hez : ((ln : Int) == 0) = false := by simp; omega
  obtain ⟨lb, lo, rfl, hlb, hlc⟩ := hL.flat hlp
  have dl : w.cell? ⟨lb, lo, none⟩ = some (.int .i64 c) := hlc 0 _ rfl
  clear hlc
  go_enter Try.func47, Try.ntmps47
  go_wp2_with fail
  refine (rPut_any (base + 1 + 3 * fr + 2) (v) _).mono ?_
  rintro e w2 ⟨rfl, hb2⟩
  have hn := Blk.below (by first | exact hn0 | exact Blk.drew hn0) hb2 (by simp <;> omega)
  have n0 : w2.cell? ⟨w.heap.size + 1, 0, none⟩ = some (.int .i64 0) := (hn.cell 0).trans rfl
  have n1 : w2.cell? ⟨w.heap.size + 1, 1, none⟩ = some (.int .i64 0) := (hn.cell 1).trans rfl
  have n2 : w2.cell? ⟨w.heap.size + 1, 2, none⟩ = some (.int .i64 0) := (hn.cell 2).trans rfl
  have n3 : w2.cell? ⟨w.heap.size + 1, 3, none⟩ = some (.int .i64 0) := (hn.cell 3).trans rfl
  have f0 : w2.frozen? ⟨w.heap.size + 1, 0, none⟩ = false := hn.frozen 0
  have f1 : w2.frozen? ⟨w.heap.size + 1, 1, none⟩ = false := hn.frozen 1
  have f2 : w2.frozen? ⟨w.heap.size + 1, 2, none⟩ = false := hn.frozen 2
  have f3 : w2.frozen? ⟨w.heap.size + 1, 3, none⟩ = false := hn.frozen 3
  have hbel2 := hbel0.trans (hb2.mono (B' := w.heap.size) (by simp <;> omega))
  go_wp2
  refine bodyPost_ret (v := .agg #[.int .i64 3, .int .i64 (base + 1 + 3 * fr + 2), .int .i64 (v), .int .i64 0]) (by simp [results, Try.results47, go_sem, n0, n1, n2, n3]) rfl ?_
  exact ⟨_, _, _, _, HR.out, rfl, by repeat (first | with_reducible exact hbel2 | with_reducible refine Below.drew ?_ | with_reducible refine below_drewN ?_ _ | ((with_reducible refine Below.alloc ?_ ?_ _); (rotate_left; focus (first | with_reducible exact Nat.le_refl _ | omega | (simp; done) | (simp; omega) | (simp [World.setCell]; done) | (simp [World.setCell]; omega)))) | ((with_reducible refine Below.setCell ?_ ?_ _); (rotate_left; focus (first | with_reducible exact Nat.le_refl _ | omega | (simp; done) | (simp; omega) | (simp [World.setCell]; done) | (simp [World.setCell]; omega)))))⟩

theorem puts_w3 (base most : Int) (k v c : Int) (args' left' : List Int) (A L : Option Addr) (n nc ln lc : Nat) (w : World) (b0 : 0 ≤ base) (b1 : base ≤ 1024) (m0 : 0 ≤ most) (m1 : most ≤ 16) (hln : ln ≤ 17592186044416)
    (hA : Reads w w.heap.size 1 A n (ints (k :: v :: args'))) (hL : Reads w w.heap.size 1 L ln (ints (c :: left'))) (fd fr ce : Int) (rd : Nat) (q1 : -1 ≤ fd) (q2 : fd < most) (q3 : -1 ≤ fr) (q4 : fr < most) (hf : fd < 0) (hc : ¬ most ≤ c) (hfr : 0 ≤ fr) :
    Calls Try.prog 47 #[.int .i64 base, .int .i64 most, .slice A n nc, .agg #[.int .i64 fd, .int .i64 fr, .int .i64 rd, .bool true, .int .i64 ce], .slice L ln lc, .int .i64 3] w (RPost (putsF base most (k :: v :: args') ⟨fd, fr, rd, true, ce⟩ (c :: left') 3) w) := by
  have HR : Hid (putsF base most (k :: v :: args') ⟨fd, fr, rd, true, ce⟩ (c :: left') 3 = ⟨3, base, wrap64 (c + 1), 0⟩) := by
    show putsF base most (k :: v :: args') ⟨fd, fr, rd, true, ce⟩ (c :: left') 3 = _
    simp [putsF, show ¬ 0 ≤ fd by omega, hc, show ¬ fr < 0 by omega, a0, a1]
  have ef : decide (0 ≤ fd) = false := by simp; omega
  have efr : decide (fr < 0) = false := by simp; omega
  have hn0 : Blk ((w.alloc (.cells #[.int .i64 fd, .int .i64 fr, .int .i64 rd, .bool true, .int .i64 ce] 78)).alloc (.cells #[.int .i64 0, .int .i64 0, .int .i64 0, .int .i64 0] 37)) (w.heap.size + 1) 37 #[.int .i64 0, .int .i64 0, .int .i64 0, .int .i64 0] := Blk.new' (by simp)
  have hbel0 : Below w.heap.size w ((w.alloc (.cells #[.int .i64 fd, .int .i64 fr, .int .i64 rd, .bool true, .int .i64 ce] 78)).alloc (.cells #[.int .i64 0, .int .i64 0, .int .i64 0, .int .i64 0] 37)) := by repeat (first | with_reducible exact Below.refl _ _ | with_reducible refine Below.drew ?_ | with_reducible refine below_drewN ?_ _ | ((with_reducible refine Below.alloc ?_ ?_ _); (rotate_left; focus (first | with_reducible exact Nat.le_refl _ | omega | (simp; done) | (simp; omega) | (simp [World.setCell]; done) | (simp [World.setCell]; omega)))) | ((with_reducible refine Below.setCell ?_ ?_ _); (rotate_left; focus (first | with_reducible exact Nat.le_refl _ | omega | (simp; done) | (simp; omega) | (simp [World.setCell]; done) | (simp [World.setCell]; omega)))))
  have hnp : 1 < n := by have := hA.1; simp [ints] at this; omega
  obtain ⟨ab, ao, rfl, hab, hac⟩ := hA.flat (by omega)
  have da0 : w.cell? ⟨ab, ao, none⟩ = some (.int .i64 k) := hac 0 _ rfl
  have da1 : w.cell? ⟨ab, ao + 1, none⟩ = some (.int .i64 v) := hac 1 _ rfl
  clear hac
  have hlp : 0 < ln := by have := hL.1; simp [ints] at this; omega
  have hez : ((ln : Int) == 0) = false := by simp; omega
  obtain ⟨lb, lo, rfl, hlb, hlc⟩ := hL.flat hlp
  have dl : w.cell? ⟨lb, lo, none⟩ = some (.int .i64 c) := hlc 0 _ rfl
  clear hlc
  go_enter Try.func47, Try.ntmps47
  go_wp2_with fail
  refine (rPut_any (base) (wrap64 (c + 1)) _).mono ?_
  rintro e w2 ⟨rfl, hb2⟩
  have hn := Blk.below (by first | exact hn0 | exact Blk.drew hn0) hb2 (by simp <;> omega)
  have n0 : w2.cell? ⟨w.heap.size + 1, 0, none⟩ = some (.int .i64 0) := (hn.cell 0).trans rfl
  have n1 : w2.cell? ⟨w.heap.size + 1, 1, none⟩ = some (.int .i64 0) := (hn.cell 1).trans rfl
  have n2 : w2.cell? ⟨w.heap.size + 1, 2, none⟩ = some (.int .i64 0) := (hn.cell 2).trans rfl
  have n3 : w2.cell? ⟨w.heap.size + 1, 3, none⟩ = some (.int .i64 0) := (hn.cell 3).trans rfl
  have f0 : w2.frozen? ⟨w.heap.size + 1, 0, none⟩ = false := hn.frozen 0
  have f1 : w2.frozen? ⟨w.heap.size + 1, 1, none⟩ = false := hn.frozen 1
  have f2 : w2.frozen? ⟨w.heap.size + 1, 2, none⟩ = false := hn.frozen 2
  have f3 : w2.frozen? ⟨w.heap.size + 1, 3, none⟩ = false := hn.frozen 3
  have hbel2 := hbel0.trans (hb2.mono (B' := w.heap.size) (by simp <;> omega))
  go_wp2
  refine bodyPost_ret (v := .agg #[.int .i64 3, .int .i64 (base), .int .i64 (wrap64 (c + 1)), .int .i64 0]) (by simp [results, Try.results47, go_sem, n0, n1, n2, n3]) rfl ?_
  exact ⟨_, _, _, _, HR.out, rfl, by repeat (first | with_reducible exact hbel2 | with_reducible refine Below.drew ?_ | with_reducible refine below_drewN ?_ _ | ((with_reducible refine Below.alloc ?_ ?_ _); (rotate_left; focus (first | with_reducible exact Nat.le_refl _ | omega | (simp; done) | (simp; omega) | (simp [World.setCell]; done) | (simp [World.setCell]; omega)))) | ((with_reducible refine Below.setCell ?_ ?_ _); (rotate_left; focus (first | with_reducible exact Nat.le_refl _ | omega | (simp; done) | (simp; omega) | (simp [World.setCell]; done) | (simp [World.setCell]; omega)))))⟩

theorem puts_w4 (base most : Int) (k v c : Int) (args' left' : List Int) (writes : Int) (A L : Option Addr) (n nc ln lc : Nat) (w : World) (b0 : 0 ≤ base) (b1 : base ≤ 1024) (m0 : 0 ≤ most) (m1 : most ≤ 16) (hln : ln ≤ 17592186044416)
    (hA : Reads w w.heap.size 1 A n (ints (k :: v :: args'))) (hL : Reads w w.heap.size 1 L ln (ints (c :: left'))) (fd fr ce : Int) (rd : Nat) (q1 : -1 ≤ fd) (q2 : fd < most) (q3 : -1 ≤ fr) (q4 : fr < most) (hf : fd < 0) (hc : ¬ most ≤ c) (hfr : 0 ≤ fr) (h0 : writes ≠ 0) (h1 : writes ≠ 1) (h2 : writes ≠ 2) (h3 : writes ≠ 3) :
    Calls Try.prog 47 #[.int .i64 base, .int .i64 most, .slice A n nc, .agg #[.int .i64 fd, .int .i64 fr, .int .i64 rd, .bool true, .int .i64 ce], .slice L ln lc, .int .i64 writes] w (RPost (putsF base most (k :: v :: args') ⟨fd, fr, rd, true, ce⟩ (c :: left') writes) w) := by
  have HR : Hid (putsF base most (k :: v :: args') ⟨fd, fr, rd, true, ce⟩ (c :: left') writes = ⟨6, 0, (endW 0 0).value, 0⟩) := by
    show putsF base most (k :: v :: args') ⟨fd, fr, rd, true, ce⟩ (c :: left') writes = _
    simp [putsF, show ¬ 0 ≤ fd by omega, hc, show ¬ fr < 0 by omega, h0, h1, h2, h3, endW]
  have ef : decide (0 ≤ fd) = false := by simp; omega
  have efr : decide (fr < 0) = false := by simp; omega
  have ew0 : (writes == 0) = false := by simp [h0]
  have ew1 : (writes == 1) = false := by simp [h1]
  have ew2 : (writes == 2) = false := by simp [h2]
  have ew3 : (writes == 3) = false := by simp [h3]
  clear h0 h1 h2 h3
  have hn0 : Blk ((w.alloc (.cells #[.int .i64 fd, .int .i64 fr, .int .i64 rd, .bool true, .int .i64 ce] 78)).alloc (.cells #[.int .i64 0, .int .i64 0, .int .i64 0, .int .i64 0] 37)) (w.heap.size + 1) 37 #[.int .i64 0, .int .i64 0, .int .i64 0, .int .i64 0] := Blk.new' (by simp)
  have hbel0 : Below w.heap.size w ((w.alloc (.cells #[.int .i64 fd, .int .i64 fr, .int .i64 rd, .bool true, .int .i64 ce] 78)).alloc (.cells #[.int .i64 0, .int .i64 0, .int .i64 0, .int .i64 0] 37)) := by repeat (first | with_reducible exact Below.refl _ _ | with_reducible refine Below.drew ?_ | with_reducible refine below_drewN ?_ _ | ((with_reducible refine Below.alloc ?_ ?_ _); (rotate_left; focus (first | with_reducible exact Nat.le_refl _ | omega | (simp; done) | (simp; omega) | (simp [World.setCell]; done) | (simp [World.setCell]; omega)))) | ((with_reducible refine Below.setCell ?_ ?_ _); (rotate_left; focus (first | with_reducible exact Nat.le_refl _ | omega | (simp; done) | (simp; omega) | (simp [World.setCell]; done) | (simp [World.setCell]; omega)))))
  have hnp : 1 < n := by have := hA.1; simp [ints] at this; omega
  obtain ⟨ab, ao, rfl, hab, hac⟩ := hA.flat (by omega)
  have da0 : w.cell? ⟨ab, ao, none⟩ = some (.int .i64 k) := hac 0 _ rfl
  have da1 : w.cell? ⟨ab, ao + 1, none⟩ = some (.int .i64 v) := hac 1 _ rfl
  clear hac
  have hlp : 0 < ln := by have := hL.1; simp [ints] at this; omega
  have hez : ((ln : Int) == 0) = false := by simp; omega
  obtain ⟨lb, lo, rfl, hlb, hlc⟩ := hL.flat hlp
  have dl : w.cell? ⟨lb, lo, none⟩ = some (.int .i64 c) := hlc 0 _ rfl
  clear hlc
  go_enter Try.func47, Try.ntmps47
  go_wp2_with fail
  refine (rEnd_any 0 0 _).mono ?_
  rintro e w2 ⟨rfl, hb2⟩
  have hn := Blk.below (by first | exact hn0 | exact Blk.drew hn0) hb2 (by simp <;> omega)
  have n0 : w2.cell? ⟨w.heap.size + 1, 0, none⟩ = some (.int .i64 0) := (hn.cell 0).trans rfl
  have n1 : w2.cell? ⟨w.heap.size + 1, 1, none⟩ = some (.int .i64 0) := (hn.cell 1).trans rfl
  have n2 : w2.cell? ⟨w.heap.size + 1, 2, none⟩ = some (.int .i64 0) := (hn.cell 2).trans rfl
  have n3 : w2.cell? ⟨w.heap.size + 1, 3, none⟩ = some (.int .i64 0) := (hn.cell 3).trans rfl
  have f0 : w2.frozen? ⟨w.heap.size + 1, 0, none⟩ = false := hn.frozen 0
  have f1 : w2.frozen? ⟨w.heap.size + 1, 1, none⟩ = false := hn.frozen 1
  have f2 : w2.frozen? ⟨w.heap.size + 1, 2, none⟩ = false := hn.frozen 2
  have f3 : w2.frozen? ⟨w.heap.size + 1, 3, none⟩ = false := hn.frozen 3
  have hbel2 := hbel0.trans (hb2.mono (B' := w.heap.size) (by simp <;> omega))
  go_wp2
  refine bodyPost_ret (v := .agg #[.int .i64 6, .int .i64 0, .int .i64 (endW 0 0).value, .int .i64 0]) (by simp [results, Try.results47, go_sem, n0, n1, n2, n3]) rfl ?_
  exact ⟨_, _, _, _, HR.out, rfl, by repeat (first | with_reducible exact hbel2 | with_reducible refine Below.drew ?_ | with_reducible refine below_drewN ?_ _ | ((with_reducible refine Below.alloc ?_ ?_ _); (rotate_left; focus (first | with_reducible exact Nat.le_refl _ | omega | (simp; done) | (simp; omega) | (simp [World.setCell]; done) | (simp [World.setCell]; omega)))) | ((with_reducible refine Below.setCell ?_ ?_ _); (rotate_left; focus (first | with_reducible exact Nat.le_refl _ | omega | (simp; done) | (simp; omega) | (simp [World.setCell]; done) | (simp [World.setCell]; omega)))))⟩

end Go.Proofs.Ytjggcidaolnmbaa
