/- What the dict machine's inner functions do: goes, and what is done behind each read. -/
import Derived.Test.YtjggcidaolnmbaaDw2
import Derived.BigRegion
namespace Go.Proofs.Ytjggcidaolnmbaa
open Go.RowKit Go.Joins Go.ChangeShapes Go.WideShapes Go.Deep
set_option linter.unusedVariables false
set_option maxRecDepth 100000

theorem goes_any (b : Nat) (s : DS) (S : Nat → Prop) (w : World) (hok : s.Ok) (hne : s.seen < s.most) (hS : ∀ g, S g → g < w.heap.size)
    (h : MIs w b s S) :
    Calls Try.prog 70 #[.pointer (some ⟨b, 0, none⟩)] w (DPost b S w (goesF s)) := by
  obtain ⟨tv, nv, hB, hT, hN⟩ := h
  have c1 : w.cell? ⟨b, 1, none⟩ = some (.int .i64 s.most) := (hB.cell 1).trans rfl
  have c5 : w.cell? ⟨b, 5, none⟩ = some (.int .i64 s.slot) := (hB.cell 5).trans rfl
  have c6 : w.cell? ⟨b, 6, none⟩ = some (.int .i64 s.seen) := (hB.cell 6).trans rfl
  have f5 : w.frozen? ⟨b, 5, none⟩ = false := hB.frozen 5
  have f6 : w.frozen? ⟨b, 6, none⟩ = false := hB.frozen 6
  have hlt := hB.lt
  have hw : MIs w b s S := ⟨tv, nv, hB, hT, hN⟩
  have o1 := hok.s0
  have o2 := hok.s2
  have o3 := hok.e0
  have o4 := hok.m1
  have o5 : 1 ≤ s.most := by omega
  have hz : (s.most == 0) = false := by simp; omega
  go_enter Try.func70, Try.ntmps70
  go_wp2
  go_region
  go_wp2_with fail
  refine (looks_any b { s with seen := s.seen + 1, slot := (s.slot + 1) % s.most } S _ (by exact hok.goes hne) (by exact fun g hg => by have := hS g hg; simp [World.setCell]; omega)
    (by exact ⟨tv, nv, ((hB.set_ 6 _).set_ 5 _).alloc _, ((hT.set_ hB 6 _ (fun _ h => h)).set_ (hB.set_ 6 _) 5 _ (fun _ h => h)).alloc _ (fun _ h => h), ((hN.set_ hB 6 _ (fun _ h => h)).set_ (hB.set_ 6 _) 5 _ (fun _ h => h)).alloc _ (fun _ h => h)⟩)).mono ?_
  rintro e w1 ⟨x, s', hx, rfl, hM, hg⟩
  have hn : Blk w1 w.heap.size 37 #[.int .i64 0, .int .i64 0, .int .i64 0, .int .i64 0] := Blk.grown (by first | exact Blk.new' (by first | rfl | simp [World.setCell]) | exact Blk.drewN (Blk.new' (by first | rfl | simp [World.setCell])) _ | exact Blk.drew (Blk.new' (by first | rfl | simp [World.setCell]))) hg (by intro hh; injection hh with hh; omega)
  have n0 : w1.cell? ⟨w.heap.size, 0, none⟩ = some (.int .i64 0) := (hn.cell 0).trans rfl
  have n1 : w1.cell? ⟨w.heap.size, 1, none⟩ = some (.int .i64 0) := (hn.cell 1).trans rfl
  have n2 : w1.cell? ⟨w.heap.size, 2, none⟩ = some (.int .i64 0) := (hn.cell 2).trans rfl
  have n3 : w1.cell? ⟨w.heap.size, 3, none⟩ = some (.int .i64 0) := (hn.cell 3).trans rfl
  have f0 : w1.frozen? ⟨w.heap.size, 0, none⟩ = false := hn.frozen 0
  have f1 : w1.frozen? ⟨w.heap.size, 1, none⟩ = false := hn.frozen 1
  have f2 : w1.frozen? ⟨w.heap.size, 2, none⟩ = false := hn.frozen 2
  have f3 : w1.frozen? ⟨w.heap.size, 3, none⟩ = false := hn.frozen 3
  have HX := Lib.hid hx
  clear hx
  go_wp2
  refine bodyPost_ret (v := .agg #[.int .i64 x.kind, .int .i64 x.cell, .int .i64 x.value, .int .i64 x.code]) (by simp [results, Try.results70, go_sem, n0, n1, n2, n3]) rfl ?_
  exact DPost.tail (by first | (simp [World.setCell]; done) | (simp [World.setCell, World.drewN]; done)) (by repeat (first | exact World.grownBy.refl _ _ | refine only_alloc ?_ _ | refine only_drew ?_ | refine only_drewN ?_ _ | refine only_setCell ?_ (.inl rfl) _ | refine only_setCell ?_ (.inr (by simp [World.setCell] <;> omega)) _)) hS hlt hM hg (by rw [goesF]; exact HX.out)

/-! ### What is done behind each read -/
theorem len_any (b : Nat) (s : DS) (S : Nat → Prop) (x0 : Int) (w : World) (hS : ∀ g, S g → g < w.heap.size) (h : MIs w b s S) :
    Calls Try.prog 41 #[.pointer (some ⟨b, 0, none⟩), .int .i64 x0] w (DPost b S w (doneF s x0 0)) := by
  have hlt := h.lt
  go_enter Try.func41, Try.ntmps41
  go_wp2_with fail
  refine (done_any b s S x0 0 _ (h.alloc _)).mono ?_
  rintro e w1 ⟨x, s', hx, rfl, hM, hg⟩
  have hn : Blk w1 w.heap.size 37 #[.int .i64 0, .int .i64 0, .int .i64 0, .int .i64 0] := Blk.grown (by first | exact Blk.new' (by first | rfl | simp [World.setCell]) | exact Blk.drewN (Blk.new' (by first | rfl | simp [World.setCell])) _ | exact Blk.drew (Blk.new' (by first | rfl | simp [World.setCell]))) hg (by intro hh; injection hh with hh; omega)
  have n0 : w1.cell? ⟨w.heap.size, 0, none⟩ = some (.int .i64 0) := (hn.cell 0).trans rfl
  have n1 : w1.cell? ⟨w.heap.size, 1, none⟩ = some (.int .i64 0) := (hn.cell 1).trans rfl
  have n2 : w1.cell? ⟨w.heap.size, 2, none⟩ = some (.int .i64 0) := (hn.cell 2).trans rfl
  have n3 : w1.cell? ⟨w.heap.size, 3, none⟩ = some (.int .i64 0) := (hn.cell 3).trans rfl
  have f0 : w1.frozen? ⟨w.heap.size, 0, none⟩ = false := hn.frozen 0
  have f1 : w1.frozen? ⟨w.heap.size, 1, none⟩ = false := hn.frozen 1
  have f2 : w1.frozen? ⟨w.heap.size, 2, none⟩ = false := hn.frozen 2
  have f3 : w1.frozen? ⟨w.heap.size, 3, none⟩ = false := hn.frozen 3
  have HX := Lib.hid hx
  clear hx
  go_wp2
  refine bodyPost_ret (v := .agg #[.int .i64 x.kind, .int .i64 x.cell, .int .i64 x.value, .int .i64 x.code]) (by simp [results, Try.results41, go_sem, n0, n1, n2, n3]) rfl ?_
  exact DPost.tail (by first | (simp [World.setCell]; done) | (simp [World.setCell, World.drewN]; done)) (by repeat (first | exact World.grownBy.refl _ _ | refine only_alloc ?_ _ | refine only_drew ?_ | refine only_drewN ?_ _ | refine only_setCell ?_ (.inl rfl) _ | refine only_setCell ?_ (.inr (by simp [World.setCell] <;> omega)) _)) hS hlt hM hg (HX.out)
theorem got_any (b : Nat) (s : DS) (S : Nat → Prop) (x0 : Int) (w : World) (hS : ∀ g, S g → g < w.heap.size) (h : MIs w b s S) :
    Calls Try.prog 76 #[.pointer (some ⟨b, 0, none⟩), .int .i64 x0] w (DPost b S w (doneF s x0 0)) := by
  have hlt := h.lt
  go_enter Try.func76, Try.ntmps76
  go_wp2_with fail
  refine (done_any b s S x0 0 _ (h.alloc _)).mono ?_
  rintro e w1 ⟨x, s', hx, rfl, hM, hg⟩
  have hn : Blk w1 w.heap.size 37 #[.int .i64 0, .int .i64 0, .int .i64 0, .int .i64 0] := Blk.grown (by first | exact Blk.new' (by first | rfl | simp [World.setCell]) | exact Blk.drewN (Blk.new' (by first | rfl | simp [World.setCell])) _ | exact Blk.drew (Blk.new' (by first | rfl | simp [World.setCell]))) hg (by intro hh; injection hh with hh; omega)
  have n0 : w1.cell? ⟨w.heap.size, 0, none⟩ = some (.int .i64 0) := (hn.cell 0).trans rfl
  have n1 : w1.cell? ⟨w.heap.size, 1, none⟩ = some (.int .i64 0) := (hn.cell 1).trans rfl
  have n2 : w1.cell? ⟨w.heap.size, 2, none⟩ = some (.int .i64 0) := (hn.cell 2).trans rfl
  have n3 : w1.cell? ⟨w.heap.size, 3, none⟩ = some (.int .i64 0) := (hn.cell 3).trans rfl
  have f0 : w1.frozen? ⟨w.heap.size, 0, none⟩ = false := hn.frozen 0
  have f1 : w1.frozen? ⟨w.heap.size, 1, none⟩ = false := hn.frozen 1
  have f2 : w1.frozen? ⟨w.heap.size, 2, none⟩ = false := hn.frozen 2
  have f3 : w1.frozen? ⟨w.heap.size, 3, none⟩ = false := hn.frozen 3
  have HX := Lib.hid hx
  clear hx
  go_wp2
  refine bodyPost_ret (v := .agg #[.int .i64 x.kind, .int .i64 x.cell, .int .i64 x.value, .int .i64 x.code]) (by simp [results, Try.results76, go_sem, n0, n1, n2, n3]) rfl ?_
  exact DPost.tail (by first | (simp [World.setCell]; done) | (simp [World.setCell, World.drewN]; done)) (by repeat (first | exact World.grownBy.refl _ _ | refine only_alloc ?_ _ | refine only_drew ?_ | refine only_drewN ?_ _ | refine only_setCell ?_ (.inl rfl) _ | refine only_setCell ?_ (.inr (by simp [World.setCell] <;> omega)) _)) hS hlt hM hg (HX.out)
theorem fine_any (b : Nat) (s : DS) (S : Nat → Prop) (x0 : Int) (w : World) (hS : ∀ g, S g → g < w.heap.size) (h : MIs w b s S) :
    Calls Try.prog 67 #[.pointer (some ⟨b, 0, none⟩), .int .i64 x0] w (DPost b S w (doneF s 0 0)) := by
  have hlt := h.lt
  go_enter Try.func67, Try.ntmps67
  go_wp2_with fail
  refine (done_any b s S 0 0 _ (h.alloc _)).mono ?_
  rintro e w1 ⟨x, s', hx, rfl, hM, hg⟩
  have hn : Blk w1 w.heap.size 37 #[.int .i64 0, .int .i64 0, .int .i64 0, .int .i64 0] := Blk.grown (by first | exact Blk.new' (by first | rfl | simp [World.setCell]) | exact Blk.drewN (Blk.new' (by first | rfl | simp [World.setCell])) _ | exact Blk.drew (Blk.new' (by first | rfl | simp [World.setCell]))) hg (by intro hh; injection hh with hh; omega)
  have n0 : w1.cell? ⟨w.heap.size, 0, none⟩ = some (.int .i64 0) := (hn.cell 0).trans rfl
  have n1 : w1.cell? ⟨w.heap.size, 1, none⟩ = some (.int .i64 0) := (hn.cell 1).trans rfl
  have n2 : w1.cell? ⟨w.heap.size, 2, none⟩ = some (.int .i64 0) := (hn.cell 2).trans rfl
  have n3 : w1.cell? ⟨w.heap.size, 3, none⟩ = some (.int .i64 0) := (hn.cell 3).trans rfl
  have f0 : w1.frozen? ⟨w.heap.size, 0, none⟩ = false := hn.frozen 0
  have f1 : w1.frozen? ⟨w.heap.size, 1, none⟩ = false := hn.frozen 1
  have f2 : w1.frozen? ⟨w.heap.size, 2, none⟩ = false := hn.frozen 2
  have f3 : w1.frozen? ⟨w.heap.size, 3, none⟩ = false := hn.frozen 3
  have HX := Lib.hid hx
  clear hx
  go_wp2
  refine bodyPost_ret (v := .agg #[.int .i64 x.kind, .int .i64 x.cell, .int .i64 x.value, .int .i64 x.code]) (by simp [results, Try.results67, go_sem, n0, n1, n2, n3]) rfl ?_
  exact DPost.tail (by first | (simp [World.setCell]; done) | (simp [World.setCell, World.drewN]; done)) (by repeat (first | exact World.grownBy.refl _ _ | refine only_alloc ?_ _ | refine only_drew ?_ | refine only_drewN ?_ _ | refine only_setCell ?_ (.inl rfl) _ | refine only_setCell ?_ (.inr (by simp [World.setCell] <;> omega)) _)) hS hlt hM hg (HX.out)
theorem counts_any (b : Nat) (s : DS) (S : Nat → Prop) (x0 : Int) (w : World) (hS : ∀ g, S g → g < w.heap.size) (h : MIs w b s S) :
    Calls Try.prog 77 #[.pointer (some ⟨b, 0, none⟩), .int .i64 x0] w (DPost b S w (readF s 0 .countsK)) := by
  have hlt := h.lt
  go_enter Try.func77, Try.ntmps77
  go_wp2_with fail
  refine (read_any b s S 0 _ .countsK _ (h.alloc _) (fun _ _ => rfl)).mono ?_
  rintro e w1 ⟨x, s', hx, rfl, hM, hg⟩
  have hn : Blk w1 w.heap.size 37 #[.int .i64 0, .int .i64 0, .int .i64 0, .int .i64 0] := Blk.grown (by first | exact Blk.new' (by first | rfl | simp [World.setCell]) | exact Blk.drewN (Blk.new' (by first | rfl | simp [World.setCell])) _ | exact Blk.drew (Blk.new' (by first | rfl | simp [World.setCell]))) hg (by intro hh; injection hh with hh; omega)
  have n0 : w1.cell? ⟨w.heap.size, 0, none⟩ = some (.int .i64 0) := (hn.cell 0).trans rfl
  have n1 : w1.cell? ⟨w.heap.size, 1, none⟩ = some (.int .i64 0) := (hn.cell 1).trans rfl
  have n2 : w1.cell? ⟨w.heap.size, 2, none⟩ = some (.int .i64 0) := (hn.cell 2).trans rfl
  have n3 : w1.cell? ⟨w.heap.size, 3, none⟩ = some (.int .i64 0) := (hn.cell 3).trans rfl
  have f0 : w1.frozen? ⟨w.heap.size, 0, none⟩ = false := hn.frozen 0
  have f1 : w1.frozen? ⟨w.heap.size, 1, none⟩ = false := hn.frozen 1
  have f2 : w1.frozen? ⟨w.heap.size, 2, none⟩ = false := hn.frozen 2
  have f3 : w1.frozen? ⟨w.heap.size, 3, none⟩ = false := hn.frozen 3
  have HX := Lib.hid hx
  clear hx
  go_wp2
  refine bodyPost_ret (v := .agg #[.int .i64 x.kind, .int .i64 x.cell, .int .i64 x.value, .int .i64 x.code]) (by simp [results, Try.results77, go_sem, n0, n1, n2, n3]) rfl ?_
  exact DPost.tail (by first | (simp [World.setCell]; done) | (simp [World.setCell, World.drewN]; done)) (by repeat (first | exact World.grownBy.refl _ _ | refine only_alloc ?_ _ | refine only_drew ?_ | refine only_drewN ?_ _ | refine only_setCell ?_ (.inl rfl) _ | refine only_setCell ?_ (.inr (by simp [World.setCell] <;> omega)) _)) hS hlt hM hg (HX.out)
theorem begin_any (b : Nat) (s : DS) (S : Nat → Prop) (x0 : Int) (w : World) (hok : s.Ok) (hS : ∀ g, S g → g < w.heap.size) (h : MIs w b s S) :
    Calls Try.prog 30 #[.pointer (some ⟨b, 0, none⟩), .int .i64 x0] w (DPost b S w (beginF s)) := by
  obtain ⟨tv, nv, hB, hT, hN⟩ := h
  have c2 : w.cell? ⟨b, 2, none⟩ = some (.int .i64 s.call) := (hB.cell 2).trans rfl
  have hlt := hB.lt
  have hw : MIs w b s S := ⟨tv, nv, hB, hT, hN⟩
  by_cases hc : s.call = 5
  · have hc' : (s.call == 5) = true := by simp [hc]
    have HC := Lib.hid hc
    clear hc
    go_enter Try.func30, Try.ntmps30
    go_wp2_with fail
    refine (read_any b s S 0 _ .len _ (hw.alloc _) (fun _ _ => rfl)).mono ?_
    rintro e w1 ⟨x, s', hx, rfl, hM, hg⟩
    have hn : Blk w1 w.heap.size 37 #[.int .i64 0, .int .i64 0, .int .i64 0, .int .i64 0] := Blk.grown (by first | exact Blk.new' (by first | rfl | simp [World.setCell]) | exact Blk.drewN (Blk.new' (by first | rfl | simp [World.setCell])) _ | exact Blk.drew (Blk.new' (by first | rfl | simp [World.setCell]))) hg (by intro hh; injection hh with hh; omega)
    have n0 : w1.cell? ⟨w.heap.size, 0, none⟩ = some (.int .i64 0) := (hn.cell 0).trans rfl
    have n1 : w1.cell? ⟨w.heap.size, 1, none⟩ = some (.int .i64 0) := (hn.cell 1).trans rfl
    have n2 : w1.cell? ⟨w.heap.size, 2, none⟩ = some (.int .i64 0) := (hn.cell 2).trans rfl
    have n3 : w1.cell? ⟨w.heap.size, 3, none⟩ = some (.int .i64 0) := (hn.cell 3).trans rfl
    have f0 : w1.frozen? ⟨w.heap.size, 0, none⟩ = false := hn.frozen 0
    have f1 : w1.frozen? ⟨w.heap.size, 1, none⟩ = false := hn.frozen 1
    have f2 : w1.frozen? ⟨w.heap.size, 2, none⟩ = false := hn.frozen 2
    have f3 : w1.frozen? ⟨w.heap.size, 3, none⟩ = false := hn.frozen 3
    have HX := Lib.hid hx
    clear hx
    go_wp2
    refine bodyPost_ret (v := .agg #[.int .i64 x.kind, .int .i64 x.cell, .int .i64 x.value, .int .i64 x.code]) (by simp [results, Try.results30, go_sem, n0, n1, n2, n3]) rfl ?_
    exact DPost.tail (by first | (simp [World.setCell]; done) | (simp [World.setCell, World.drewN]; done)) (by repeat (first | exact World.grownBy.refl _ _ | refine only_alloc ?_ _ | refine only_drew ?_ | refine only_drewN ?_ _ | refine only_setCell ?_ (.inl rfl) _ | refine only_setCell ?_ (.inr (by simp [World.setCell] <;> omega)) _)) hS hlt hM hg (by rw [beginF, if_pos HC.out]; exact HX.out)
  · have hc' : (s.call == 5) = false := by simp [hc]
    have HC := Lib.hid hc
    clear hc
    go_enter Try.func30, Try.ntmps30
    go_wp2_with fail
    refine (looks_any b s S _ hok (fun g hg => by have := hS g hg; simp; omega) (hw.alloc _)).mono ?_
    rintro e w1 ⟨x, s', hx, rfl, hM, hg⟩
    have hn : Blk w1 w.heap.size 37 #[.int .i64 0, .int .i64 0, .int .i64 0, .int .i64 0] := Blk.grown (by first | exact Blk.new' (by first | rfl | simp [World.setCell]) | exact Blk.drewN (Blk.new' (by first | rfl | simp [World.setCell])) _ | exact Blk.drew (Blk.new' (by first | rfl | simp [World.setCell]))) hg (by intro hh; injection hh with hh; omega)
    have n0 : w1.cell? ⟨w.heap.size, 0, none⟩ = some (.int .i64 0) := (hn.cell 0).trans rfl
    have n1 : w1.cell? ⟨w.heap.size, 1, none⟩ = some (.int .i64 0) := (hn.cell 1).trans rfl
    have n2 : w1.cell? ⟨w.heap.size, 2, none⟩ = some (.int .i64 0) := (hn.cell 2).trans rfl
    have n3 : w1.cell? ⟨w.heap.size, 3, none⟩ = some (.int .i64 0) := (hn.cell 3).trans rfl
    have f0 : w1.frozen? ⟨w.heap.size, 0, none⟩ = false := hn.frozen 0
    have f1 : w1.frozen? ⟨w.heap.size, 1, none⟩ = false := hn.frozen 1
    have f2 : w1.frozen? ⟨w.heap.size, 2, none⟩ = false := hn.frozen 2
    have f3 : w1.frozen? ⟨w.heap.size, 3, none⟩ = false := hn.frozen 3
    have HX := Lib.hid hx
    clear hx
    go_wp2
    refine bodyPost_ret (v := .agg #[.int .i64 x.kind, .int .i64 x.cell, .int .i64 x.value, .int .i64 x.code]) (by simp [results, Try.results30, go_sem, n0, n1, n2, n3]) rfl ?_
    exact DPost.tail (by first | (simp [World.setCell]; done) | (simp [World.setCell, World.drewN]; done)) (by repeat (first | exact World.grownBy.refl _ _ | refine only_alloc ?_ _ | refine only_drew ?_ | refine only_drewN ?_ _ | refine only_setCell ?_ (.inl rfl) _ | refine only_setCell ?_ (.inr (by simp [World.setCell] <;> omega)) _)) hS hlt hM hg (by rw [beginF, if_neg HC.out]; exact HX.out)
theorem state_any (b : Nat) (s : DS) (S : Nat → Prop) (x0 : Int) (w : World) (hok : s.Ok) (hne : s.seen < s.most) (hS : ∀ g, S g → g < w.heap.size) (h : MIs w b s S) :
    Calls Try.prog 55 #[.pointer (some ⟨b, 0, none⟩), .int .i64 x0] w (DPost b S w (stateF s x0)) := by
  obtain ⟨tv, nv, hB, hT, hN⟩ := h
  have c5 : w.cell? ⟨b, 5, none⟩ = some (.int .i64 s.slot) := (hB.cell 5).trans rfl
  have c7 : w.cell? ⟨b, 7, none⟩ = some (.int .i64 s.free) := (hB.cell 7).trans rfl
  have f7 : w.frozen? ⟨b, 7, none⟩ = false := hB.frozen 7
  have hlt := hB.lt
  have hw : MIs w b s S := ⟨tv, nv, hB, hT, hN⟩
  have o1 := hok.s0
  have o2 := hok.s2
  by_cases hx : x0 = 1
  · have e1 : (x0 != 1) = false := by simp [hx]
    have e2 : (x0 == 1) = true := by simp [hx]
    have HC := Lib.hid hx
    clear hx
    go_enter Try.func55, Try.ntmps55
    go_wp2_with fail
    refine (at_any s.slot _ (by omega) (by omega)).mono ?_
    rintro e w1 ⟨rfl, rfl⟩
    go_wp2_with fail
    refine (read_any b s S (1 + 3 * s.slot + 1) _ .key _ (hw.alloc _) (fun _ _ => rfl)).mono ?_
    rintro e w1 ⟨x, s', hx, rfl, hM, hg⟩
    have hn : Blk w1 w.heap.size 37 #[.int .i64 0, .int .i64 0, .int .i64 0, .int .i64 0] := Blk.grown (by first | exact Blk.new' (by first | rfl | simp [World.setCell]) | exact Blk.drewN (Blk.new' (by first | rfl | simp [World.setCell])) _ | exact Blk.drew (Blk.new' (by first | rfl | simp [World.setCell]))) hg (by intro hh; injection hh with hh; omega)
    have n0 : w1.cell? ⟨w.heap.size, 0, none⟩ = some (.int .i64 0) := (hn.cell 0).trans rfl
    have n1 : w1.cell? ⟨w.heap.size, 1, none⟩ = some (.int .i64 0) := (hn.cell 1).trans rfl
    have n2 : w1.cell? ⟨w.heap.size, 2, none⟩ = some (.int .i64 0) := (hn.cell 2).trans rfl
    have n3 : w1.cell? ⟨w.heap.size, 3, none⟩ = some (.int .i64 0) := (hn.cell 3).trans rfl
    have f0 : w1.frozen? ⟨w.heap.size, 0, none⟩ = false := hn.frozen 0
    have f1 : w1.frozen? ⟨w.heap.size, 1, none⟩ = false := hn.frozen 1
    have f2 : w1.frozen? ⟨w.heap.size, 2, none⟩ = false := hn.frozen 2
    have f3 : w1.frozen? ⟨w.heap.size, 3, none⟩ = false := hn.frozen 3
    have HX := Lib.hid hx
    clear hx
    go_wp2
    refine bodyPost_ret (v := .agg #[.int .i64 x.kind, .int .i64 x.cell, .int .i64 x.value, .int .i64 x.code]) (by simp [results, Try.results55, go_sem, n0, n1, n2, n3]) rfl ?_
    exact DPost.tail (by first | (simp [World.setCell]; done) | (simp [World.setCell, World.drewN]; done)) (by repeat (first | exact World.grownBy.refl _ _ | refine only_alloc ?_ _ | refine only_drew ?_ | refine only_drewN ?_ _ | refine only_setCell ?_ (.inl rfl) _ | refine only_setCell ?_ (.inr (by simp [World.setCell] <;> omega)) _)) hS hlt hM hg (by rw [stateF, if_pos HC.out]; exact HX.out)
  · have e1 : (x0 != 1) = true := by simp [hx]
    have e2 : (x0 == 1) = false := by simp [hx]
    have HC := Lib.hid hx
    clear hx
    by_cases hz : x0 = 0
    · have e3 : (x0 == 0) = true := by simp [hz]
      have HZ := Lib.hid hz
      clear hz
      by_cases hf : s.free < 0
      · go_enter Try.func55, Try.ntmps55
        go_wp2_with fail
        refine (lost_any b { s with free := s.slot } S _ (by exact fun g hg => by have := hS g hg; simp [World.setCell]; omega)
          (by exact ⟨tv, nv, (hB.set_ 7 _).alloc _, (hT.set_ hB 7 _ (fun _ h => h)).alloc _ (fun _ h => h), (hN.set_ hB 7 _ (fun _ h => h)).alloc _ (fun _ h => h)⟩)).mono ?_
        rintro e w1 ⟨x, s', hx, rfl, hM, hg⟩
        have hn : Blk w1 w.heap.size 37 #[.int .i64 0, .int .i64 0, .int .i64 0, .int .i64 0] := Blk.grown (by first | exact Blk.new' (by first | rfl | simp [World.setCell]) | exact Blk.drewN (Blk.new' (by first | rfl | simp [World.setCell])) _ | exact Blk.drew (Blk.new' (by first | rfl | simp [World.setCell]))) hg (by intro hh; injection hh with hh; omega)
        have n0 : w1.cell? ⟨w.heap.size, 0, none⟩ = some (.int .i64 0) := (hn.cell 0).trans rfl
        have n1 : w1.cell? ⟨w.heap.size, 1, none⟩ = some (.int .i64 0) := (hn.cell 1).trans rfl
        have n2 : w1.cell? ⟨w.heap.size, 2, none⟩ = some (.int .i64 0) := (hn.cell 2).trans rfl
        have n3 : w1.cell? ⟨w.heap.size, 3, none⟩ = some (.int .i64 0) := (hn.cell 3).trans rfl
        have f0 : w1.frozen? ⟨w.heap.size, 0, none⟩ = false := hn.frozen 0
        have f1 : w1.frozen? ⟨w.heap.size, 1, none⟩ = false := hn.frozen 1
        have f2 : w1.frozen? ⟨w.heap.size, 2, none⟩ = false := hn.frozen 2
        have f3 : w1.frozen? ⟨w.heap.size, 3, none⟩ = false := hn.frozen 3
        have HX := Lib.hid hx
        clear hx
        go_wp2
        refine bodyPost_ret (v := .agg #[.int .i64 x.kind, .int .i64 x.cell, .int .i64 x.value, .int .i64 x.code]) (by simp [results, Try.results55, go_sem, n0, n1, n2, n3]) rfl ?_
        exact DPost.tail (by first | (simp [World.setCell]; done) | (simp [World.setCell, World.drewN]; done)) (by repeat (first | exact World.grownBy.refl _ _ | refine only_alloc ?_ _ | refine only_drew ?_ | refine only_drewN ?_ _ | refine only_setCell ?_ (.inl rfl) _ | refine only_setCell ?_ (.inr (by simp [World.setCell] <;> omega)) _)) hS hlt hM hg (by rw [stateF, if_neg HC.out, if_pos HZ.out, freed, if_pos ⟨HC.out, hf⟩]; exact HX.out)
      · have hf' : decide (s.free < 0) = false := by simpa using hf
        go_enter Try.func55, Try.ntmps55
        go_wp2_with fail
        refine (lost_any b s S _ (by exact fun g hg => by have := hS g hg; simp [World.setCell]; omega) (hw.alloc _)).mono ?_
        rintro e w1 ⟨x, s', hx, rfl, hM, hg⟩
        have hn : Blk w1 w.heap.size 37 #[.int .i64 0, .int .i64 0, .int .i64 0, .int .i64 0] := Blk.grown (by first | exact Blk.new' (by first | rfl | simp [World.setCell]) | exact Blk.drewN (Blk.new' (by first | rfl | simp [World.setCell])) _ | exact Blk.drew (Blk.new' (by first | rfl | simp [World.setCell]))) hg (by intro hh; injection hh with hh; omega)
        have n0 : w1.cell? ⟨w.heap.size, 0, none⟩ = some (.int .i64 0) := (hn.cell 0).trans rfl
        have n1 : w1.cell? ⟨w.heap.size, 1, none⟩ = some (.int .i64 0) := (hn.cell 1).trans rfl
        have n2 : w1.cell? ⟨w.heap.size, 2, none⟩ = some (.int .i64 0) := (hn.cell 2).trans rfl
        have n3 : w1.cell? ⟨w.heap.size, 3, none⟩ = some (.int .i64 0) := (hn.cell 3).trans rfl
        have f0 : w1.frozen? ⟨w.heap.size, 0, none⟩ = false := hn.frozen 0
        have f1 : w1.frozen? ⟨w.heap.size, 1, none⟩ = false := hn.frozen 1
        have f2 : w1.frozen? ⟨w.heap.size, 2, none⟩ = false := hn.frozen 2
        have f3 : w1.frozen? ⟨w.heap.size, 3, none⟩ = false := hn.frozen 3
        have HX := Lib.hid hx
        clear hx
        go_wp2
        refine bodyPost_ret (v := .agg #[.int .i64 x.kind, .int .i64 x.cell, .int .i64 x.value, .int .i64 x.code]) (by simp [results, Try.results55, go_sem, n0, n1, n2, n3]) rfl ?_
        exact DPost.tail (by first | (simp [World.setCell]; done) | (simp [World.setCell, World.drewN]; done)) (by repeat (first | exact World.grownBy.refl _ _ | refine only_alloc ?_ _ | refine only_drew ?_ | refine only_drewN ?_ _ | refine only_setCell ?_ (.inl rfl) _ | refine only_setCell ?_ (.inr (by simp [World.setCell] <;> omega)) _)) hS hlt hM hg (by rw [stateF, if_neg HC.out, if_pos HZ.out, freed, if_neg (by omega)]; exact HX.out)
    · have e3 : (x0 == 0) = false := by simp [hz]
      have HZ := Lib.hid hz
      clear hz
      by_cases hf : s.free < 0
      · go_enter Try.func55, Try.ntmps55
        go_wp2_with fail
        refine (goes_any b { s with free := s.slot } S _ (by exact hok.free (by have := hok.e0; omega)) hne (by exact fun g hg => by have := hS g hg; simp [World.setCell]; omega)
          (by exact ⟨tv, nv, (hB.set_ 7 _).alloc _, (hT.set_ hB 7 _ (fun _ h => h)).alloc _ (fun _ h => h), (hN.set_ hB 7 _ (fun _ h => h)).alloc _ (fun _ h => h)⟩)).mono ?_
        rintro e w1 ⟨x, s', hx, rfl, hM, hg⟩
        have hn : Blk w1 w.heap.size 37 #[.int .i64 0, .int .i64 0, .int .i64 0, .int .i64 0] := Blk.grown (by first | exact Blk.new' (by first | rfl | simp [World.setCell]) | exact Blk.drewN (Blk.new' (by first | rfl | simp [World.setCell])) _ | exact Blk.drew (Blk.new' (by first | rfl | simp [World.setCell]))) hg (by intro hh; injection hh with hh; omega)
        have n0 : w1.cell? ⟨w.heap.size, 0, none⟩ = some (.int .i64 0) := (hn.cell 0).trans rfl
        have n1 : w1.cell? ⟨w.heap.size, 1, none⟩ = some (.int .i64 0) := (hn.cell 1).trans rfl
        have n2 : w1.cell? ⟨w.heap.size, 2, none⟩ = some (.int .i64 0) := (hn.cell 2).trans rfl
        have n3 : w1.cell? ⟨w.heap.size, 3, none⟩ = some (.int .i64 0) := (hn.cell 3).trans rfl
        have f0 : w1.frozen? ⟨w.heap.size, 0, none⟩ = false := hn.frozen 0
        have f1 : w1.frozen? ⟨w.heap.size, 1, none⟩ = false := hn.frozen 1
        have f2 : w1.frozen? ⟨w.heap.size, 2, none⟩ = false := hn.frozen 2
        have f3 : w1.frozen? ⟨w.heap.size, 3, none⟩ = false := hn.frozen 3
        have HX := Lib.hid hx
        clear hx
        go_wp2
        refine bodyPost_ret (v := .agg #[.int .i64 x.kind, .int .i64 x.cell, .int .i64 x.value, .int .i64 x.code]) (by simp [results, Try.results55, go_sem, n0, n1, n2, n3]) rfl ?_
        exact DPost.tail (by first | (simp [World.setCell]; done) | (simp [World.setCell, World.drewN]; done)) (by repeat (first | exact World.grownBy.refl _ _ | refine only_alloc ?_ _ | refine only_drew ?_ | refine only_drewN ?_ _ | refine only_setCell ?_ (.inl rfl) _ | refine only_setCell ?_ (.inr (by simp [World.setCell] <;> omega)) _)) hS hlt hM hg (by rw [stateF, if_neg HC.out, if_neg HZ.out, freed, if_pos ⟨HC.out, hf⟩]; exact HX.out)
      · have hf' : decide (s.free < 0) = false := by simpa using hf
        go_enter Try.func55, Try.ntmps55
        go_wp2_with fail
        refine (goes_any b s S _ hok hne (by exact fun g hg => by have := hS g hg; simp [World.setCell]; omega) (hw.alloc _)).mono ?_
        rintro e w1 ⟨x, s', hx, rfl, hM, hg⟩
        have hn : Blk w1 w.heap.size 37 #[.int .i64 0, .int .i64 0, .int .i64 0, .int .i64 0] := Blk.grown (by first | exact Blk.new' (by first | rfl | simp [World.setCell]) | exact Blk.drewN (Blk.new' (by first | rfl | simp [World.setCell])) _ | exact Blk.drew (Blk.new' (by first | rfl | simp [World.setCell]))) hg (by intro hh; injection hh with hh; omega)
        have n0 : w1.cell? ⟨w.heap.size, 0, none⟩ = some (.int .i64 0) := (hn.cell 0).trans rfl
        have n1 : w1.cell? ⟨w.heap.size, 1, none⟩ = some (.int .i64 0) := (hn.cell 1).trans rfl
        have n2 : w1.cell? ⟨w.heap.size, 2, none⟩ = some (.int .i64 0) := (hn.cell 2).trans rfl
        have n3 : w1.cell? ⟨w.heap.size, 3, none⟩ = some (.int .i64 0) := (hn.cell 3).trans rfl
        have f0 : w1.frozen? ⟨w.heap.size, 0, none⟩ = false := hn.frozen 0
        have f1 : w1.frozen? ⟨w.heap.size, 1, none⟩ = false := hn.frozen 1
        have f2 : w1.frozen? ⟨w.heap.size, 2, none⟩ = false := hn.frozen 2
        have f3 : w1.frozen? ⟨w.heap.size, 3, none⟩ = false := hn.frozen 3
        have HX := Lib.hid hx
        clear hx
        go_wp2
        refine bodyPost_ret (v := .agg #[.int .i64 x.kind, .int .i64 x.cell, .int .i64 x.value, .int .i64 x.code]) (by simp [results, Try.results55, go_sem, n0, n1, n2, n3]) rfl ?_
        exact DPost.tail (by first | (simp [World.setCell]; done) | (simp [World.setCell, World.drewN]; done)) (by repeat (first | exact World.grownBy.refl _ _ | refine only_alloc ?_ _ | refine only_drew ?_ | refine only_drewN ?_ _ | refine only_setCell ?_ (.inl rfl) _ | refine only_setCell ?_ (.inr (by simp [World.setCell] <;> omega)) _)) hS hlt hM hg (by rw [stateF, if_neg HC.out, if_neg HZ.out, freed, if_neg (by omega)]; exact HX.out)
end Go.Proofs.Ytjggcidaolnmbaa
