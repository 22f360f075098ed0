/- What the dict machine's inner functions do: looks, goes, and the small ones. -/
import Derived.Test.YtjggcidaolnmbaaDw1
import Derived.BigQuiet
import Derived.Deep.QuietTactic
import Derived.RegionTactic
namespace Go.Proofs.Ytjggcidaolnmbaa
open Go.RowKit Go.Joins Go.ChangeShapes Go.WideShapes Go.Deep
set_option linter.unusedVariables false
set_option maxRecDepth 100000

theorem at_any (x : Int) (w : World) (h0 : -1 ≤ x) (h1 : x ≤ 16) :
    Calls Try.prog 34 #[.int .i64 x] w fun e w' => e = .returned (.int .i64 (1 + 3 * x)) ∧ w = w' := by
  go_enter Try.func34, Try.ntmps34
  go_wp2
  go_ret
  exact ⟨rfl, rfl⟩

theorem looks_any (b : Nat) (s : DS) (S : Nat → Prop) (w : World) (hok : s.Ok) (hS : ∀ g, S g → g < w.heap.size)
    (h : MIs w b s S) :
    Calls Try.prog 43 #[.pointer (some ⟨b, 0, none⟩)] w (DPost b S w (looksF s)) := by
  obtain ⟨tv, nv, hB, hT, hN⟩ := h
  have c1 : w.cell? ⟨b, 1, none⟩ = some (.int .i64 s.most) := (hB.cell 1).trans rfl
  have c5 : w.cell? ⟨b, 5, none⟩ = some (.int .i64 s.slot) := (hB.cell 5).trans rfl
  have c6 : w.cell? ⟨b, 6, none⟩ = some (.int .i64 s.seen) := (hB.cell 6).trans rfl
  have hlt := hB.lt
  have hw : MIs w b s S := ⟨tv, nv, hB, hT, hN⟩
  have o1 := hok.s0
  have o2 := hok.s2
  by_cases hc : s.seen = s.most
  · have hc' : (s.seen == s.most) = true := by simp [hc]
    have HC := Lib.hid hc
    clear hc
    go_enter Try.func43, Try.ntmps43
    go_wp2_with fail
    go_quiet (fail)
    go_wp2_with fail
    refine (lost_any b s S _ (fun g hg => by have := hS g hg; simp; omega) ((hw.alloc _).drewN _)).mono ?_
    rintro e w1 ⟨x, s', hx, rfl, hM, hg⟩
    have hn : Blk w1 w.heap.size 37 #[.int .i64 0, .int .i64 0, .int .i64 0, .int .i64 0] := Blk.grown (by first | exact Blk.new' (by first | rfl | simp [World.setCell]) | exact Blk.drewN (Blk.new' (by first | rfl | simp [World.setCell])) _ | exact Blk.drew (Blk.new' (by first | rfl | simp [World.setCell]))) hg (by intro hh; injection hh with hh; omega)
    have n0 : w1.cell? ⟨w.heap.size, 0, none⟩ = some (.int .i64 0) := (hn.cell 0).trans rfl
    have n1 : w1.cell? ⟨w.heap.size, 1, none⟩ = some (.int .i64 0) := (hn.cell 1).trans rfl
    have n2 : w1.cell? ⟨w.heap.size, 2, none⟩ = some (.int .i64 0) := (hn.cell 2).trans rfl
    have n3 : w1.cell? ⟨w.heap.size, 3, none⟩ = some (.int .i64 0) := (hn.cell 3).trans rfl
    have f0 : w1.frozen? ⟨w.heap.size, 0, none⟩ = false := hn.frozen 0
    have f1 : w1.frozen? ⟨w.heap.size, 1, none⟩ = false := hn.frozen 1
    have f2 : w1.frozen? ⟨w.heap.size, 2, none⟩ = false := hn.frozen 2
    have f3 : w1.frozen? ⟨w.heap.size, 3, none⟩ = false := hn.frozen 3
    have HX := Lib.hid hx
    clear hx
    go_wp2
    refine bodyPost_ret (v := .agg #[.int .i64 x.kind, .int .i64 x.cell, .int .i64 x.value, .int .i64 x.code]) (by simp [results, Try.results43, go_sem, n0, n1, n2, n3]) rfl ?_
    exact DPost.tail (by first | (simp [World.setCell]; done) | (simp [World.setCell, World.drewN]; done)) (by repeat (first | exact World.grownBy.refl _ _ | refine only_alloc ?_ _ | refine only_drew ?_ | refine only_drewN ?_ _ | refine only_setCell ?_ (.inl rfl) _ | refine only_setCell ?_ (.inr (by simp [World.setCell] <;> omega)) _)) hS hlt hM hg (by rw [looksF, if_pos HC.out]; exact HX.out)
  · have hc' : (s.seen == s.most) = false := by simp [hc]
    have HC := Lib.hid hc
    clear hc
    go_enter Try.func43, Try.ntmps43
    go_wp2_with fail
    go_quiet (fail)
    go_wp2_with fail
    refine (at_any s.slot _ (by omega) (by omega)).mono ?_
    rintro e w1 ⟨rfl, rfl⟩
    go_wp2_with fail
    refine (read_any b s S (1 + 3 * s.slot) _ .state _ ((hw.alloc _).drewN _) (fun _ _ => rfl)).mono ?_
    rintro e w1 ⟨x, s', hx, rfl, hM, hg⟩
    have hn : Blk w1 w.heap.size 37 #[.int .i64 0, .int .i64 0, .int .i64 0, .int .i64 0] := Blk.grown (by first | exact Blk.new' (by first | rfl | simp [World.setCell]) | exact Blk.drewN (Blk.new' (by first | rfl | simp [World.setCell])) _ | exact Blk.drew (Blk.new' (by first | rfl | simp [World.setCell]))) hg (by intro hh; injection hh with hh; omega)
    have n0 : w1.cell? ⟨w.heap.size, 0, none⟩ = some (.int .i64 0) := (hn.cell 0).trans rfl
    have n1 : w1.cell? ⟨w.heap.size, 1, none⟩ = some (.int .i64 0) := (hn.cell 1).trans rfl
    have n2 : w1.cell? ⟨w.heap.size, 2, none⟩ = some (.int .i64 0) := (hn.cell 2).trans rfl
    have n3 : w1.cell? ⟨w.heap.size, 3, none⟩ = some (.int .i64 0) := (hn.cell 3).trans rfl
    have f0 : w1.frozen? ⟨w.heap.size, 0, none⟩ = false := hn.frozen 0
    have f1 : w1.frozen? ⟨w.heap.size, 1, none⟩ = false := hn.frozen 1
    have f2 : w1.frozen? ⟨w.heap.size, 2, none⟩ = false := hn.frozen 2
    have f3 : w1.frozen? ⟨w.heap.size, 3, none⟩ = false := hn.frozen 3
    have HX := Lib.hid hx
    clear hx
    go_wp2
    refine bodyPost_ret (v := .agg #[.int .i64 x.kind, .int .i64 x.cell, .int .i64 x.value, .int .i64 x.code]) (by simp [results, Try.results43, go_sem, n0, n1, n2, n3]) rfl ?_
    exact DPost.tail (by first | (simp [World.setCell]; done) | (simp [World.setCell, World.drewN]; done)) (by repeat (first | exact World.grownBy.refl _ _ | refine only_alloc ?_ _ | refine only_drew ?_ | refine only_drewN ?_ _ | refine only_setCell ?_ (.inl rfl) _ | refine only_setCell ?_ (.inr (by simp [World.setCell] <;> omega)) _)) hS hlt hM hg (by rw [looksF, if_neg HC.out]; exact HX.out)
end Go.Proofs.Ytjggcidaolnmbaa
