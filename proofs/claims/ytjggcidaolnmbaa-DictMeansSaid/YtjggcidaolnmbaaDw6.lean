/- What the dict machine does behind a lost look, for a put. -/
import Derived.Test.YtjggcidaolnmbaaDw4
import Derived.Deep.RegionWith
namespace Go.Proofs.Ytjggcidaolnmbaa
open Go.RowKit Go.Joins Go.ChangeShapes Go.WideShapes Go.Deep
set_option linter.unusedVariables false
set_option maxRecDepth 100000

set_option maxHeartbeats 1000000 in
theorem lostK_any (b : Nat) (s : DS) (S : Nat → Prop) (x0 : Int) (w : World) (hok : s.Ok) (hS : ∀ g, S g → g < w.heap.size) (h : MIs w b s S) :
    Calls Try.prog 66 #[.pointer (some ⟨b, 0, none⟩), .int .i64 x0] w (DPost b S w (lostKF s x0)) := by
  obtain ⟨tv, nv, hB, hT, hN⟩ := h
  have c2 : w.cell? ⟨b, 2, none⟩ = some (.int .i64 s.call) := (hB.cell 2).trans rfl
  have c3 : w.cell? ⟨b, 3, none⟩ = some (.int .i64 s.k) := (hB.cell 3).trans rfl
  have c4 : w.cell? ⟨b, 4, none⟩ = some (.int .i64 s.v) := (hB.cell 4).trans rfl
  have c5 : w.cell? ⟨b, 5, none⟩ = some (.int .i64 s.slot) := (hB.cell 5).trans rfl
  have c9 : w.cell? ⟨b, 9, none⟩ = some nv := (hB.cell 9).trans rfl
  have f9 : w.frozen? ⟨b, 9, none⟩ = false := hB.frozen 9
  have hlt := hB.lt
  have hw : MIs w b s S := ⟨tv, nv, hB, hT, hN⟩
  have o1 := hok.s0
  have o2 := hok.s2
  have c1 : w.cell? ⟨b, 1, none⟩ = some (.int .i64 s.most) := (hB.cell 1).trans rfl
  have c7 : w.cell? ⟨b, 7, none⟩ = some (.int .i64 s.free) := (hB.cell 7).trans rfl
  have o3 := hok.f1
  clear c2 c5 o1 o2
  by_cases hm : s.most ≤ x0
  · have e1 : decide (x0 ≥ s.most) = true := by simpa using hm
    have HM := Lib.hid hm
    go_enter Try.func66, Try.ntmps66
    go_wp2_with fail
    refine (done_any b s S 0 2 _ (hw.alloc _)).mono ?_
    rintro e w1 ⟨x, s', hx, rfl, hM, hg⟩
    have hn : Blk w1 w.heap.size 37 #[.int .i64 0, .int .i64 0, .int .i64 0, .int .i64 0] := Blk.grown (by first | exact Blk.new' (by first | rfl | simp [World.setCell]) | exact Blk.drewN (Blk.new' (by first | rfl | simp [World.setCell])) _ | exact Blk.drew (Blk.new' (by first | rfl | simp [World.setCell]))) hg (by intro hh; injection hh with hh; omega)
    have n0 : w1.cell? ⟨w.heap.size, 0, none⟩ = some (.int .i64 0) := (hn.cell 0).trans rfl
    have n1 : w1.cell? ⟨w.heap.size, 1, none⟩ = some (.int .i64 0) := (hn.cell 1).trans rfl
    have n2 : w1.cell? ⟨w.heap.size, 2, none⟩ = some (.int .i64 0) := (hn.cell 2).trans rfl
    have n3 : w1.cell? ⟨w.heap.size, 3, none⟩ = some (.int .i64 0) := (hn.cell 3).trans rfl
    have f0 : w1.frozen? ⟨w.heap.size, 0, none⟩ = false := hn.frozen 0
    have f1 : w1.frozen? ⟨w.heap.size, 1, none⟩ = false := hn.frozen 1
    have f2 : w1.frozen? ⟨w.heap.size, 2, none⟩ = false := hn.frozen 2
    have f3 : w1.frozen? ⟨w.heap.size, 3, none⟩ = false := hn.frozen 3
    have HX := Lib.hid hx
    clear hx
    go_wp2
    refine bodyPost_ret (v := .agg #[.int .i64 x.kind, .int .i64 x.cell, .int .i64 x.value, .int .i64 x.code]) (by simp [results, Try.results66, go_sem, n0, n1, n2, n3]) rfl ?_
    exact DPost.tail (by first | (simp [World.setCell]; done) | (simp [World.setCell, World.drewN]; done)) (by repeat (first | exact World.grownBy.refl _ _ | refine only_alloc ?_ _ | refine only_drew ?_ | refine only_drewN ?_ _ | refine only_setCell ?_ (.inl rfl) _ | refine only_setCell ?_ (.inr (by simp [World.setCell] <;> omega)) _)) hS hlt hM hg (by rw [lostKF, if_pos (.inl HM.out)]; exact HX.out)
  · have HM := Lib.hid hm
    by_cases hf : s.free < 0
    · have HF := Lib.hid hf
      go_enter Try.func66, Try.ntmps66
      go_wp2_with fail
      refine (done_any b s S 0 2 _ (hw.alloc _)).mono ?_
      rintro e w1 ⟨x, s', hx, rfl, hM, hg⟩
      have hn : Blk w1 w.heap.size 37 #[.int .i64 0, .int .i64 0, .int .i64 0, .int .i64 0] := Blk.grown (by first | exact Blk.new' (by first | rfl | simp [World.setCell]) | exact Blk.drewN (Blk.new' (by first | rfl | simp [World.setCell])) _ | exact Blk.drew (Blk.new' (by first | rfl | simp [World.setCell]))) hg (by intro hh; injection hh with hh; omega)
      have n0 : w1.cell? ⟨w.heap.size, 0, none⟩ = some (.int .i64 0) := (hn.cell 0).trans rfl
      have n1 : w1.cell? ⟨w.heap.size, 1, none⟩ = some (.int .i64 0) := (hn.cell 1).trans rfl
      have n2 : w1.cell? ⟨w.heap.size, 2, none⟩ = some (.int .i64 0) := (hn.cell 2).trans rfl
      have n3 : w1.cell? ⟨w.heap.size, 3, none⟩ = some (.int .i64 0) := (hn.cell 3).trans rfl
      have f0 : w1.frozen? ⟨w.heap.size, 0, none⟩ = false := hn.frozen 0
      have f1 : w1.frozen? ⟨w.heap.size, 1, none⟩ = false := hn.frozen 1
      have f2 : w1.frozen? ⟨w.heap.size, 2, none⟩ = false := hn.frozen 2
      have f3 : w1.frozen? ⟨w.heap.size, 3, none⟩ = false := hn.frozen 3
      have HX := Lib.hid hx
      clear hx
      go_wp2
      refine bodyPost_ret (v := .agg #[.int .i64 x.kind, .int .i64 x.cell, .int .i64 x.value, .int .i64 x.code]) (by simp [results, Try.results66, go_sem, n0, n1, n2, n3]) rfl ?_
      exact DPost.tail (by first | (simp [World.setCell]; done) | (simp [World.setCell, World.drewN]; done)) (by repeat (first | exact World.grownBy.refl _ _ | refine only_alloc ?_ _ | refine only_drew ?_ | refine only_drewN ?_ _ | refine only_setCell ?_ (.inl rfl) _ | refine only_setCell ?_ (.inr (by simp [World.setCell] <;> omega)) _)) hS hlt hM hg (by rw [lostKF, if_pos (.inr HF.out)]; exact HX.out)
    · have HF := Lib.hid hf
      have hf' : decide (s.free < 0) = false := by simpa using hf
      have hwr0 : IntKind.i64.wrap (1 + 3 * s.free) = 1 + 3 * s.free := IntWalk.i64_in _ (by omega)
      have hwr3 : IntKind.i64.wrap (x0 + 1) = wrap64 (x0 + 1) := by rw [IntKind.wrap_i64]; unfold wrap64; rfl
      have hwr1 : IntKind.i64.wrap (1 + 3 * s.free + 1) = 1 + 3 * s.free + 1 := IntWalk.i64_in _ (by omega)
      have hwr2 : IntKind.i64.wrap (1 + 3 * s.free + 2) = 1 + 3 * s.free + 2 := IntWalk.i64_in _ (by omega)
      go_enter Try.func66, Try.ntmps66
      go_wp2_with fail
      refine (at_any s.free _ (by omega) (by omega)).mono ?_
      rintro e w1 ⟨rfl, rfl⟩
      go_wp2_with fail
      go_region_with (go_at_call 68; refine (writes_any b (w.heap.size + 1) { s with thn := .fine } ⟨0, 1 + 3 * s.free, 1, 0⟩ [⟨0, 1 + 3 * s.free + 1, s.k, 0⟩, ⟨0, 1 + 3 * s.free + 2, s.v, 0⟩, ⟨0, 0, wrap64 (x0 + 1), 0⟩] tv _ _ (by simp) (by exact fun _ _ => rfl) (by exact (((hB.set_ 9 _).alloc _).alloc _).drew) (by exact Blk.drew (Blk.new' (by simp [World.setCell]))) 4 rfl).mono ?_; rintro e w1 ⟨x, s', hx, rfl, hM, hg⟩; have hgn : w.heap.size < w.heap.size + 1 := (by omega); have hn : Blk w1 w.heap.size 37 #[.int .i64 0, .int .i64 0, .int .i64 0, .int .i64 0] := aft_blk (by first | (simp [World.setCell]; done) | (simp [World.setCell]; omega)) (by omega) (by omega) hg (by exact Blk.alloc (by first | exact Blk.new' (by first | rfl | simp [World.setCell]) | exact Blk.drewN (Blk.new' (by first | rfl | simp [World.setCell])) _ | exact Blk.drew (Blk.new' (by first | rfl | simp [World.setCell]))) _); have n0 : w1.cell? ⟨w.heap.size, 0, none⟩ = some (.int .i64 0) := (hn.cell 0).trans rfl; have n1 : w1.cell? ⟨w.heap.size, 1, none⟩ = some (.int .i64 0) := (hn.cell 1).trans rfl; have n2 : w1.cell? ⟨w.heap.size, 2, none⟩ = some (.int .i64 0) := (hn.cell 2).trans rfl; have n3 : w1.cell? ⟨w.heap.size, 3, none⟩ = some (.int .i64 0) := (hn.cell 3).trans rfl; have f0 : w1.frozen? ⟨w.heap.size, 0, none⟩ = false := hn.frozen 0; have f1 : w1.frozen? ⟨w.heap.size, 1, none⟩ = false := hn.frozen 1; have f2 : w1.frozen? ⟨w.heap.size, 2, none⟩ = false := hn.frozen 2; have f3 : w1.frozen? ⟨w.heap.size, 3, none⟩ = false := hn.frozen 3; have HX := Lib.hid hx; clear hx)
      all_goals
        go_wp2
        refine bodyPost_ret (v := .agg #[.int .i64 x.kind, .int .i64 x.cell, .int .i64 x.value, .int .i64 x.code]) (by simp [results, Try.results66, go_sem, n0, n1, n2, n3]) rfl ?_
        exact DPost.tail2 (by repeat (first | exact World.grownBy.refl _ _ | refine only_alloc ?_ _ | refine only_drew ?_ | refine only_drewN ?_ _ | refine only_setCell ?_ (.inl rfl) _ | refine only_setCell ?_ (.inr (by simp [World.setCell] <;> omega)) _)) hgn hlt hM hg (by rw [lostKF, if_neg (by have h1 := HM.out; have h2 := HF.out; omega)]; exact HX.out)
end Go.Proofs.Ytjggcidaolnmbaa
