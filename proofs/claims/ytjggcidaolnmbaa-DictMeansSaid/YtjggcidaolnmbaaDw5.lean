/- What the dict machine's functions that end in writes do. -/
import Derived.Test.YtjggcidaolnmbaaDw4
import Derived.Deep.RegionWith
import Derived.StillTailTactics
import Derived.Deep.RegionHeld3
import Derived.Deep.DeepMust
namespace Go.Proofs.Ytjggcidaolnmbaa
open Go.RowKit Go.Joins Go.ChangeShapes Go.WideShapes Go.Deep
set_option linter.unusedVariables false
set_option maxRecDepth 100000

theorem countsK_any (b : Nat) (s : DS) (S : Nat → Prop) (x0 : Int) (w : World) (hS : ∀ g, S g → g < w.heap.size) (h : MIs w b s S) :
    Calls Try.prog 79 #[.pointer (some ⟨b, 0, none⟩), .int .i64 x0] w (DPost b S w (writesF { s with thn := .fine } ⟨0, 0, wrap64 (x0 - 1), 0⟩ [])) := by
  obtain ⟨tv, nv, hB, hT, hN⟩ := h
  have c9 : w.cell? ⟨b, 9, none⟩ = some nv := (hB.cell 9).trans rfl
  have f9 : w.frozen? ⟨b, 9, none⟩ = false := hB.frozen 9
  have hlt := hB.lt
  go_enter Try.func79, Try.ntmps79
  go_wp2_with fail
  refine (writes_any b (w.heap.size + 1) { s with thn := .fine } ⟨0, 0, wrap64 (x0 - 1), 0⟩ [] tv _ _ (by simp) (by exact fun _ _ => rfl) (by exact ((hB.set_ 9 _).alloc _).alloc _) (by exact Blk.new' (by simp [World.setCell])) 1 rfl).mono ?_
  rintro e w1 ⟨x, s', hx, rfl, hM, hg⟩
  have hgn : w.heap.size < w.heap.size + 1 := by omega
  have hn : Blk w1 w.heap.size 37 #[.int .i64 0, .int .i64 0, .int .i64 0, .int .i64 0] := by
    refine (hg.block w.heap.size ?_ ?_ ?_).trans ?_
    · first | (simp [World.setCell]; done) | (simp [World.setCell]; omega)
    · omega
    · omega
    · exact Blk.alloc (by first | exact Blk.new' (by first | rfl | simp [World.setCell]) | exact Blk.drewN (Blk.new' (by first | rfl | simp [World.setCell])) _ | exact Blk.drew (Blk.new' (by first | rfl | simp [World.setCell]))) _
  have n0 : w1.cell? ⟨w.heap.size, 0, none⟩ = some (.int .i64 0) := (hn.cell 0).trans rfl
  have n1 : w1.cell? ⟨w.heap.size, 1, none⟩ = some (.int .i64 0) := (hn.cell 1).trans rfl
  have n2 : w1.cell? ⟨w.heap.size, 2, none⟩ = some (.int .i64 0) := (hn.cell 2).trans rfl
  have n3 : w1.cell? ⟨w.heap.size, 3, none⟩ = some (.int .i64 0) := (hn.cell 3).trans rfl
  have f0 : w1.frozen? ⟨w.heap.size, 0, none⟩ = false := hn.frozen 0
  have f1 : w1.frozen? ⟨w.heap.size, 1, none⟩ = false := hn.frozen 1
  have f2 : w1.frozen? ⟨w.heap.size, 2, none⟩ = false := hn.frozen 2
  have f3 : w1.frozen? ⟨w.heap.size, 3, none⟩ = false := hn.frozen 3
  have HX := Lib.hid hx
  clear hx
  go_wp2
  refine bodyPost_ret (v := .agg #[.int .i64 x.kind, .int .i64 x.cell, .int .i64 x.value, .int .i64 x.code]) (by simp [results, Try.results79, go_sem, n0, n1, n2, n3]) rfl ?_
  exact DPost.tail2 (by repeat (first | exact World.grownBy.refl _ _ | refine only_alloc ?_ _ | refine only_drew ?_ | refine only_drewN ?_ _ | refine only_setCell ?_ (.inl rfl) _ | refine only_setCell ?_ (.inr (by simp [World.setCell] <;> omega)) _)) hgn hlt hM hg (HX.out)

set_option maxHeartbeats 1000000 in
theorem key_put (b : Nat) (s : DS) (S : Nat → Prop) (x0 : Int) (w : World) (hok : s.Ok) (hne : s.seen < s.most) (hS : ∀ g, S g → g < w.heap.size) (h : MIs w b s S) (hk : x0 = s.k) (h3 : s.call = 3) :
    Calls Try.prog 69 #[.pointer (some ⟨b, 0, none⟩), .int .i64 x0] w (DPost b S w (keyF s x0)) := by
  obtain ⟨tv, nv, hB, hT, hN⟩ := h
  have c2 : w.cell? ⟨b, 2, none⟩ = some (.int .i64 s.call) := (hB.cell 2).trans rfl
  have c3 : w.cell? ⟨b, 3, none⟩ = some (.int .i64 s.k) := (hB.cell 3).trans rfl
  have c4 : w.cell? ⟨b, 4, none⟩ = some (.int .i64 s.v) := (hB.cell 4).trans rfl
  have c5 : w.cell? ⟨b, 5, none⟩ = some (.int .i64 s.slot) := (hB.cell 5).trans rfl
  have c9 : w.cell? ⟨b, 9, none⟩ = some nv := (hB.cell 9).trans rfl
  have f9 : w.frozen? ⟨b, 9, none⟩ = false := hB.frozen 9
  have hlt := hB.lt
  have hw : MIs w b s S := ⟨tv, nv, hB, hT, hN⟩
  have o1 := hok.s0
  have o2 := hok.s2
  have e1 : (x0 != s.k) = false := by simp [hk]
  have e2 : (s.call == 2) = false := by simp [h3]
  have e3 : (s.call == 3) = true := by simp [h3]
  have hr : keyF s x0 = writesF { s with thn := .fine } ⟨0, 1 + 3 * s.slot + 2, s.v, 0⟩ [] := by simp [keyF, hk, h3]
  rw [hr]
  clear hk h3 hr
  have hwr : IntKind.i64.wrap (1 + 3 * s.slot + 2) = 1 + 3 * s.slot + 2 := IntWalk.i64_in _ (by omega)
  go_enter Try.func69, Try.ntmps69
  go_wp2_with fail
  go_region_with (first | (go_at_call 34; refine (at_any s.slot _ (by omega) (by omega)).mono ?_; rintro e w1 ⟨rfl, rfl⟩) | (go_at_call 68; refine (writes_any b (w.heap.size + 1) { s with thn := .fine } ⟨0, 1 + 3 * s.slot + 2, s.v, 0⟩ [] tv _ _ (by simp) (by exact fun _ _ => rfl) (by exact (((hB.set_ 9 _).alloc _).alloc _).drew) (by exact Blk.drew (Blk.new' (by simp [World.setCell]))) 1 rfl).mono ?_; rintro e w1 ⟨x, s', hx, rfl, hM, hg⟩; have hgn : w.heap.size < w.heap.size + 1 := (by omega); have hn : Blk w1 w.heap.size 37 #[.int .i64 0, .int .i64 0, .int .i64 0, .int .i64 0] := aft_blk (by first | (simp [World.setCell]; done) | (simp [World.setCell]; omega)) (by omega) (by omega) hg (by exact Blk.alloc (by first | exact Blk.new' (by first | rfl | simp [World.setCell]) | exact Blk.drewN (Blk.new' (by first | rfl | simp [World.setCell])) _ | exact Blk.drew (Blk.new' (by first | rfl | simp [World.setCell]))) _); have n0 : w1.cell? ⟨w.heap.size, 0, none⟩ = some (.int .i64 0) := (hn.cell 0).trans rfl; have n1 : w1.cell? ⟨w.heap.size, 1, none⟩ = some (.int .i64 0) := (hn.cell 1).trans rfl; have n2 : w1.cell? ⟨w.heap.size, 2, none⟩ = some (.int .i64 0) := (hn.cell 2).trans rfl; have n3 : w1.cell? ⟨w.heap.size, 3, none⟩ = some (.int .i64 0) := (hn.cell 3).trans rfl; have f0 : w1.frozen? ⟨w.heap.size, 0, none⟩ = false := hn.frozen 0; have f1 : w1.frozen? ⟨w.heap.size, 1, none⟩ = false := hn.frozen 1; have f2 : w1.frozen? ⟨w.heap.size, 2, none⟩ = false := hn.frozen 2; have f3 : w1.frozen? ⟨w.heap.size, 3, none⟩ = false := hn.frozen 3; have HX := Lib.hid hx; clear hx))
  all_goals
    go_wp2
    refine bodyPost_ret (v := .agg #[.int .i64 x.kind, .int .i64 x.cell, .int .i64 x.value, .int .i64 x.code]) (by simp [results, Try.results69, go_sem, n0, n1, n2, n3]) rfl ?_
    exact DPost.tail2 (by repeat (first | exact World.grownBy.refl _ _ | refine only_alloc ?_ _ | refine only_drew ?_ | refine only_drewN ?_ _ | refine only_setCell ?_ (.inl rfl) _ | refine only_setCell ?_ (.inr (by simp [World.setCell] <;> omega)) _)) hgn hlt hM hg (HX.out)

theorem key_any (b : Nat) (s : DS) (S : Nat → Prop) (x0 : Int) (w : World) (hok : s.Ok) (hne : s.seen < s.most) (hS : ∀ g, S g → g < w.heap.size) (h : MIs w b s S) :
    Calls Try.prog 69 #[.pointer (some ⟨b, 0, none⟩), .int .i64 x0] w (DPost b S w (keyF s x0)) := by
  by_cases hk : x0 = s.k ∧ s.call = 3
  · exact key_put b s S x0 w hok hne hS h hk.1 hk.2
  obtain ⟨tv, nv, hB, hT, hN⟩ := h
  have c2 : w.cell? ⟨b, 2, none⟩ = some (.int .i64 s.call) := (hB.cell 2).trans rfl
  have c3 : w.cell? ⟨b, 3, none⟩ = some (.int .i64 s.k) := (hB.cell 3).trans rfl
  have c4 : w.cell? ⟨b, 4, none⟩ = some (.int .i64 s.v) := (hB.cell 4).trans rfl
  have c5 : w.cell? ⟨b, 5, none⟩ = some (.int .i64 s.slot) := (hB.cell 5).trans rfl
  have c9 : w.cell? ⟨b, 9, none⟩ = some nv := (hB.cell 9).trans rfl
  have f9 : w.frozen? ⟨b, 9, none⟩ = false := hB.frozen 9
  have hlt := hB.lt
  have hw : MIs w b s S := ⟨tv, nv, hB, hT, hN⟩
  have o1 := hok.s0
  have o2 := hok.s2
  by_cases hk : x0 = s.k
  · have h3 : ¬ s.call = 3 := fun e => (by assumption : ¬ (x0 = s.k ∧ s.call = 3)) ⟨hk, e⟩
    have e1 : (x0 != s.k) = false := by simp [hk]
    have HK := Lib.hid hk
    have e3 : (s.call == 3) = false := by simp [h3]
    have H3 := Lib.hid h3
    clear hk h3
    by_cases h2 : s.call = 2
    · have e2 : (s.call == 2) = true := by simp [h2]
      have H2 := Lib.hid h2
      clear h2
      go_enter Try.func69, Try.ntmps69
      go_wp2_with fail
      refine (at_any s.slot _ (by omega) (by omega)).mono ?_
      rintro e w1 ⟨rfl, rfl⟩
      go_wp2_with fail
      refine (read_any b s S (1 + 3 * s.slot + 2) _ .got _ (hw.alloc _) (fun _ _ => rfl)).mono ?_
      rintro e w1 ⟨x, s', hx, rfl, hM, hg⟩
      have hn : Blk w1 w.heap.size 37 #[.int .i64 0, .int .i64 0, .int .i64 0, .int .i64 0] := Blk.grown (by first | exact Blk.new' (by first | rfl | simp [World.setCell]) | exact Blk.drewN (Blk.new' (by first | rfl | simp [World.setCell])) _ | exact Blk.drew (Blk.new' (by first | rfl | simp [World.setCell]))) hg (by intro hh; injection hh with hh; omega)
      have n0 : w1.cell? ⟨w.heap.size, 0, none⟩ = some (.int .i64 0) := (hn.cell 0).trans rfl
      have n1 : w1.cell? ⟨w.heap.size, 1, none⟩ = some (.int .i64 0) := (hn.cell 1).trans rfl
      have n2 : w1.cell? ⟨w.heap.size, 2, none⟩ = some (.int .i64 0) := (hn.cell 2).trans rfl
      have n3 : w1.cell? ⟨w.heap.size, 3, none⟩ = some (.int .i64 0) := (hn.cell 3).trans rfl
      have f0 : w1.frozen? ⟨w.heap.size, 0, none⟩ = false := hn.frozen 0
      have f1 : w1.frozen? ⟨w.heap.size, 1, none⟩ = false := hn.frozen 1
      have f2 : w1.frozen? ⟨w.heap.size, 2, none⟩ = false := hn.frozen 2
      have f3 : w1.frozen? ⟨w.heap.size, 3, none⟩ = false := hn.frozen 3
      have HX := Lib.hid hx
      clear hx
      go_wp2
      refine bodyPost_ret (v := .agg #[.int .i64 x.kind, .int .i64 x.cell, .int .i64 x.value, .int .i64 x.code]) (by simp [results, Try.results69, go_sem, n0, n1, n2, n3]) rfl ?_
      exact DPost.tail (by first | (simp [World.setCell]; done) | (simp [World.setCell, World.drewN]; done)) (by repeat (first | exact World.grownBy.refl _ _ | refine only_alloc ?_ _ | refine only_drew ?_ | refine only_drewN ?_ _ | refine only_setCell ?_ (.inl rfl) _ | refine only_setCell ?_ (.inr (by simp [World.setCell] <;> omega)) _)) hS hlt hM hg (by rw [keyF, if_pos HK.out, if_pos H2.out]; exact HX.out)
    · have e2 : (s.call == 2) = false := by simp [h2]
      have H2 := Lib.hid h2
      clear h2
      go_enter Try.func69, Try.ntmps69
      go_wp2_with fail
      refine (at_any s.slot _ (by omega) (by omega)).mono ?_
      rintro e w1 ⟨rfl, rfl⟩
      go_wp2_with fail
      refine (writes_any b (w.heap.size + 1) { s with thn := .counts } ⟨0, 1 + 3 * s.slot, 2, 0⟩ [] tv _ _ (by simp) (by exact fun _ _ => rfl) (by exact ((hB.set_ 9 _).alloc _).alloc _) (by exact Blk.new' (by simp [World.setCell])) 1 rfl).mono ?_
      rintro e w1 ⟨x, s', hx, rfl, hM, hg⟩
      have hgn : w.heap.size < w.heap.size + 1 := by omega
      have hn : Blk w1 w.heap.size 37 #[.int .i64 0, .int .i64 0, .int .i64 0, .int .i64 0] := by
        refine (hg.block w.heap.size ?_ ?_ ?_).trans ?_
        · first | (simp [World.setCell]; done) | (simp [World.setCell]; omega)
        · omega
        · omega
        · exact Blk.alloc (by first | exact Blk.new' (by first | rfl | simp [World.setCell]) | exact Blk.drewN (Blk.new' (by first | rfl | simp [World.setCell])) _ | exact Blk.drew (Blk.new' (by first | rfl | simp [World.setCell]))) _
      have n0 : w1.cell? ⟨w.heap.size, 0, none⟩ = some (.int .i64 0) := (hn.cell 0).trans rfl
      have n1 : w1.cell? ⟨w.heap.size, 1, none⟩ = some (.int .i64 0) := (hn.cell 1).trans rfl
      have n2 : w1.cell? ⟨w.heap.size, 2, none⟩ = some (.int .i64 0) := (hn.cell 2).trans rfl
      have n3 : w1.cell? ⟨w.heap.size, 3, none⟩ = some (.int .i64 0) := (hn.cell 3).trans rfl
      have f0 : w1.frozen? ⟨w.heap.size, 0, none⟩ = false := hn.frozen 0
      have f1 : w1.frozen? ⟨w.heap.size, 1, none⟩ = false := hn.frozen 1
      have f2 : w1.frozen? ⟨w.heap.size, 2, none⟩ = false := hn.frozen 2
      have f3 : w1.frozen? ⟨w.heap.size, 3, none⟩ = false := hn.frozen 3
      have HX := Lib.hid hx
      clear hx
      go_wp2
      refine bodyPost_ret (v := .agg #[.int .i64 x.kind, .int .i64 x.cell, .int .i64 x.value, .int .i64 x.code]) (by simp [results, Try.results69, go_sem, n0, n1, n2, n3]) rfl ?_
      exact DPost.tail2 (by repeat (first | exact World.grownBy.refl _ _ | refine only_alloc ?_ _ | refine only_drew ?_ | refine only_drewN ?_ _ | refine only_setCell ?_ (.inl rfl) _ | refine only_setCell ?_ (.inr (by simp [World.setCell] <;> omega)) _)) hgn hlt hM hg (by rw [keyF, if_pos HK.out, if_neg H2.out, if_neg H3.out]; exact HX.out)
  · have e1 : (x0 != s.k) = true := by simp [hk]
    have HK := Lib.hid hk
    clear hk
    go_enter Try.func69, Try.ntmps69
    go_wp2_with fail
    refine (goes_any b s S _ hok hne (by exact fun g hg => by have := hS g hg; simp [World.setCell]; omega) (hw.alloc _)).mono ?_
    rintro e w1 ⟨x, s', hx, rfl, hM, hg⟩
    have hn : Blk w1 w.heap.size 37 #[.int .i64 0, .int .i64 0, .int .i64 0, .int .i64 0] := Blk.grown (by first | exact Blk.new' (by first | rfl | simp [World.setCell]) | exact Blk.drewN (Blk.new' (by first | rfl | simp [World.setCell])) _ | exact Blk.drew (Blk.new' (by first | rfl | simp [World.setCell]))) hg (by intro hh; injection hh with hh; omega)
    have n0 : w1.cell? ⟨w.heap.size, 0, none⟩ = some (.int .i64 0) := (hn.cell 0).trans rfl
    have n1 : w1.cell? ⟨w.heap.size, 1, none⟩ = some (.int .i64 0) := (hn.cell 1).trans rfl
    have n2 : w1.cell? ⟨w.heap.size, 2, none⟩ = some (.int .i64 0) := (hn.cell 2).trans rfl
    have n3 : w1.cell? ⟨w.heap.size, 3, none⟩ = some (.int .i64 0) := (hn.cell 3).trans rfl
    have f0 : w1.frozen? ⟨w.heap.size, 0, none⟩ = false := hn.frozen 0
    have f1 : w1.frozen? ⟨w.heap.size, 1, none⟩ = false := hn.frozen 1
    have f2 : w1.frozen? ⟨w.heap.size, 2, none⟩ = false := hn.frozen 2
    have f3 : w1.frozen? ⟨w.heap.size, 3, none⟩ = false := hn.frozen 3
    have HX := Lib.hid hx
    clear hx
    go_wp2
    refine bodyPost_ret (v := .agg #[.int .i64 x.kind, .int .i64 x.cell, .int .i64 x.value, .int .i64 x.code]) (by simp [results, Try.results69, go_sem, n0, n1, n2, n3]) rfl ?_
    exact DPost.tail (by first | (simp [World.setCell]; done) | (simp [World.setCell, World.drewN]; done)) (by repeat (first | exact World.grownBy.refl _ _ | refine only_alloc ?_ _ | refine only_drew ?_ | refine only_drewN ?_ _ | refine only_setCell ?_ (.inl rfl) _ | refine only_setCell ?_ (.inr (by simp [World.setCell] <;> omega)) _)) hS hlt hM hg (by rw [keyF, if_neg HK.out]; exact HX.out)

end Go.Proofs.Ytjggcidaolnmbaa
