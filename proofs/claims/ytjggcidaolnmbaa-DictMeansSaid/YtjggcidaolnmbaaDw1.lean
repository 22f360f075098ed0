/- What the dict machine's inner functions do: read, done, lost. -/
import Derived.Test.YtjggcidaolnmbaaDm
import Derived.Laws.EntriesVeiled
import Derived.Outline
namespace Go.Proofs.Ytjggcidaolnmbaa
open Go.RowKit Go.Joins Go.ChangeShapes Go.WideShapes Go.Deep
set_option linter.unusedVariables false
set_option maxRecDepth 100000

theorem read_any (b : Nat) (s : DS) (S : Nat → Prop) (c : Int) (f : Fn) (t : Thn) (w : World)
    (h : MIs w b s S) (ht : ∀ w S, ThnIs w S (.func f #[] #[]) t) :
    Calls Try.prog 40 #[.pointer (some ⟨b, 0, none⟩), .int .i64 c, .func f #[] #[]] w (DPost b S w (readF s c t)) := by
  obtain ⟨tv, nv, hB, hT, hN⟩ := h
  have c0 : w.cell? ⟨b, 0, none⟩ = some (.int .i64 s.base) := (hB.cell 0).trans rfl
  have c9 : w.cell? ⟨b, 9, none⟩ = some nv := (hB.cell 9).trans rfl
  have f9 : w.frozen? ⟨b, 9, none⟩ = false := hB.frozen 9
  have hlt := hB.lt
  go_enter Try.func40, Try.ntmps40
  go_wp2
  refine bodyPost_ret (v := .agg #[.int .i64 2, .int .i64 (wrap64 (s.base + c)), .int .i64 0, .int .i64 0]) (by simp [results, Try.results40, go_sem]) rfl ?_
  refine ⟨⟨2, wrap64 (s.base + c), 0, 0⟩, _, rfl, rfl, ⟨tv, .func f #[] #[], (hB.set_ 9 _).alloc _, (hT.set_ hB 9 _ (fun _ h => h)).alloc _ (fun _ h => .inl h), ht _ _⟩, only_alloc (only_setCell (World.grownBy.refl _ _) (.inl rfl) _) _⟩

theorem done_any (b : Nat) (s : DS) (S : Nat → Prop) (v code : Int) (w : World)
    (h : MIs w b s S) :
    Calls Try.prog 42 #[.pointer (some ⟨b, 0, none⟩), .int .i64 v, .int .i64 code] w (DPost b S w (doneF s v code)) := by
  obtain ⟨tv, nv, hB, hT, hN⟩ := h
  have c9 : w.cell? ⟨b, 9, none⟩ = some nv := (hB.cell 9).trans rfl
  have f9 : w.frozen? ⟨b, 9, none⟩ = false := hB.frozen 9
  have hlt := hB.lt
  go_enter Try.func42, Try.ntmps42
  go_wp2
  refine bodyPost_ret (v := .agg #[.int .i64 6, .int .i64 0, .int .i64 v, .int .i64 code]) (by simp [results, Try.results42, go_sem]) rfl ?_
  refine ⟨⟨6, 0, v, code⟩, _, rfl, rfl, ⟨tv, _, ((hB.set_ 9 _).alloc _).alloc _, ((hT.set_ hB 9 _ (fun _ h => h)).alloc _ (fun _ h => h)).alloc _ (fun _ h => .inl h), ⟨_, rfl, .inr (by simp), ?_⟩⟩, only_alloc (only_alloc (only_setCell (World.grownBy.refl _ _) (.inl rfl) _) _) _⟩
  have hn := Blk.new ((w.setCell ⟨b, 9, none⟩ (.func (.func 53) #[] #[.pointer (some ⟨w.heap.size + 1, 0, none⟩)])).alloc (.cells #[.int .i64 6, .int .i64 0, .int .i64 v, .int .i64 code] 37)) 37 #[.int .i64 6, .int .i64 0, .int .i64 v, .int .i64 code]
  have hz : ((w.setCell ⟨b, 9, none⟩ (.func (.func 53) #[] #[.pointer (some ⟨w.heap.size + 1, 0, none⟩)])).alloc (.cells #[.int .i64 6, .int .i64 0, .int .i64 v, .int .i64 code] 37)).heap.size = w.heap.size + 1 := by simp [World.setCell]
  rw [hz] at hn
  exact hn

theorem lost_any (b : Nat) (s : DS) (S : Nat → Prop) (w : World) (hS : ∀ g, S g → g < w.heap.size)
    (h : MIs w b s S) :
    Calls Try.prog 54 #[.pointer (some ⟨b, 0, none⟩)] w (DPost b S w (lostF s)) := by
  obtain ⟨tv, nv, hB, hT, hN⟩ := h
  have c2 : w.cell? ⟨b, 2, none⟩ = some (.int .i64 s.call) := (hB.cell 2).trans rfl
  have hlt := hB.lt
  have hw : MIs w b s S := ⟨tv, nv, hB, hT, hN⟩
  by_cases hc : s.call = 3
  · have hc' : (s.call != 3) = false := by simp [hc]
    have HC := Lib.hid hc
    clear hc
    go_enter Try.func54, Try.ntmps54
    go_wp2_with fail
    refine (read_any b s S 0 _ .lostK _ (hw.alloc _) (fun _ _ => rfl)).mono ?_
    rintro e w1 ⟨x, s', hx, rfl, hM, hg⟩
    have hn : Blk w1 w.heap.size 37 #[.int .i64 0, .int .i64 0, .int .i64 0, .int .i64 0] := Blk.grown (by first | exact Blk.new' (by first | rfl | simp [World.setCell]) | exact Blk.drewN (Blk.new' (by first | rfl | simp [World.setCell])) _ | exact Blk.drew (Blk.new' (by first | rfl | simp [World.setCell]))) hg (by intro hh; injection hh with hh; omega)
    have n0 : w1.cell? ⟨w.heap.size, 0, none⟩ = some (.int .i64 0) := (hn.cell 0).trans rfl
    have n1 : w1.cell? ⟨w.heap.size, 1, none⟩ = some (.int .i64 0) := (hn.cell 1).trans rfl
    have n2 : w1.cell? ⟨w.heap.size, 2, none⟩ = some (.int .i64 0) := (hn.cell 2).trans rfl
    have n3 : w1.cell? ⟨w.heap.size, 3, none⟩ = some (.int .i64 0) := (hn.cell 3).trans rfl
    have f0 : w1.frozen? ⟨w.heap.size, 0, none⟩ = false := hn.frozen 0
    have f1 : w1.frozen? ⟨w.heap.size, 1, none⟩ = false := hn.frozen 1
    have f2 : w1.frozen? ⟨w.heap.size, 2, none⟩ = false := hn.frozen 2
    have f3 : w1.frozen? ⟨w.heap.size, 3, none⟩ = false := hn.frozen 3
    have HX := Lib.hid hx
    clear hx
    go_wp2
    refine bodyPost_ret (v := .agg #[.int .i64 x.kind, .int .i64 x.cell, .int .i64 x.value, .int .i64 x.code]) (by simp [results, Try.results54, go_sem, n0, n1, n2, n3]) rfl ?_
    exact DPost.tail (by first | (simp [World.setCell]; done) | (simp [World.setCell, World.drewN]; done)) (by repeat (first | exact World.grownBy.refl _ _ | refine only_alloc ?_ _ | refine only_drew ?_ | refine only_drewN ?_ _ | refine only_setCell ?_ (.inl rfl) _ | refine only_setCell ?_ (.inr (by simp [World.setCell] <;> omega)) _)) hS hlt hM hg (by rw [lostF, if_pos HC.out]; exact HX.out)
  · have hc' : (s.call != 3) = true := by simp [hc]
    have HC := Lib.hid hc
    clear hc
    go_enter Try.func54, Try.ntmps54
    go_wp2_with fail
    refine (done_any b s S 0 1 _ (hw.alloc _)).mono ?_
    rintro e w1 ⟨x, s', hx, rfl, hM, hg⟩
    have hn : Blk w1 w.heap.size 37 #[.int .i64 0, .int .i64 0, .int .i64 0, .int .i64 0] := Blk.grown (by first | exact Blk.new' (by first | rfl | simp [World.setCell]) | exact Blk.drewN (Blk.new' (by first | rfl | simp [World.setCell])) _ | exact Blk.drew (Blk.new' (by first | rfl | simp [World.setCell]))) hg (by intro hh; injection hh with hh; omega)
    have n0 : w1.cell? ⟨w.heap.size, 0, none⟩ = some (.int .i64 0) := (hn.cell 0).trans rfl
    have n1 : w1.cell? ⟨w.heap.size, 1, none⟩ = some (.int .i64 0) := (hn.cell 1).trans rfl
    have n2 : w1.cell? ⟨w.heap.size, 2, none⟩ = some (.int .i64 0) := (hn.cell 2).trans rfl
    have n3 : w1.cell? ⟨w.heap.size, 3, none⟩ = some (.int .i64 0) := (hn.cell 3).trans rfl
    have f0 : w1.frozen? ⟨w.heap.size, 0, none⟩ = false := hn.frozen 0
    have f1 : w1.frozen? ⟨w.heap.size, 1, none⟩ = false := hn.frozen 1
    have f2 : w1.frozen? ⟨w.heap.size, 2, none⟩ = false := hn.frozen 2
    have f3 : w1.frozen? ⟨w.heap.size, 3, none⟩ = false := hn.frozen 3
    have HX := Lib.hid hx
    clear hx
    go_wp2
    refine bodyPost_ret (v := .agg #[.int .i64 x.kind, .int .i64 x.cell, .int .i64 x.value, .int .i64 x.code]) (by simp [results, Try.results54, go_sem, n0, n1, n2, n3]) rfl ?_
    exact DPost.tail (by first | (simp [World.setCell]; done) | (simp [World.setCell, World.drewN]; done)) (by repeat (first | exact World.grownBy.refl _ _ | refine only_alloc ?_ _ | refine only_drew ?_ | refine only_drewN ?_ _ | refine only_setCell ?_ (.inl rfl) _ | refine only_setCell ?_ (.inr (by simp [World.setCell] <;> omega)) _)) hS hlt hM hg (by rw [lostF, if_neg HC.out]; exact HX.out)
end Go.Proofs.Ytjggcidaolnmbaa
