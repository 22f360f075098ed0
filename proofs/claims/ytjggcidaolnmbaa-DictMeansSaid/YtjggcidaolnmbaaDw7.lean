/- What the dict machine's Next does. -/
import Derived.Test.YtjggcidaolnmbaaDw5
import Derived.Test.YtjggcidaolnmbaaDw6
namespace Go.Proofs.Ytjggcidaolnmbaa
open Go.RowKit Go.Joins Go.ChangeShapes Go.WideShapes Go.Deep
set_option linter.unusedVariables false
set_option maxRecDepth 100000

theorem fin_any (b : Nat) (s : DS) (S : Nat → Prop) (y : Want) (g : Nat) (x0 : Int) (w : World) (hg : S g) (hG : Blk w g 37 y.cells.toArray) (h : MIs w b s S) :
    Calls Try.prog 53 #[.pointer (some ⟨b, 0, none⟩), .int .i64 x0, .pointer (some ⟨g, 0, none⟩)] w (DPost b S w (y, s)) := by
  have d0 : w.cell? ⟨g, 0, none⟩ = some (.int .i64 y.kind) := (hG.cell 0).trans rfl
  have d1 : w.cell? ⟨g, 1, none⟩ = some (.int .i64 y.cell) := (hG.cell 1).trans rfl
  have d2 : w.cell? ⟨g, 2, none⟩ = some (.int .i64 y.value) := (hG.cell 2).trans rfl
  have d3 : w.cell? ⟨g, 3, none⟩ = some (.int .i64 y.code) := (hG.cell 3).trans rfl
  have hlt := hG.lt
  go_enter Try.func53, Try.ntmps53
  go_wp2
  refine bodyPost_ret (v := .agg #[.int .i64 y.kind, .int .i64 y.cell, .int .i64 y.value, .int .i64 y.code]) (by simp [results, Try.results53, go_sem]) rfl ?_
  exact ⟨y, s, rfl, rfl, (h.alloc _).more (fun _ h => .inl h), only_alloc (World.grownBy.refl _ _) _⟩

theorem next_nil (x0 : Int) (w : World) :
    Calls Try.prog 19 #[.pointer none, .int .i64 x0] w fun e w' => e = .returned (.agg #[.int .i64 0, .int .i64 0, .int .i64 0, .int .i64 0]) ∧ Grown w w' := by
  go_enter Try.func19, Try.ntmps19
  go_wp2
  refine bodyPost_ret (v := .agg #[.int .i64 0, .int .i64 0, .int .i64 0, .int .i64 0]) (by simp [results, Try.results19, go_sem]) rfl ⟨rfl, ?_⟩
  repeat (first | exact Grown.refl _ | apply Grown.drew | apply Grown.alloc)

/-- Between two writes that are to be told. -/
theorem next_todo (b : Nat) (s : DS) (S : Nat → Prop) (x0 : Int) (w : World) (h : MIs w b s S) (y : Want) (l : List Want) (hl : s.todo = y :: l) :
    Calls Try.prog 19 #[.pointer (some ⟨b, 0, none⟩), .int .i64 x0] w (DPost b S w (y, { s with todo := l })) := by
  obtain ⟨tv, nv, hB, hT, hN⟩ := h
  rw [hl] at hT
  rcases hT with ⟨h, _⟩ | ⟨g, off, cap, cs, rfl, hcap, hc4, hG, hSg, hcs⟩
  · cases h
  · have c8 : w.cell? ⟨b, 8, none⟩ = some (.slice (some ⟨g, off, none⟩) (l.length + 1) cap) := (hB.cell 8).trans rfl
    have f8 : w.frozen? ⟨b, 8, none⟩ = false := hB.frozen 8
    have d0 : w.cell? ⟨g, off, none⟩ = some (.int .i64 y.kind) := (hG.cell off).trans (hcs 0 _ rfl)
    have d1 : w.cell? ⟨g, off + 1, none⟩ = some (.int .i64 y.cell) := (hG.cell _).trans (hcs 1 _ rfl)
    have d2 : w.cell? ⟨g, off + 2, none⟩ = some (.int .i64 y.value) := (hG.cell _).trans (hcs 2 _ rfl)
    have d3 : w.cell? ⟨g, off + 3, none⟩ = some (.int .i64 y.code) := (hG.cell _).trans (hcs 3 _ rfl)
    have hlt := hB.lt
    have hgt := hG.lt
    have hc : l.length + 1 ≤ cap := hcap
    have HL := Lib.hid hl
    clear hl
    go_enter Try.func19, Try.ntmps19
    go_wp2
    all_goals
      refine bodyPost_ret (v := .agg #[.int .i64 y.kind, .int .i64 y.cell, .int .i64 y.value, .int .i64 y.code]) (by simp [results, Try.results19, go_sem]) rfl ?_
    · have hl0 : l = [] := List.eq_nil_of_length_eq_zero (by omega)
      subst hl0
      exact ⟨y, _, rfl, rfl, ⟨_, nv, ((hB.set_ 8 _).alloc _).alloc _, .inl ⟨rfl, _, _, rfl⟩, ((hN.set_ hB 8 _ (fun _ h => h)).alloc _ (fun _ h => h)).alloc _ (fun _ h => .inl h)⟩, by repeat (first | exact World.grownBy.refl _ _ | refine only_alloc ?_ _ | refine only_drew ?_ | refine only_drewN ?_ _ | refine only_setCell ?_ (.inl rfl) _ | refine only_setCell ?_ (.inr (by simp [World.setCell] <;> omega)) _)⟩
    · refine ⟨y, _, rfl, rfl, ⟨_, nv, ((hB.set_ 8 _).alloc _).alloc _, .inr ⟨g, off + 4, cap - 1, cs, rfl, by show l.length ≤ _; omega, by omega, ((hG.far (p := ⟨b, 8, none⟩) (hG.ne_ hB (by decide)) _).alloc _).alloc _, .inl hSg, ?_⟩, ((hN.set_ hB 8 _ (fun _ h => h)).alloc _ (fun _ h => h)).alloc _ (fun _ h => .inl h)⟩, by repeat (first | exact World.grownBy.refl _ _ | refine only_alloc ?_ _ | refine only_drew ?_ | refine only_drewN ?_ _ | refine only_setCell ?_ (.inl rfl) _ | refine only_setCell ?_ (.inr (by simp [World.setCell] <;> omega)) _)⟩
      intro i u hu
      have := hcs (4 + i) u (by rw [cellsOf_cons, List.getElem?_append_right (by simp [Want.cells])]; simpa [Want.cells] using hu)
      rw [← this]
      congr 1
      omega

set_option maxHeartbeats 1000000 in
/-- What Next does, whatever stands there. -/
theorem next_any (b : Nat) (s : DS) (S : Nat → Prop) (x0 : Int) (w : World) (hok : s.Ok) (hlook : (s.thn matches .state) ∨ (s.thn matches .key) → s.seen < s.most) (hS : ∀ g, S g → g < w.heap.size) (h : MIs w b s S) :
    Calls Try.prog 19 #[.pointer (some ⟨b, 0, none⟩), .int .i64 x0] w (DPost b S w (nextF s x0)) := by
  cases htd : s.todo with
  | cons y l =>
    have := next_todo b s S x0 w h y l htd
    simpa [nextF, htd] using this
  | nil =>
    have hr : nextF s x0 = thenF s x0 := by simp [nextF, htd]
    rw [hr]
    clear hr
    have hw := h
    obtain ⟨tv, nv, hB, hT, hN⟩ := h
    rw [htd] at hT
    have hT' : ∃ A c, tv = .slice A 0 c := by
      rcases hT with ⟨_, h⟩ | ⟨g, off, cap, cs, h, _⟩
      · exact h
      · exact ⟨_, _, h⟩
    obtain ⟨A, c, rfl⟩ := hT'
    have c8 : w.cell? ⟨b, 8, none⟩ = some (.slice A 0 c) := (hB.cell 8).trans rfl
    have c9 : w.cell? ⟨b, 9, none⟩ = some nv := (hB.cell 9).trans rfl
    have hlt := hB.lt
    have hSw : ∀ o : Obj, ∀ g, S g → g < (w.alloc o).heap.size := fun o g hg => by have := hS g hg; simp; omega
    have HT := Lib.hid htd
    clear htd hT
    cases ht : s.thn with
    | begin =>
      rw [ht] at hN
      have hN' : nv = _ := hN
      subst hN'
      have HR : Hid (thenF s x0 = beginF s) := by show thenF s x0 = _; simp [thenF, ht]
      
      clear ht hN
      go_enter Try.func19, Try.ntmps19
      go_wp2_with fail
      refine (begin_any b s S x0 _ hok (hSw _) (hw.alloc _)).mono ?_
      rintro e w1 ⟨x, s', hx, rfl, hM, hg⟩
      have hn : Blk w1 w.heap.size 37 #[.int .i64 0, .int .i64 0, .int .i64 0, .int .i64 0] := Blk.grown (by first | exact Blk.new' (by first | rfl | simp [World.setCell]) | exact Blk.drewN (Blk.new' (by first | rfl | simp [World.setCell])) _ | exact Blk.drew (Blk.new' (by first | rfl | simp [World.setCell]))) hg (by intro hh; injection hh with hh; omega)
      have n0 : w1.cell? ⟨w.heap.size, 0, none⟩ = some (.int .i64 0) := (hn.cell 0).trans rfl
      have n1 : w1.cell? ⟨w.heap.size, 1, none⟩ = some (.int .i64 0) := (hn.cell 1).trans rfl
      have n2 : w1.cell? ⟨w.heap.size, 2, none⟩ = some (.int .i64 0) := (hn.cell 2).trans rfl
      have n3 : w1.cell? ⟨w.heap.size, 3, none⟩ = some (.int .i64 0) := (hn.cell 3).trans rfl
      have f0 : w1.frozen? ⟨w.heap.size, 0, none⟩ = false := hn.frozen 0
      have f1 : w1.frozen? ⟨w.heap.size, 1, none⟩ = false := hn.frozen 1
      have f2 : w1.frozen? ⟨w.heap.size, 2, none⟩ = false := hn.frozen 2
      have f3 : w1.frozen? ⟨w.heap.size, 3, none⟩ = false := hn.frozen 3
      have HX := Lib.hid hx
      clear hx
      go_wp2
      refine bodyPost_ret (v := .agg #[.int .i64 x.kind, .int .i64 x.cell, .int .i64 x.value, .int .i64 x.code]) (by simp [results, Try.results19, go_sem, n0, n1, n2, n3]) rfl ?_
      exact DPost.tail (by first | (simp [World.setCell]; done) | (simp [World.setCell, World.drewN]; done)) (by repeat (first | exact World.grownBy.refl _ _ | refine only_alloc ?_ _ | refine only_drew ?_ | refine only_drewN ?_ _ | refine only_setCell ?_ (.inl rfl) _ | refine only_setCell ?_ (.inr (by simp [World.setCell] <;> omega)) _)) hS hlt hM hg (by rw [HR.out]; exact HX.out)
    | len =>
      rw [ht] at hN
      have hN' : nv = _ := hN
      subst hN'
      have HR : Hid (thenF s x0 = doneF s x0 0) := by show thenF s x0 = _; simp [thenF, ht]
      
      clear ht hN
      go_enter Try.func19, Try.ntmps19
      go_wp2_with fail
      refine (len_any b s S x0 _ (hSw _) (hw.alloc _)).mono ?_
      rintro e w1 ⟨x, s', hx, rfl, hM, hg⟩
      have hn : Blk w1 w.heap.size 37 #[.int .i64 0, .int .i64 0, .int .i64 0, .int .i64 0] := Blk.grown (by first | exact Blk.new' (by first | rfl | simp [World.setCell]) | exact Blk.drewN (Blk.new' (by first | rfl | simp [World.setCell])) _ | exact Blk.drew (Blk.new' (by first | rfl | simp [World.setCell]))) hg (by intro hh; injection hh with hh; omega)
      have n0 : w1.cell? ⟨w.heap.size, 0, none⟩ = some (.int .i64 0) := (hn.cell 0).trans rfl
      have n1 : w1.cell? ⟨w.heap.size, 1, none⟩ = some (.int .i64 0) := (hn.cell 1).trans rfl
      have n2 : w1.cell? ⟨w.heap.size, 2, none⟩ = some (.int .i64 0) := (hn.cell 2).trans rfl
      have n3 : w1.cell? ⟨w.heap.size, 3, none⟩ = some (.int .i64 0) := (hn.cell 3).trans rfl
      have f0 : w1.frozen? ⟨w.heap.size, 0, none⟩ = false := hn.frozen 0
      have f1 : w1.frozen? ⟨w.heap.size, 1, none⟩ = false := hn.frozen 1
      have f2 : w1.frozen? ⟨w.heap.size, 2, none⟩ = false := hn.frozen 2
      have f3 : w1.frozen? ⟨w.heap.size, 3, none⟩ = false := hn.frozen 3
      have HX := Lib.hid hx
      clear hx
      go_wp2
      refine bodyPost_ret (v := .agg #[.int .i64 x.kind, .int .i64 x.cell, .int .i64 x.value, .int .i64 x.code]) (by simp [results, Try.results19, go_sem, n0, n1, n2, n3]) rfl ?_
      exact DPost.tail (by first | (simp [World.setCell]; done) | (simp [World.setCell, World.drewN]; done)) (by repeat (first | exact World.grownBy.refl _ _ | refine only_alloc ?_ _ | refine only_drew ?_ | refine only_drewN ?_ _ | refine only_setCell ?_ (.inl rfl) _ | refine only_setCell ?_ (.inr (by simp [World.setCell] <;> omega)) _)) hS hlt hM hg (by rw [HR.out]; exact HX.out)
    | state =>
      rw [ht] at hN
      have hN' : nv = _ := hN
      subst hN'
      have HR : Hid (thenF s x0 = stateF s x0) := by show thenF s x0 = _; simp [thenF, ht]
      have hlk : s.seen < s.most := hlook (.inl (by rw [ht]))
      clear ht hN
      go_enter Try.func19, Try.ntmps19
      go_wp2_with fail
      refine (state_any b s S x0 _ hok hlk (hSw _) (hw.alloc _)).mono ?_
      rintro e w1 ⟨x, s', hx, rfl, hM, hg⟩
      have hn : Blk w1 w.heap.size 37 #[.int .i64 0, .int .i64 0, .int .i64 0, .int .i64 0] := Blk.grown (by first | exact Blk.new' (by first | rfl | simp [World.setCell]) | exact Blk.drewN (Blk.new' (by first | rfl | simp [World.setCell])) _ | exact Blk.drew (Blk.new' (by first | rfl | simp [World.setCell]))) hg (by intro hh; injection hh with hh; omega)
      have n0 : w1.cell? ⟨w.heap.size, 0, none⟩ = some (.int .i64 0) := (hn.cell 0).trans rfl
      have n1 : w1.cell? ⟨w.heap.size, 1, none⟩ = some (.int .i64 0) := (hn.cell 1).trans rfl
      have n2 : w1.cell? ⟨w.heap.size, 2, none⟩ = some (.int .i64 0) := (hn.cell 2).trans rfl
      have n3 : w1.cell? ⟨w.heap.size, 3, none⟩ = some (.int .i64 0) := (hn.cell 3).trans rfl
      have f0 : w1.frozen? ⟨w.heap.size, 0, none⟩ = false := hn.frozen 0
      have f1 : w1.frozen? ⟨w.heap.size, 1, none⟩ = false := hn.frozen 1
      have f2 : w1.frozen? ⟨w.heap.size, 2, none⟩ = false := hn.frozen 2
      have f3 : w1.frozen? ⟨w.heap.size, 3, none⟩ = false := hn.frozen 3
      have HX := Lib.hid hx
      clear hx
      go_wp2
      refine bodyPost_ret (v := .agg #[.int .i64 x.kind, .int .i64 x.cell, .int .i64 x.value, .int .i64 x.code]) (by simp [results, Try.results19, go_sem, n0, n1, n2, n3]) rfl ?_
      exact DPost.tail (by first | (simp [World.setCell]; done) | (simp [World.setCell, World.drewN]; done)) (by repeat (first | exact World.grownBy.refl _ _ | refine only_alloc ?_ _ | refine only_drew ?_ | refine only_drewN ?_ _ | refine only_setCell ?_ (.inl rfl) _ | refine only_setCell ?_ (.inr (by simp [World.setCell] <;> omega)) _)) hS hlt hM hg (by rw [HR.out]; exact HX.out)
    | key =>
      rw [ht] at hN
      have hN' : nv = _ := hN
      subst hN'
      have HR : Hid (thenF s x0 = keyF s x0) := by show thenF s x0 = _; simp [thenF, ht]
      have hlk : s.seen < s.most := hlook (.inr (by rw [ht]))
      clear ht hN
      go_enter Try.func19, Try.ntmps19
      go_wp2_with fail
      refine (key_any b s S x0 _ hok hlk (hSw _) (hw.alloc _)).mono ?_
      rintro e w1 ⟨x, s', hx, rfl, hM, hg⟩
      have hn : Blk w1 w.heap.size 37 #[.int .i64 0, .int .i64 0, .int .i64 0, .int .i64 0] := Blk.grown (by first | exact Blk.new' (by first | rfl | simp [World.setCell]) | exact Blk.drewN (Blk.new' (by first | rfl | simp [World.setCell])) _ | exact Blk.drew (Blk.new' (by first | rfl | simp [World.setCell]))) hg (by intro hh; injection hh with hh; omega)
      have n0 : w1.cell? ⟨w.heap.size, 0, none⟩ = some (.int .i64 0) := (hn.cell 0).trans rfl
      have n1 : w1.cell? ⟨w.heap.size, 1, none⟩ = some (.int .i64 0) := (hn.cell 1).trans rfl
      have n2 : w1.cell? ⟨w.heap.size, 2, none⟩ = some (.int .i64 0) := (hn.cell 2).trans rfl
      have n3 : w1.cell? ⟨w.heap.size, 3, none⟩ = some (.int .i64 0) := (hn.cell 3).trans rfl
      have f0 : w1.frozen? ⟨w.heap.size, 0, none⟩ = false := hn.frozen 0
      have f1 : w1.frozen? ⟨w.heap.size, 1, none⟩ = false := hn.frozen 1
      have f2 : w1.frozen? ⟨w.heap.size, 2, none⟩ = false := hn.frozen 2
      have f3 : w1.frozen? ⟨w.heap.size, 3, none⟩ = false := hn.frozen 3
      have HX := Lib.hid hx
      clear hx
      go_wp2
      refine bodyPost_ret (v := .agg #[.int .i64 x.kind, .int .i64 x.cell, .int .i64 x.value, .int .i64 x.code]) (by simp [results, Try.results19, go_sem, n0, n1, n2, n3]) rfl ?_
      exact DPost.tail (by first | (simp [World.setCell]; done) | (simp [World.setCell, World.drewN]; done)) (by repeat (first | exact World.grownBy.refl _ _ | refine only_alloc ?_ _ | refine only_drew ?_ | refine only_drewN ?_ _ | refine only_setCell ?_ (.inl rfl) _ | refine only_setCell ?_ (.inr (by simp [World.setCell] <;> omega)) _)) hS hlt hM hg (by rw [HR.out]; exact HX.out)
    | got =>
      rw [ht] at hN
      have hN' : nv = _ := hN
      subst hN'
      have HR : Hid (thenF s x0 = doneF s x0 0) := by show thenF s x0 = _; simp [thenF, ht]
      
      clear ht hN
      go_enter Try.func19, Try.ntmps19
      go_wp2_with fail
      refine (got_any b s S x0 _ (hSw _) (hw.alloc _)).mono ?_
      rintro e w1 ⟨x, s', hx, rfl, hM, hg⟩
      have hn : Blk w1 w.heap.size 37 #[.int .i64 0, .int .i64 0, .int .i64 0, .int .i64 0] := Blk.grown (by first | exact Blk.new' (by first | rfl | simp [World.setCell]) | exact Blk.drewN (Blk.new' (by first | rfl | simp [World.setCell])) _ | exact Blk.drew (Blk.new' (by first | rfl | simp [World.setCell]))) hg (by intro hh; injection hh with hh; omega)
      have n0 : w1.cell? ⟨w.heap.size, 0, none⟩ = some (.int .i64 0) := (hn.cell 0).trans rfl
      have n1 : w1.cell? ⟨w.heap.size, 1, none⟩ = some (.int .i64 0) := (hn.cell 1).trans rfl
      have n2 : w1.cell? ⟨w.heap.size, 2, none⟩ = some (.int .i64 0) := (hn.cell 2).trans rfl
      have n3 : w1.cell? ⟨w.heap.size, 3, none⟩ = some (.int .i64 0) := (hn.cell 3).trans rfl
      have f0 : w1.frozen? ⟨w.heap.size, 0, none⟩ = false := hn.frozen 0
      have f1 : w1.frozen? ⟨w.heap.size, 1, none⟩ = false := hn.frozen 1
      have f2 : w1.frozen? ⟨w.heap.size, 2, none⟩ = false := hn.frozen 2
      have f3 : w1.frozen? ⟨w.heap.size, 3, none⟩ = false := hn.frozen 3
      have HX := Lib.hid hx
      clear hx
      go_wp2
      refine bodyPost_ret (v := .agg #[.int .i64 x.kind, .int .i64 x.cell, .int .i64 x.value, .int .i64 x.code]) (by simp [results, Try.results19, go_sem, n0, n1, n2, n3]) rfl ?_
      exact DPost.tail (by first | (simp [World.setCell]; done) | (simp [World.setCell, World.drewN]; done)) (by repeat (first | exact World.grownBy.refl _ _ | refine only_alloc ?_ _ | refine only_drew ?_ | refine only_drewN ?_ _ | refine only_setCell ?_ (.inl rfl) _ | refine only_setCell ?_ (.inr (by simp [World.setCell] <;> omega)) _)) hS hlt hM hg (by rw [HR.out]; exact HX.out)
    | fine =>
      rw [ht] at hN
      have hN' : nv = _ := hN
      subst hN'
      have HR : Hid (thenF s x0 = doneF s 0 0) := by show thenF s x0 = _; simp [thenF, ht]
      
      clear ht hN
      go_enter Try.func19, Try.ntmps19
      go_wp2_with fail
      refine (fine_any b s S x0 _ (hSw _) (hw.alloc _)).mono ?_
      rintro e w1 ⟨x, s', hx, rfl, hM, hg⟩
      have hn : Blk w1 w.heap.size 37 #[.int .i64 0, .int .i64 0, .int .i64 0, .int .i64 0] := Blk.grown (by first | exact Blk.new' (by first | rfl | simp [World.setCell]) | exact Blk.drewN (Blk.new' (by first | rfl | simp [World.setCell])) _ | exact Blk.drew (Blk.new' (by first | rfl | simp [World.setCell]))) hg (by intro hh; injection hh with hh; omega)
      have n0 : w1.cell? ⟨w.heap.size, 0, none⟩ = some (.int .i64 0) := (hn.cell 0).trans rfl
      have n1 : w1.cell? ⟨w.heap.size, 1, none⟩ = some (.int .i64 0) := (hn.cell 1).trans rfl
      have n2 : w1.cell? ⟨w.heap.size, 2, none⟩ = some (.int .i64 0) := (hn.cell 2).trans rfl
      have n3 : w1.cell? ⟨w.heap.size, 3, none⟩ = some (.int .i64 0) := (hn.cell 3).trans rfl
      have f0 : w1.frozen? ⟨w.heap.size, 0, none⟩ = false := hn.frozen 0
      have f1 : w1.frozen? ⟨w.heap.size, 1, none⟩ = false := hn.frozen 1
      have f2 : w1.frozen? ⟨w.heap.size, 2, none⟩ = false := hn.frozen 2
      have f3 : w1.frozen? ⟨w.heap.size, 3, none⟩ = false := hn.frozen 3
      have HX := Lib.hid hx
      clear hx
      go_wp2
      refine bodyPost_ret (v := .agg #[.int .i64 x.kind, .int .i64 x.cell, .int .i64 x.value, .int .i64 x.code]) (by simp [results, Try.results19, go_sem, n0, n1, n2, n3]) rfl ?_
      exact DPost.tail (by first | (simp [World.setCell]; done) | (simp [World.setCell, World.drewN]; done)) (by repeat (first | exact World.grownBy.refl _ _ | refine only_alloc ?_ _ | refine only_drew ?_ | refine only_drewN ?_ _ | refine only_setCell ?_ (.inl rfl) _ | refine only_setCell ?_ (.inr (by simp [World.setCell] <;> omega)) _)) hS hlt hM hg (by rw [HR.out]; exact HX.out)
    | counts =>
      rw [ht] at hN
      have hN' : nv = _ := hN
      subst hN'
      have HR : Hid (thenF s x0 = readF s 0 .countsK) := by show thenF s x0 = _; simp [thenF, ht]
      
      clear ht hN
      go_enter Try.func19, Try.ntmps19
      go_wp2_with fail
      refine (counts_any b s S x0 _ (hSw _) (hw.alloc _)).mono ?_
      rintro e w1 ⟨x, s', hx, rfl, hM, hg⟩
      have hn : Blk w1 w.heap.size 37 #[.int .i64 0, .int .i64 0, .int .i64 0, .int .i64 0] := Blk.grown (by first | exact Blk.new' (by first | rfl | simp [World.setCell]) | exact Blk.drewN (Blk.new' (by first | rfl | simp [World.setCell])) _ | exact Blk.drew (Blk.new' (by first | rfl | simp [World.setCell]))) hg (by intro hh; injection hh with hh; omega)
      have n0 : w1.cell? ⟨w.heap.size, 0, none⟩ = some (.int .i64 0) := (hn.cell 0).trans rfl
      have n1 : w1.cell? ⟨w.heap.size, 1, none⟩ = some (.int .i64 0) := (hn.cell 1).trans rfl
      have n2 : w1.cell? ⟨w.heap.size, 2, none⟩ = some (.int .i64 0) := (hn.cell 2).trans rfl
      have n3 : w1.cell? ⟨w.heap.size, 3, none⟩ = some (.int .i64 0) := (hn.cell 3).trans rfl
      have f0 : w1.frozen? ⟨w.heap.size, 0, none⟩ = false := hn.frozen 0
      have f1 : w1.frozen? ⟨w.heap.size, 1, none⟩ = false := hn.frozen 1
      have f2 : w1.frozen? ⟨w.heap.size, 2, none⟩ = false := hn.frozen 2
      have f3 : w1.frozen? ⟨w.heap.size, 3, none⟩ = false := hn.frozen 3
      have HX := Lib.hid hx
      clear hx
      go_wp2
      refine bodyPost_ret (v := .agg #[.int .i64 x.kind, .int .i64 x.cell, .int .i64 x.value, .int .i64 x.code]) (by simp [results, Try.results19, go_sem, n0, n1, n2, n3]) rfl ?_
      exact DPost.tail (by first | (simp [World.setCell]; done) | (simp [World.setCell, World.drewN]; done)) (by repeat (first | exact World.grownBy.refl _ _ | refine only_alloc ?_ _ | refine only_drew ?_ | refine only_drewN ?_ _ | refine only_setCell ?_ (.inl rfl) _ | refine only_setCell ?_ (.inr (by simp [World.setCell] <;> omega)) _)) hS hlt hM hg (by rw [HR.out]; exact HX.out)
    | countsK =>
      rw [ht] at hN
      have hN' : nv = _ := hN
      subst hN'
      have HR : Hid (thenF s x0 = writesF { s with thn := .fine } ⟨0, 0, wrap64 (x0 - 1), 0⟩ []) := by show thenF s x0 = _; simp [thenF, ht]
      
      clear ht hN
      go_enter Try.func19, Try.ntmps19
      go_wp2_with fail
      refine (countsK_any b s S x0 _ (hSw _) (hw.alloc _)).mono ?_
      rintro e w1 ⟨x, s', hx, rfl, hM, hg⟩
      have hn : Blk w1 w.heap.size 37 #[.int .i64 0, .int .i64 0, .int .i64 0, .int .i64 0] := Blk.grown (by first | exact Blk.new' (by first | rfl | simp [World.setCell]) | exact Blk.drewN (Blk.new' (by first | rfl | simp [World.setCell])) _ | exact Blk.drew (Blk.new' (by first | rfl | simp [World.setCell]))) hg (by intro hh; injection hh with hh; omega)
      have n0 : w1.cell? ⟨w.heap.size, 0, none⟩ = some (.int .i64 0) := (hn.cell 0).trans rfl
      have n1 : w1.cell? ⟨w.heap.size, 1, none⟩ = some (.int .i64 0) := (hn.cell 1).trans rfl
      have n2 : w1.cell? ⟨w.heap.size, 2, none⟩ = some (.int .i64 0) := (hn.cell 2).trans rfl
      have n3 : w1.cell? ⟨w.heap.size, 3, none⟩ = some (.int .i64 0) := (hn.cell 3).trans rfl
      have f0 : w1.frozen? ⟨w.heap.size, 0, none⟩ = false := hn.frozen 0
      have f1 : w1.frozen? ⟨w.heap.size, 1, none⟩ = false := hn.frozen 1
      have f2 : w1.frozen? ⟨w.heap.size, 2, none⟩ = false := hn.frozen 2
      have f3 : w1.frozen? ⟨w.heap.size, 3, none⟩ = false := hn.frozen 3
      have HX := Lib.hid hx
      clear hx
      go_wp2
      refine bodyPost_ret (v := .agg #[.int .i64 x.kind, .int .i64 x.cell, .int .i64 x.value, .int .i64 x.code]) (by simp [results, Try.results19, go_sem, n0, n1, n2, n3]) rfl ?_
      exact DPost.tail (by first | (simp [World.setCell]; done) | (simp [World.setCell, World.drewN]; done)) (by repeat (first | exact World.grownBy.refl _ _ | refine only_alloc ?_ _ | refine only_drew ?_ | refine only_drewN ?_ _ | refine only_setCell ?_ (.inl rfl) _ | refine only_setCell ?_ (.inr (by simp [World.setCell] <;> omega)) _)) hS hlt hM hg (by rw [HR.out]; exact HX.out)
    | lostK =>
      rw [ht] at hN
      have hN' : nv = _ := hN
      subst hN'
      have HR : Hid (thenF s x0 = lostKF s x0) := by show thenF s x0 = _; simp [thenF, ht]
      
      clear ht hN
      go_enter Try.func19, Try.ntmps19
      go_wp2_with fail
      refine (lostK_any b s S x0 _ hok (hSw _) (hw.alloc _)).mono ?_
      rintro e w1 ⟨x, s', hx, rfl, hM, hg⟩
      have hn : Blk w1 w.heap.size 37 #[.int .i64 0, .int .i64 0, .int .i64 0, .int .i64 0] := Blk.grown (by first | exact Blk.new' (by first | rfl | simp [World.setCell]) | exact Blk.drewN (Blk.new' (by first | rfl | simp [World.setCell])) _ | exact Blk.drew (Blk.new' (by first | rfl | simp [World.setCell]))) hg (by intro hh; injection hh with hh; omega)
      have n0 : w1.cell? ⟨w.heap.size, 0, none⟩ = some (.int .i64 0) := (hn.cell 0).trans rfl
      have n1 : w1.cell? ⟨w.heap.size, 1, none⟩ = some (.int .i64 0) := (hn.cell 1).trans rfl
      have n2 : w1.cell? ⟨w.heap.size, 2, none⟩ = some (.int .i64 0) := (hn.cell 2).trans rfl
      have n3 : w1.cell? ⟨w.heap.size, 3, none⟩ = some (.int .i64 0) := (hn.cell 3).trans rfl
      have f0 : w1.frozen? ⟨w.heap.size, 0, none⟩ = false := hn.frozen 0
      have f1 : w1.frozen? ⟨w.heap.size, 1, none⟩ = false := hn.frozen 1
      have f2 : w1.frozen? ⟨w.heap.size, 2, none⟩ = false := hn.frozen 2
      have f3 : w1.frozen? ⟨w.heap.size, 3, none⟩ = false := hn.frozen 3
      have HX := Lib.hid hx
      clear hx
      go_wp2
      refine bodyPost_ret (v := .agg #[.int .i64 x.kind, .int .i64 x.cell, .int .i64 x.value, .int .i64 x.code]) (by simp [results, Try.results19, go_sem, n0, n1, n2, n3]) rfl ?_
      exact DPost.tail (by first | (simp [World.setCell]; done) | (simp [World.setCell, World.drewN]; done)) (by repeat (first | exact World.grownBy.refl _ _ | refine only_alloc ?_ _ | refine only_drew ?_ | refine only_drewN ?_ _ | refine only_setCell ?_ (.inl rfl) _ | refine only_setCell ?_ (.inr (by simp [World.setCell] <;> omega)) _)) hS hlt hM hg (by rw [HR.out]; exact HX.out)
    | fin y =>
      rw [ht] at hN
      obtain ⟨g, hN', hSg, hG⟩ := hN
      subst hN'
      have HR : Hid (thenF s x0 = (y, s)) := by show thenF s x0 = _; simp [thenF, ht]
      clear ht
      go_enter Try.func19, Try.ntmps19
      go_wp2_with fail
      refine (fin_any b s S y g x0 _ hSg (hG.alloc _) (hw.alloc _)).mono ?_
      rintro e w1 ⟨x, s', hx, rfl, hM, hg⟩
      have hn : Blk w1 w.heap.size 37 #[.int .i64 0, .int .i64 0, .int .i64 0, .int .i64 0] := Blk.grown (by first | exact Blk.new' (by first | rfl | simp [World.setCell]) | exact Blk.drewN (Blk.new' (by first | rfl | simp [World.setCell])) _ | exact Blk.drew (Blk.new' (by first | rfl | simp [World.setCell]))) hg (by intro hh; injection hh with hh; omega)
      have n0 : w1.cell? ⟨w.heap.size, 0, none⟩ = some (.int .i64 0) := (hn.cell 0).trans rfl
      have n1 : w1.cell? ⟨w.heap.size, 1, none⟩ = some (.int .i64 0) := (hn.cell 1).trans rfl
      have n2 : w1.cell? ⟨w.heap.size, 2, none⟩ = some (.int .i64 0) := (hn.cell 2).trans rfl
      have n3 : w1.cell? ⟨w.heap.size, 3, none⟩ = some (.int .i64 0) := (hn.cell 3).trans rfl
      have f0 : w1.frozen? ⟨w.heap.size, 0, none⟩ = false := hn.frozen 0
      have f1 : w1.frozen? ⟨w.heap.size, 1, none⟩ = false := hn.frozen 1
      have f2 : w1.frozen? ⟨w.heap.size, 2, none⟩ = false := hn.frozen 2
      have f3 : w1.frozen? ⟨w.heap.size, 3, none⟩ = false := hn.frozen 3
      have HX := Lib.hid hx
      clear hx
      go_wp2
      refine bodyPost_ret (v := .agg #[.int .i64 x.kind, .int .i64 x.cell, .int .i64 x.value, .int .i64 x.code]) (by simp [results, Try.results19, go_sem, n0, n1, n2, n3]) rfl ?_
      exact DPost.tail (by first | (simp [World.setCell]; done) | (simp [World.setCell, World.drewN]; done)) (by repeat (first | exact World.grownBy.refl _ _ | refine only_alloc ?_ _ | refine only_drew ?_ | refine only_drewN ?_ _ | refine only_setCell ?_ (.inl rfl) _ | refine only_setCell ?_ (.inr (by simp [World.setCell] <;> omega)) _)) hS hlt hM hg (by rw [HR.out]; exact HX.out)
end Go.Proofs.Ytjggcidaolnmbaa
