/- asm.Parse$1: the deferred closure, in its two modes. -/
import Derived.Test.YthghnihlfdoefaaDoorPl
import Derived.Test.YthghnihlfdoefaaDoorOw
import Derived.Defers
import Derived.Recover
namespace Go.Proofs.YthghnihlfdoefaaDoor
open Go.RowKit Go.Joins Go.ChangeShapes Go.WideShapes Go.Deep
set_option linter.unusedVariables false
set_option linter.unusedSimpArgs false
set_option maxRecDepth 100000

set_option maxHeartbeats 2000000 in
theorem catch_idle (a b c : Nat) (w : World) :
    CallsD Tryd.prog 28 #[.pointer (some ⟨a, 0, none⟩), .pointer (some ⟨b, 0, none⟩), .pointer (some ⟨c, 0, none⟩)] .returning w fun e u' w' => e = .returned (.tuple #[]) ∧ u' = .returning ∧ w' = w := by
  refine callsD_of_wpS Tryd.func28 rfl fun c₀ cs hu => ?_
  apply wpS_seq
  apply wpS_region
  simp [wpOpsS, go_sem, recoverD, hu, Tryd.ntmps28, Exit.thenS]
  refine wpS_of_wp ?_
  change Code.wp _ _ _ { tmps := #[.pointer (some ⟨a, 0, none⟩), .pointer (some ⟨b, 0, none⟩), .pointer (some ⟨c, 0, none⟩), .nilIface, undef, undef, .nilIface, undef, undef, undef, undef, undef, undef, undef, undef, undef, undef, undef, undef, undef, undef], defers := [] } w
  go_wp2
  cases c₀
  simp_all [bodyPostS, results, Tryd.results28]
set_option maxHeartbeats 2000000 in
theorem catch_fault (a b c : Nat) (x y : Int) (older : List PanicEntry) (w : World) (s0 : ByteArray) (e0 p0 : Int) (h0 : w.cell? ⟨a, 0, none⟩ = some (.string s0)) (h1 : w.cell? ⟨b, 0, none⟩ = some (.int .i64 e0)) (h2 : w.cell? ⟨c, 0, none⟩ = some (.int .i64 p0))
    (f0 : w.frozen? ⟨a, 0, none⟩ = false) (f1 : w.frozen? ⟨b, 0, none⟩ = false) (f2 : w.frozen? ⟨c, 0, none⟩ = false) (l0 : a < w.heap.size) (l1 : b < w.heap.size) (l2 : c < w.heap.size) (n1 : a ≠ b) (n2 : a ≠ c) (n3 : b ≠ c) :
    CallsD Tryd.prog 28 #[.pointer (some ⟨a, 0, none⟩), .pointer (some ⟨b, 0, none⟩), .pointer (some ⟨c, 0, none⟩)] (.panicking ({ v := faultV x y, recovered := false } :: older)) w fun e u' w' => e = .returned (.tuple #[]) ∧ u' = .panicking ({ v := faultV x y, recovered := true } :: older) ∧
      Frm w w' (fun q => q = a ∨ q = b ∨ q = c) ∧ w'.cell? ⟨a, 0, none⟩ = some (.string ⟨#[]⟩) ∧ w'.cell? ⟨b, 0, none⟩ = some (.int .i64 x) ∧ w'.cell? ⟨c, 0, none⟩ = some (.int .i64 y) := by
  refine callsD_of_wpS Tryd.func28 rfl fun c₀ cs hu => ?_
  apply wpS_seq
  apply wpS_region
  simp [wpOpsS, go_sem, recoverD, hu, Tryd.ntmps28, Exit.thenS]
  refine wpS_of_wp ?_
  change Code.wp _ _ _ { tmps := #[.pointer (some ⟨a, 0, none⟩), .pointer (some ⟨b, 0, none⟩), .pointer (some ⟨c, 0, none⟩), (.iface 59 (.agg #[.int .i64 x, .int .i64 y])), undef, undef, (.iface 59 (.agg #[.int .i64 x, .int .i64 y])), undef, undef, undef, undef, undef, undef, undef, undef, undef, undef, undef, undef, undef, undef], defers := [] } w
  have hta : ∀ W, (Instr.typeAssert (.iface 59 (.agg #[.int .i64 x, .int .i64 y])) 20 59 true).run Tryd.prog W = .ok (.tuple #[.agg #[.int .i64 x, .int .i64 y], .bool true]) W := fun W => by
    first | rfl | kernel_rfl | simp [Instr.typeAssert, go_sem]
  go_upto_region 5 with fail
  obtain ⟨W, hW⟩ : ∃ W, W = w.alloc (.cells #[.int .i64 x, .int .i64 y] 59) := ⟨_, rfl⟩
  obtain ⟨fb, hfb⟩ : ∃ fb, fb = w.heap.size := ⟨_, rfl⟩
  rw [← hW, ← hfb]
  have hb : Blk W fb 59 #[.int .i64 x, .int .i64 y] := by rw [hW, hfb]; exact Blk.new w _ _
  have hBW : Below w.heap.size w W := hW ▸ (Below.refl _ _).alloc (Nat.le_refl _) _
  have y0 : W.cell? ⟨fb, 0, none⟩ = some (.int .i64 x) := (hb.cell 0).trans rfl
  have y1 : W.cell? ⟨fb, 1, none⟩ = some (.int .i64 y) := (hb.cell 1).trans rfl
  have h0 : W.cell? ⟨a, 0, none⟩ = some (.string s0) := (hBW.cell (p := ⟨a, 0, none⟩) l0).trans h0
  have h1 : W.cell? ⟨b, 0, none⟩ = some (.int .i64 e0) := (hBW.cell (p := ⟨b, 0, none⟩) l1).trans h1
  have h2 : W.cell? ⟨c, 0, none⟩ = some (.int .i64 p0) := (hBW.cell (p := ⟨c, 0, none⟩) l2).trans h2
  have f0 : W.frozen? ⟨a, 0, none⟩ = false := (hBW.frozen (p := ⟨a, 0, none⟩) l0).trans f0
  have f1 : W.frozen? ⟨b, 0, none⟩ = false := (hBW.frozen (p := ⟨b, 0, none⟩) l1).trans f1
  have f2 : W.frozen? ⟨c, 0, none⟩ = false := (hBW.frozen (p := ⟨c, 0, none⟩) l2).trans f2
  have l0 : a < W.heap.size := Nat.lt_of_lt_of_le l0 hBW.size
  have l1 : b < W.heap.size := Nat.lt_of_lt_of_le l1 hBW.size
  have l2 : c < W.heap.size := Nat.lt_of_lt_of_le l2 hBW.size
  have m0 : fb ≠ a := by omega
  have m1 : fb ≠ b := by omega
  have m2 : fb ≠ c := by omega
  have lf := hb.lt
  have HB := Lib.hid hBW
  clear hW hfb hBW hta
  go_region
  obtain ⟨Wf, hWf⟩ : ∃ Wf, Wf = (((W.setCell ⟨a, 0, none⟩ (.string ⟨#[]⟩)).setCell ⟨b, 0, none⟩ (.int .i64 x)).setCell ⟨c, 0, none⟩ (.int .i64 y)).drew := ⟨_, rfl⟩
  rw [← hWf]
  have hpost : Frm w Wf (fun q => q = a ∨ q = b ∨ q = c) ∧ Wf.cell? ⟨a, 0, none⟩ = some (.string ⟨#[]⟩) ∧ Wf.cell? ⟨b, 0, none⟩ = some (.int .i64 x) ∧ Wf.cell? ⟨c, 0, none⟩ = some (.int .i64 y) := by
    rw [hWf]
    refine ⟨((((Frm.of_below (S := fun q => q = a ∨ q = b ∨ q = c) HB.out).set a 0 _ (.inl (.inl rfl))).set b 0 _ (.inl (.inr (.inl rfl)))).set c 0 _ (.inl (.inr (.inr rfl)))).drew, ?_, ?_, ?_⟩
    · simp [go_sem, h0, h1, h2, n1, n2, n3, Ne.symm n1, Ne.symm n2, Ne.symm n3]
    · simp [go_sem, h0, h1, h2, n1, n2, n3, Ne.symm n1, Ne.symm n2, Ne.symm n3]
    · simp [go_sem, h0, h1, h2, n1, n2, n3, Ne.symm n1, Ne.symm n2, Ne.symm n3]
  clear hWf h0 h1 h2 f0 f1 f2 y0 y1
  show bodyPostS _ _ _ _ _ _ _ _ _
  cases c₀
  simp_all [bodyPostS, results, Tryd.results28, faultV]
end Go.Proofs.YthghnihlfdoefaaDoor
