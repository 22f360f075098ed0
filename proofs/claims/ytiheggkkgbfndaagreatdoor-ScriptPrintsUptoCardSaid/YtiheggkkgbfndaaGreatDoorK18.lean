/- asm.Parse$1: the deferred closure, in its two modes. -/
import Derived.Test.YtiheggkkgbfndaaGreatDoorK08
import Derived.Test.YtiheggkkgbfndaaGreatDoorK01
import Derived.Defers
import Derived.Recover
import Derived.Test.YtiheggkkgbfndaaGreatDoorK02
import Derived.Lib.Split
import Derived.Test.YtiheggkkgbfndaaGreatDoorK05
namespace Go.Proofs.YtiheggkkgbfndaaGreatDoor
open Go.RowKit Go.Joins Go.ChangeShapes Go.WideShapes Go.Deep
set_option linter.unusedVariables false
set_option linter.unusedSimpArgs false
set_option maxRecDepth 100000
set_option maxHeartbeats 2000000 in
theorem catch_idle (a b c : Nat) (w : World) :
  CallsD Tryz.prog 136 #[.pointer (some ⟨a, 0, none⟩), .pointer (some ⟨b, 0, none⟩), .pointer (some ⟨c, 0, none⟩)] .returning w fun e u' w' => e = .returned (.tuple #[]) ∧ u' = .returning ∧ w' = w := by
 refine callsD_of_wpS Tryz.func136 rfl fun c₀ cs hu => ?_
 apply wpS_seq
 apply wpS_region
 simp [wpOpsS, go_sem, recoverD, hu, Tryz.ntmps136, Exit.thenS]
 refine wpS_of_wp ?_
 change Code.wp _ _ _ { tmps := #[.pointer (some ⟨a, 0, none⟩), .pointer (some ⟨b, 0, none⟩), .pointer (some ⟨c, 0, none⟩), .nilIface, undef, undef, .nilIface, undef, undef, undef, undef, undef, undef, undef, undef, undef, undef, undef, undef, undef, undef], defers := [] } w
 go_wp2
 cases c₀
 simp_all [bodyPostS, results, Tryz.results136]
set_option maxHeartbeats 2000000 in
theorem catch_fault (a b c : Nat) (x y : Int) (older : List PanicEntry) (w : World) (s0 : ByteArray) (e0 p0 : Int) (h0 : w.cell? ⟨a, 0, none⟩ = some (.string s0)) (h1 : w.cell? ⟨b, 0, none⟩ = some (.int .i64 e0)) (h2 : w.cell? ⟨c, 0, none⟩ = some (.int .i64 p0))
  (f0 : w.frozen? ⟨a, 0, none⟩ = false) (f1 : w.frozen? ⟨b, 0, none⟩ = false) (f2 : w.frozen? ⟨c, 0, none⟩ = false) (l0 : a < w.heap.size) (l1 : b < w.heap.size) (l2 : c < w.heap.size) (n1 : a ≠ b) (n2 : a ≠ c) (n3 : b ≠ c) :
  CallsD Tryz.prog 136 #[.pointer (some ⟨a, 0, none⟩), .pointer (some ⟨b, 0, none⟩), .pointer (some ⟨c, 0, none⟩)] (.panicking ({ v := faultV x y, recovered := false } :: older)) w fun e u' w' => e = .returned (.tuple #[]) ∧ u' = .panicking ({ v := faultV x y, recovered := true } :: older) ∧
   Frm w w' (fun q => q = a ∨ q = b ∨ q = c) ∧ w'.cell? ⟨a, 0, none⟩ = some (.string ⟨#[]⟩) ∧ w'.cell? ⟨b, 0, none⟩ = some (.int .i64 x) ∧ w'.cell? ⟨c, 0, none⟩ = some (.int .i64 y) := by
 refine callsD_of_wpS Tryz.func136 rfl fun c₀ cs hu => ?_
 apply wpS_seq
 apply wpS_region
 simp [wpOpsS, go_sem, recoverD, hu, Tryz.ntmps136, Exit.thenS]
 refine wpS_of_wp ?_
 change Code.wp _ _ _ { tmps := #[.pointer (some ⟨a, 0, none⟩), .pointer (some ⟨b, 0, none⟩), .pointer (some ⟨c, 0, none⟩), (.iface 191 (.agg #[.int .i64 x, .int .i64 y])), undef, undef, (.iface 191 (.agg #[.int .i64 x, .int .i64 y])), undef, undef, undef, undef, undef, undef, undef, undef, undef, undef, undef, undef, undef, undef], defers := [] } w
 have hta : ∀ W, (Instr.typeAssert (.iface 191 (.agg #[.int .i64 x, .int .i64 y])) 20 191 true).run Tryz.prog W = .ok (.tuple #[.agg #[.int .i64 x, .int .i64 y], .bool true]) W := fun W => by
  first | rfl | kernel_rfl | simp [Instr.typeAssert, go_sem]
 go_upto_region 5 with fail
 obtain ⟨W, hW⟩ : ∃ W, W = w.alloc (.cells #[.int .i64 x, .int .i64 y] 191) := ⟨_, rfl⟩
 obtain ⟨fb, hfb⟩ : ∃ fb, fb = w.heap.size := ⟨_, rfl⟩
 rw [← hW, ← hfb]
 have hb : Blk W fb 191 #[.int .i64 x, .int .i64 y] := by rw [hW, hfb]; exact Blk.new w _ _
 have hBW : Below w.heap.size w W := hW ▸ (Below.refl _ _).alloc (Nat.le_refl _) _
 have y0 : W.cell? ⟨fb, 0, none⟩ = some (.int .i64 x) := (hb.cell 0).trans rfl
 have y1 : W.cell? ⟨fb, 1, none⟩ = some (.int .i64 y) := (hb.cell 1).trans rfl
 have h0 : W.cell? ⟨a, 0, none⟩ = some (.string s0) := (hBW.cell (p := ⟨a, 0, none⟩) l0).trans h0
 have h1 : W.cell? ⟨b, 0, none⟩ = some (.int .i64 e0) := (hBW.cell (p := ⟨b, 0, none⟩) l1).trans h1
 have h2 : W.cell? ⟨c, 0, none⟩ = some (.int .i64 p0) := (hBW.cell (p := ⟨c, 0, none⟩) l2).trans h2
 have f0 : W.frozen? ⟨a, 0, none⟩ = false := (hBW.frozen (p := ⟨a, 0, none⟩) l0).trans f0
 have f1 : W.frozen? ⟨b, 0, none⟩ = false := (hBW.frozen (p := ⟨b, 0, none⟩) l1).trans f1
 have f2 : W.frozen? ⟨c, 0, none⟩ = false := (hBW.frozen (p := ⟨c, 0, none⟩) l2).trans f2
 have l0 : a < W.heap.size := Nat.lt_of_lt_of_le l0 hBW.size
 have l1 : b < W.heap.size := Nat.lt_of_lt_of_le l1 hBW.size
 have l2 : c < W.heap.size := Nat.lt_of_lt_of_le l2 hBW.size
 have m0 : fb ≠ a := by omega
 have m1 : fb ≠ b := by omega
 have m2 : fb ≠ c := by omega
 have lf := hb.lt
 have HB := Lib.hid hBW
 clear hW hfb hBW hta
 go_region
 obtain ⟨Wf, hWf⟩ : ∃ Wf, Wf = (((W.setCell ⟨a, 0, none⟩ (.string ⟨#[]⟩)).setCell ⟨b, 0, none⟩ (.int .i64 x)).setCell ⟨c, 0, none⟩ (.int .i64 y)).drew := ⟨_, rfl⟩
 rw [← hWf]
 have hpost : Frm w Wf (fun q => q = a ∨ q = b ∨ q = c) ∧ Wf.cell? ⟨a, 0, none⟩ = some (.string ⟨#[]⟩) ∧ Wf.cell? ⟨b, 0, none⟩ = some (.int .i64 x) ∧ Wf.cell? ⟨c, 0, none⟩ = some (.int .i64 y) := by
  rw [hWf]
  refine ⟨((((Frm.of_below (S := fun q => q = a ∨ q = b ∨ q = c) HB.out).set a 0 _ (.inl (.inl rfl))).set b 0 _ (.inl (.inr (.inl rfl)))).set c 0 _ (.inl (.inr (.inr rfl)))).drew, ?_, ?_, ?_⟩
  ·simp [go_sem, h0, h1, h2, n1, n2, n3, Ne.symm n1, Ne.symm n2, Ne.symm n3]
  ·simp [go_sem, h0, h1, h2, n1, n2, n3, Ne.symm n1, Ne.symm n2, Ne.symm n3]
  ·simp [go_sem, h0, h1, h2, n1, n2, n3, Ne.symm n1, Ne.symm n2, Ne.symm n3]
 clear hWf h0 h1 h2 f0 f1 f2 y0 y1
 show bodyPostS _ _ _ _ _ _ _ _ _
 cases c₀
 simp_all [bodyPostS, results, Tryz.results136, faultV]
end Go.Proofs.YtiheggkkgbfndaaGreatDoor
namespace Go.Proofs.YtiheggkkgbfndaaGreatDoor
open Go Go.Lib
set_option linter.unusedVariables false
set_option linter.unusedSimpArgs false
theorem splitB_data (sep : ByteArray) : ∀ (k : Nat) (s : ByteArray), splitB sep 0 k s = (splitK sep.data.toList 0 k s.data.toList).map fun l => (⟨l.toArray⟩ : ByteArray)
 | 0, s => by
  show [s] = [(⟨s.data.toList.toArray⟩ : ByteArray)]
  rw [Array.toArray_toList]
 | k + 1, s => by
  unfold splitB splitK
  have e1 : indexB s sep = index s.data.toList sep.data.toList := rfl
  rw [e1]
  by_cases h : (index s.data.toList sep.data.toList == -1) = true
  ·rw [if_pos h, if_pos h]
   show [s] = [(⟨s.data.toList.toArray⟩ : ByteArray)]
   rw [Array.toArray_toList]
  ·rw [if_neg h, if_neg h, List.map_cons, splitB_data sep k]
   have h1 : (s.extract ((index s.data.toList sep.data.toList).toNat + sep.size) s.size).data.toList = s.data.toList.drop ((index s.data.toList sep.data.toList).toNat + sep.data.toList.length) := by
    rw [extract_data, List.take_of_length_le (by rw [List.length_drop, Array.length_toList]; exact Nat.le_refl _), Array.length_toList]
    rfl
   rw [h1]
   congr 1
   apply Go.WideShapes.bytes_inj
   rw [extract_data]
   simp
theorem split_lines (s : ByteArray) : splitB ⟨#[10]⟩ 0 (countB s ⟨#[10]⟩) s = ((splitF 10 s.data.toList).map fun l => (⟨l.toArray⟩ : ByteArray)) ∧ countB s ⟨#[10]⟩ + 1 = (splitF 10 s.data.toList).length := by
 have hc : countB s ⟨#[10]⟩ = s.data.toList.count 10 := countFrom_eq 10 _ _ (Nat.lt_succ_self _)
 refine ⟨?_, by rw [splitF_length, hc]⟩
 rw [splitB_data, hc]
 exact congrArg _ (splitK_eq 10 _ _ (Nat.le_refl _))
end Go.Proofs.YtiheggkkgbfndaaGreatDoor
namespace Go.Proofs.YtiheggkkgbfndaaGreatDoor
open Go.RowKit Go.Joins Go.ChangeShapes Go.WideShapes Go.Deep
set_option linter.unusedVariables false
set_option linter.unusedSimpArgs false
set_option maxRecDepth 100000
theorem invoke_door (a b c : Value) (w : World) : (invoke (.fn (.func 136) #[a, b, c]) #[]).run Tryz.prog w = .ok (.enter 136 #[a, b, c]) w := by
 simp [invoke, callFunc, go_sem]
 first | rfl | kernel_rfl
theorem door_idle {tmps : Array Value} {R : Ending → World → Prop} {ob : Nat} {w : World} {v0 : ByteArray} {v1 v2 : Int}
  (h2 : tmps[2]? = some (.pointer (some ⟨ob, 0, none⟩))) (h3 : tmps[3]? = some (.pointer (some ⟨ob + 1, 0, none⟩))) (h4 : tmps[4]? = some (.pointer (some ⟨ob + 1 + 1, 0, none⟩)))
  (c0 : w.cell? ⟨ob, 0, none⟩ = some (.string v0)) (c1 : w.cell? ⟨ob + 1, 0, none⟩ = some (.int .i64 v1)) (c2 : w.cell? ⟨ob + 1 + 1, 0, none⟩ = some (.int .i64 v2))
  (hR : R (.returned (.tuple #[.string v0, .int .i64 v1, .int .i64 v2])) w) :
  Leaves Tryz.prog Tryz.f110 tmps R [{ target := .fn (.func 136) #[.pointer (some ⟨ob, 0, none⟩), .pointer (some ⟨ob + 1, 0, none⟩), .pointer (some ⟨ob + 1 + 1, 0, none⟩)], args := #[] }] .returning w := by
 refine leaves_cons (by simp) (invoke_door _ _ _ w) ((catch_idle ob (ob + 1) (ob + 1 + 1) w).mono ?_)
 rintro e u' w' ⟨rfl, rfl, rfl⟩
 simp [Leaves, settle, results, Tryz.results110, go_sem, h2, h3, h4, c0, c1, c2]
 exact hR
theorem door_fault {tmps : Array Value} {R : Ending → World → Prop} {ob : Nat} {w : World} {v0 : ByteArray} {v1 v2 x y : Int}
  (h2 : tmps[2]? = some (.pointer (some ⟨ob, 0, none⟩))) (h3 : tmps[3]? = some (.pointer (some ⟨ob + 1, 0, none⟩))) (h4 : tmps[4]? = some (.pointer (some ⟨ob + 1 + 1, 0, none⟩)))
  (b0 : Blk w ob 9 #[.string v0]) (b1 : Blk w (ob + 1) 31 #[.int .i64 v1]) (b2 : Blk w (ob + 1 + 1) 3 #[.int .i64 v2])
  (hR : ∀ w', Frm w w' (fun q => q = ob ∨ q = ob + 1 ∨ q = ob + 1 + 1) → R (.returned (.tuple #[.string ⟨#[]⟩, .int .i64 x, .int .i64 y])) w') :
  Leaves Tryz.prog Tryz.f110 tmps R [{ target := .fn (.func 136) #[.pointer (some ⟨ob, 0, none⟩), .pointer (some ⟨ob + 1, 0, none⟩), .pointer (some ⟨ob + 1 + 1, 0, none⟩)], args := #[] }] (.panicking [{ v := faultV x y, recovered := false }]) w := by
 refine leaves_cons (by simp) (invoke_door _ _ _ w) ((catch_fault ob (ob + 1) (ob + 1 + 1) x y [] w v0 v1 v2 ((b0.cell 0).trans rfl) ((b1.cell 0).trans rfl) ((b2.cell 0).trans rfl) (b0.frozen 0) (b1.frozen 0) (b2.frozen 0) b0.lt b1.lt b2.lt (by omega) (by omega) (by omega)).mono ?_)
 rintro e u' w' ⟨rfl, rfl, hF, c0, c1, c2⟩
 simp [Leaves, settle, results, Tryz.results110, go_sem, h2, h3, h4, c0, c1, c2]
 exact hR w' hF
end Go.Proofs.YtiheggkkgbfndaaGreatDoor
