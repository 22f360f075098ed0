/- The example at the head of the statements: its events. -/
import Derived.Test.YtffjcojehiblnaaGreatDoorPm
namespace Go.Proofs.YtffjcojehiblnaaGreatDoor
open Go.RowKit Go.Joins Go.ChangeShapes Go.WideShapes Go.Deep
set_option linter.unusedVariables false
set_option linter.unusedSimpArgs false
set_option maxRecDepth 100000

def X0 : Ev := ⟨0, 0, 0, 7, 0, 0, false, 0, 0, 0, 0, 0, 0, 0, 0, 0, 0, 0, 0⟩
def X1 : Ev := ⟨1, 0, 0, 1, 0, 0, false, 0, 0, 0, 0, 0, 0, 0, 0, 0, 0, 0, 0⟩
def X2 : Ev := ⟨2, 0, 0, 3, 2, 7, false, 0, 0, 0, 0, 0, 0, 0, 0, 0, 0, 0, 0⟩
def X3 : Ev := ⟨3, 0, 0, 4, 0, 0, false, 0, 0, 1, 0, 0, 0, 0, 0, 0, 0, 0, 0⟩
def X4 : Ev := ⟨4, 0, 1, 7, 0, 0, false, 0, 0, 0, 0, 0, 0, 0, 0, 0, 0, 0, 0⟩
def X5 : Ev := ⟨5, 0, 1, 1, 0, 0, false, 0, 1, 0, 0, 0, 0, 0, 0, 0, 0, 0, 0⟩
def X6 : Ev := ⟨6, 0, 1, 2, 2, 7, false, 0, 1, 0, 0, 0, 0, 0, 0, 0, 0, 0, 0⟩
def hx : List Ev := [X0, X1, X2, X3, X4, X5, X6]
def T0 : TxP := ⟨0, 0, 3, 1, 0, 0, true, false, [X2]⟩
def T1 : TxP := ⟨0, 4, -1, 0, 1, 0, true, false, [X6]⟩
def bx : Book := ⟨[T0, T1], 6, 1, 0⟩
theorem read_hx : readF book0 0 hx = .ok bx := by kernel_rfl
theorem places_hx : 0 ≤ placesF T1 T0 := by decide
theorem wpList_buildc {P : Program} {ops : Array Oper} {rest : List Oper} {o : Oper} {a : Act} {Q : Exit → Act → World → Prop} {w : World} {v : Value} (hgd : o.guard = none) (t : TypeId) (parts : Array (Nat × Operand)) (vals : Array (Nat × Value))
    (ho : o.op = .build t parts) (hp : parts.map (fun (i, x) => (i, a.eval x)) = vals) (hrun : (Instr.build t vals).run P w = .ok v w)
    (h : wpList P ops Q rest (a.put o.dst v) w) : wpList P ops Q (o :: rest) a w := by
  refine wpList_plain hgd fun K hK => ?_
  unfold Oper.wp
  simp only [execOp, ho, hp, Sem.run_bind, hrun, Sem.run_pure, Result.andThen_ok]
  exact hK _ _ h
theorem bld0 (w : World) : (Instr.build 43 #[(3, .int .i64 7)]).run Tryz.prog w = .ok (.agg (evcs X0)) w := by kernel_rfl
theorem bld1 (w : World) : (Instr.build 43 #[(3, .int .i64 1), (0, .int .i64 1)]).run Tryz.prog w = .ok (.agg (evcs X1)) w := by kernel_rfl
theorem bld2 (w : World) : (Instr.build 43 #[(3, .int .i64 3), (0, .int .i64 2), (4, .int .i64 2), (5, .int .i64 7)]).run Tryz.prog w = .ok (.agg (evcs X2)) w := by kernel_rfl
theorem bld3 (w : World) : (Instr.build 43 #[(3, .int .i64 4), (0, .int .i64 3), (9, .int .i64 1)]).run Tryz.prog w = .ok (.agg (evcs X3)) w := by kernel_rfl
theorem bld4 (w : World) : (Instr.build 43 #[(3, .int .i64 7), (0, .int .i64 4), (2, .int .i64 1)]).run Tryz.prog w = .ok (.agg (evcs X4)) w := by kernel_rfl
theorem bld5 (w : World) : (Instr.build 43 #[(3, .int .i64 1), (0, .int .i64 5), (2, .int .i64 1), (8, .int .i64 1)]).run Tryz.prog w = .ok (.agg (evcs X5)) w := by kernel_rfl
theorem bld6 (w : World) : (Instr.build 43 #[(3, .int .i64 2), (0, .int .i64 6), (2, .int .i64 1), (4, .int .i64 2), (5, .int .i64 7), (8, .int .i64 1)]).run Tryz.prog w = .ok (.agg (evcs X6)) w := by kernel_rfl
theorem hx_fill : Instr.fill (fun i => some (i * 19, 19)) ((Array.range (7 * 19)).map ((Value.agg zev).cells[· % (Value.agg zev).cells.size]!)) [(0, .agg (evcs X0)), (1, .agg (evcs X1)), (2, .agg (evcs X2)), (3, .agg (evcs X3)), (4, .agg (evcs X4)), (5, .agg (evcs X5)), (6, .agg (evcs X6))] = some (evs hx).toArray := by kernel_rfl
theorem run_hx (w : World) : (Instr.buildSlice 22 7 #[(0, .agg (evcs X0)), (1, .agg (evcs X1)), (2, .agg (evcs X2)), (3, .agg (evcs X3)), (4, .agg (evcs X4)), (5, .agg (evcs X5)), (6, .agg (evcs X6))]).run Tryz.prog w = .ok (.slice (some ⟨w.heap.size, 0, none⟩) 7 7) (w.alloc (.cells (evs hx).toArray 43)) := by
  obtain ⟨i0, hi0, hz0, hz1, hz2⟩ := info_parts info_ev
  refine run_buildSlice w 22 43 7 _ (evs hx).toArray i0 _ Tryz.underlying22 hi0 hz0 (by rw [hz1]; decide) (by rw [hz1]; decide) ?_
  simp only [hz1]
  exact hx_fill
theorem wpList_buildSl {P : Program} {ops : Array Oper} {rest : List Oper} {o : Oper} {a : Act} {Q : Exit → Act → World → Prop} {w w' : World} {v : Value} {n : Nat} (hgd : o.guard = none) (t : TypeId) (parts : Array (Nat × Operand)) (vals : Array (Nat × Value))
    (ho : o.op = .buildSlice t n parts) (hp : parts.map (fun (i, x) => (i, a.eval x)) = vals) (hrun : (Instr.buildSlice t n vals).run P w = .ok v w')
    (h : wpList P ops Q rest (a.put o.dst v) w') : wpList P ops Q (o :: rest) a w := by
  refine wpList_plain hgd fun K hK => ?_
  unfold Oper.wp
  simp only [execOp, ho, hp, Sem.run_bind, hrun, Sem.run_pure, Result.andThen_ok]
  exact hK _ _ h
end Go.Proofs.YtffjcojehiblnaaGreatDoor

/- The example at the head of the statements is as the document says, from what slices.Sorted answers. -/
namespace Go.Proofs.YtffjcojehiblnaaGreatDoor
open Go.RowKit Go.Joins Go.ChangeShapes Go.WideShapes Go.Deep
set_option linter.unusedVariables false
set_option linter.unusedSimpArgs false
set_option maxRecDepth 100000

/-- What slices.Sorted answers at the two orders of the example. -/
def SortsOK : Prop := ∀ (W : World) (og oc : Nat) (a b : Int), Blk W og 3 #[.int .i64 a, .int .i64 b] → (a = 0 ∧ b = 1 ∨ a = 1 ∧ b = 0) → SortOK og oc W
set_option maxHeartbeats 1000000 in
theorem shown_any (hso : SortsOK) (p : Addr) (w : World) (hE : LaidAt w p) : Calls Tryz.prog 5 #[] w (SaysTrue w) := by
  obtain ⟨W1, hW1⟩ : ∃ W1, W1 = w.alloc (.cells (evs hx).toArray 43) := ⟨_, rfl⟩
  have hb1 : Below w.heap.size w W1 := by rw [hW1]; exact Below.alloc (Below.refl _ _) (Nat.le_refl _) _
  have hB1 : Blk W1 w.heap.size 43 (evs hx).toArray := by rw [hW1]; exact Blk.new w _ _
  have hs1 := hb1.size
  have h2 := hE.lt
  have HRd : ∀ W, Below W1.heap.size W1 W → Reads W W.heap.size 19 (some ⟨w.heap.size, 0, none⟩) 7 (evs hx) := fun W hW => reads_blk ((hW.block _ hB1.lt).trans hB1) rfl
  have HLd : ∀ W, Below W1.heap.size W1 W → LaidAt W p := fun W hW => hE.below (hb1.trans (hW.mono hs1)) (by omega)
  have HTX := Lib.hid (txs_good (some ⟨w.heap.size, 0, none⟩) 7 7 hx p bx W1 rfl (by decide) (HRd W1 (Below.refl _ _)) (HLd W1 (Below.refl _ _)) read_hx (by decide))
  have HOR : Hid (∀ W, Below W1.heap.size W1 W → _) := Lib.hid fun W hW => order_two (some ⟨w.heap.size, 0, none⟩) 7 7 hx p bx T0 T1 W rfl (by decide) (HRd W hW) (HLd W hW) read_hx rfl places_hx
  have HFI : Hid (∀ W, Below W1.heap.size W1 W → _) := Lib.hid fun W hW => final_two (some ⟨w.heap.size, 0, none⟩) 7 7 hx p bx T0 T1 X2 X6 W rfl (by decide) (HRd W hW) (HLd W hW) read_hx rfl rfl rfl rfl rfl rfl rfl rfl
  have hal : ∀ (W : World) (cs : Array Value), Below W1.heap.size W1 W → Below W1.heap.size W1 (W.alloc (.cells cs 3)) := fun W cs hW => Below.alloc hW hW.size _
  have HTI : Hid (∀ W, Below W1.heap.size W1 W → _) := Lib.hid fun W hW => timely_two (.slice (some ⟨W.heap.size, 0, none⟩) 2 2) (some ⟨w.heap.size, 0, none⟩) 7 7 W.heap.size 2 bx T0 T1 (W.alloc (.cells #[.int .i64 0, .int .i64 1] 3)) (Blk.new W _ _) rfl (ordered_two (some ⟨w.heap.size, 0, none⟩) 7 7 W.heap.size 2 hx p bx T0 T1 _ rfl (by decide) (HRd _ (hal W _ hW)) (HLd _ (hal W _ hW)) read_hx rfl (hso _ W.heap.size 2 0 1 (Blk.new W _ _) (.inl ⟨rfl, rfl⟩))) rfl rfl rfl rfl rfl
  have HLE : Hid (∀ W, Below W1.heap.size W1 W → _) := Lib.hid fun W hW => legal_two (.slice (some ⟨W.heap.size, 0, none⟩) 2 2) (some ⟨w.heap.size, 0, none⟩) 7 7 W.heap.size 2 bx T0 T1 X6 (W.alloc (.cells #[.int .i64 1, .int .i64 0] 3)) (Blk.new W _ _) rfl (ordered_two (some ⟨w.heap.size, 0, none⟩) 7 7 W.heap.size 2 hx p bx T0 T1 _ rfl (by decide) (HRd _ (hal W _ hW)) (HLd _ (hal W _ hW)) read_hx rfl (hso _ W.heap.size 2 1 0 (Blk.new W _ _) (.inr ⟨rfl, rfl⟩))) rfl rfl rfl (by decide)
  clear HRd HLd hso hE hB1
  go_enter Tryz.func5, Tryz.ntmps5
  go_upto_region 2 with (first
    | (refine wpList_buildc rfl 43 _ #[(3, .int .i64 7)] rfl rfl (bld0 _) ?_)
    | (refine wpList_buildc rfl 43 _ #[(3, .int .i64 1), (0, .int .i64 1)] rfl rfl (bld1 _) ?_)
    | (refine wpList_buildc rfl 43 _ #[(3, .int .i64 3), (0, .int .i64 2), (4, .int .i64 2), (5, .int .i64 7)] rfl rfl (bld2 _) ?_)
    | (refine wpList_buildc rfl 43 _ #[(3, .int .i64 4), (0, .int .i64 3), (9, .int .i64 1)] rfl rfl (bld3 _) ?_)
    | (refine wpList_buildc rfl 43 _ #[(3, .int .i64 7), (0, .int .i64 4), (2, .int .i64 1)] rfl rfl (bld4 _) ?_)
    | (refine wpList_buildc rfl 43 _ #[(3, .int .i64 1), (0, .int .i64 5), (2, .int .i64 1), (8, .int .i64 1)] rfl rfl (bld5 _) ?_)
    | (refine wpList_buildc rfl 43 _ #[(3, .int .i64 2), (0, .int .i64 6), (2, .int .i64 1), (4, .int .i64 2), (5, .int .i64 7), (8, .int .i64 1)] rfl rfl (bld6 _) ?_)
    | (refine wpList_buildSl rfl 22 _ #[(0, .agg (evcs X0)), (1, .agg (evcs X1)), (2, .agg (evcs X2)), (3, .agg (evcs X3)), (4, .agg (evcs X4)), (5, .agg (evcs X5)), (6, .agg (evcs X6))] rfl rfl (run_hx _) ?_))
  refine wp_world fun W hW => ?_
  have e : W = W1 := by rw [hW, hW1]; rfl
  clear hW hW1
  subst e
  have HB1 := Lib.hid hb1
  clear hb1 hal
  go_wp2_with (first
    | (go_at_call 12; refine HTX.out.mono ?_; rintro r w2 ⟨ov, hr, hown, hb2⟩; obtain ⟨go, co, hov, _, _⟩ := hown.form (by decide); subst hov; subst hr; (have x3 : w2.cell? ⟨go, 3, none⟩ = some (.int .i64 1) := by (have := hown.cells (g := go) rfl 3 _ rfl; rwa [Addr.add_mid] at this)); (have y4 : w2.cell? ⟨go, 10, none⟩ = some (.int .i64 1) := by (have := hown.cells (g := go) rfl 10 _ rfl; rwa [Addr.add_mid] at this)); (have y2 : w2.cell? ⟨go, 8, none⟩ = some (.int .i64 (-1)) := by (have := hown.cells (g := go) rfl 8 _ rfl; rwa [Addr.add_mid] at this)); clear hown)
    | (go_at_call 6; refine (HOR.out _ hb2).mono ?_; rintro r w3 ⟨g3, c3, hr, k0, hg3, hb3⟩; subst hr)
    | (go_at_call 13; refine (HTI.out w3 (hb2.trans (hb3.mono hb2.size))).mono ?_; rintro r w4 ⟨hr, hb4⟩; subst hr)
    | (go_at_call 14; refine (HLE.out w4 ((hb2.trans (hb3.mono hb2.size)).trans ((Below.alloc (Below.refl _ w3) (Nat.le_trans hb2.size hb3.size) _).trans (hb4.mono (by have := hb2.size; have := hb3.size; simp; omega))))).mono ?_; rintro r w5 ⟨hr, hb5⟩; subst hr; (have b34 : Below w3.heap.size w3 w4 := (Below.alloc (Below.refl _ w3) (Nat.le_refl _) _).trans (hb4.mono (by simp))); (have b45 : Below w4.heap.size w4 w5 := (Below.alloc (Below.refl _ w4) (Nat.le_refl _) _).trans (hb5.mono (by simp))); (have b25 : Below w2.heap.size w2 w5 := (hb3.trans (b34.mono hb3.size)).trans (b45.mono (Nat.le_trans hb3.size b34.size))); (have b35 : Below w3.heap.size w3 w5 := b34.trans (b45.mono b34.size)))
    | (go_at_call 9; refine (HFI.out w5 (hb2.trans (b25.mono hb2.size))).mono ?_; rintro r w6 ⟨gf, hr, f2, hgf, hb6⟩; subst hr; (have z3 : w6.cell? ⟨go, 3, none⟩ = some (.int .i64 1) := ((b25.trans (hb6.mono b25.size)).cell (World.block_lt_of_cell? _ _ x3)).trans x3); (have z10 : w6.cell? ⟨go, 10, none⟩ = some (.int .i64 1) := ((b25.trans (hb6.mono b25.size)).cell (World.block_lt_of_cell? _ _ y4)).trans y4); (have z8 : w6.cell? ⟨go, 8, none⟩ = some (.int .i64 (-1)) := ((b25.trans (hb6.mono b25.size)).cell (World.block_lt_of_cell? _ _ y2)).trans y2); (have zo : w6.cell? ⟨g3, 0, none⟩ = some (.int .i64 0) := ((b35.trans (hb6.mono b35.size)).cell (World.block_lt_of_cell? _ _ k0)).trans k0); (have HEND := Lib.hid (HB1.out.trans ((hb2.trans ((b25.trans (hb6.mono b25.size)).mono hb2.size)).mono hs1))); clear x3 y4 y2 k0 hb2 hb3 hb4 hb5 hb6 b34 b45 b25 b35 HTX HOR HTI HLE HFI))
  go_ret
  exact ⟨rfl, HEND.out⟩
end Go.Proofs.YtffjcojehiblnaaGreatDoor
