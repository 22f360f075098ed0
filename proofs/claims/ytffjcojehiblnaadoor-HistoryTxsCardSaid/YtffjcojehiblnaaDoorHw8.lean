/- The walk of (*book).next: one is opened. -/
import Derived.Test.YtffjcojehiblnaaDoorHw7
import Derived.Deep.Cut
namespace Go.Proofs.YtffjcojehiblnaaDoor
open Go.RowKit Go.Joins Go.ChangeShapes Go.WideShapes Go.Deep
set_option linter.unusedVariables false
set_option linter.unusedSimpArgs false
set_option maxRecDepth 100000


theorem info_ptx : (Tryd.prog.info? 59).map (fun i => (i.zero, i.size, i.bytes)) = some (some (.pointer none), 1, 8) := by kernel_rfl
theorem news_ptx (W : World) (g : Nat) : ∀ j u, ([.pointer (some ⟨g, 0, none⟩)] : List Value)[j]? = some u → (W.alloc (.cells #[.pointer (some ⟨g, 0, none⟩)] 59)).cell? ((⟨W.heap.size, 0, none⟩ : Addr).add j) = some u := World.news_of_block (cs := #[.pointer (some ⟨g, 0, none⟩)]) (t := 59) (fr := (0, 0)) (heap_alloc_new W _)

structure OpS (q s : Nat) (e : Ev) (pub : Nat) (w' : World) : Prop where
  ev : EvS q e w'
  pub : w'.cell? ⟨s, 2, none⟩ = some (.int .i64 pub)
theorem OpS.alloc {q s : Nat} {e : Ev} {pub : Nat} {W : World} (h : OpS q s e pub W) (o : Obj) : OpS q s e pub (W.alloc o) := ⟨⟨World.rangeAt_alloc h.ev.ev o⟩, (World.cell?_alloc_lt _ _ ⟨s, 2, none⟩ (World.block_lt_of_cell? W _ h.pub)).trans h.pub⟩
theorem OpS.grown {q s : Nat} {e : Ev} {pub : Nat} {W w2 : World} {o : Option Nat} (h : OpS q s e pub W) (hg : W.grownBy w2 o) (hq : q < W.heap.size) (n1 : o ≠ some q) (n2 : o ≠ some s) : OpS q s e pub w2 :=
  ⟨h.ev.grown hg hq n1, (hg.cell_far ⟨s, 2, none⟩ (World.block_lt_of_cell? W _ h.pub) (Ne.symm n2)).trans h.pub⟩
theorem OpS.set {q s : Nat} {e : Ev} {pub : Nat} {W : World} (h : OpS q s e pub W) (v : Value) (hp : s ≠ q) : OpS q s e pub (W.setCell ⟨s, 0, none⟩ v) :=
  ⟨h.ev.set ⟨s, 0, none⟩ v hp, (World.cell?_setCell_other W ⟨s, 0, none⟩ ⟨s, 2, none⟩ v (fun hh => by simp at hh)).trans h.pub⟩
theorem int_load {p : Addr} {w : World} {v : Value} (h : w.cell? p = some v) : (loadVar 3 p).run Tryd.prog w = .ok v w := by go_simp
theorem ptxs_load {p : Addr} {w : World} {v : Value} (h : w.cell? p = some v) : (loadVar 48 p).run Tryd.prog w = .ok v w := by go_simp
theorem ptxs_store {p : Addr} {w : World} {u : Value} {q : Option Addr} {n c : Nat} (h : w.cell? p = some u) (hf : w.frozen? p = false) : (storeVar 48 p (.slice q n c)).run Tryd.prog w = .ok () (w.setCell p (.slice q n c)) := by go_simp
theorem tx_new (t : TxP) (w : World) : (newVar 61 (.agg (TxM.cells ⟨t, 0, .slice none 0 0⟩))).run Tryd.prog w = .ok ⟨w.heap.size, 0, none⟩ (w.alloc (.cells (TxM.cells ⟨t, 0, .slice none 0 0⟩) 61)) := by
  unfold TxM.cells
  go_simp
theorem tx_build0 (a b c : Int) (w : World) : (Instr.build 42 #[(0, .int .i64 a), (1, .int .i64 b), (2, .int .i64 (-1)), (4, .int .i64 c)]).run Tryd.prog w = .ok (.agg #[.int .i64 a, .int .i64 b, .int .i64 (-1), .int .i64 0, .int .i64 c, .int .i64 0]) w := by
  go_simp
theorem tx_build1 (a b c : Int) (w : World) : (Instr.build 61 #[(0, .agg #[.int .i64 a, .int .i64 b, .int .i64 (-1), .int .i64 0, .int .i64 c, .int .i64 0])]).run Tryd.prog w = .ok (.agg (TxM.cells ⟨⟨a, b, -1, 0, c, 0, false, false, []⟩, 0, .slice none 0 0⟩)) w := by
  unfold TxM.cells
  go_simp
theorem wp_build_ptx {Q : Exit → Act → World → Prop} {K : Act → World → Prop} {o : Oper} {a : Act} {w : World} {g : Nat} (x : Operand) (ho : o.op = .buildSlice 48 1 #[(0, x)]) (hx : a.eval x = .pointer (some ⟨g, 0, none⟩))
    (h : K (a.put o.dst (.slice (some ⟨w.heap.size, 0, none⟩) 1 1)) (w.alloc (.cells #[.pointer (some ⟨g, 0, none⟩)] 59))) : o.wp Tryd.prog a w K Q := by
  obtain ⟨i0, hi0, hz0, hz1, hz2⟩ := info_parts info_ptx
  refine wp_buildSlice 48 59 1 #[(0, x)] ho #[.pointer (some ⟨g, 0, none⟩)] i0 _ Tryd.underlying48 hi0 hz0 (by rw [hz1]; decide) (by rw [hz1]; decide) ?_ h
  simp only [List.map_toArray, List.map_cons, List.map_nil, hx, hz1]
  kernel_rfl

set_option maxHeartbeats 400000 in
theorem next_open (e : Ev) {s base : Nat} {w : World} {lv : Value} {b : Book} {l : List TxM} (h : BookAt w base s lv b l) (c1 : ¬ e.at_ < b.at_) (k7 : e.kind = 7) (c2 : e.tx = b.l.length) (hl : (b.l.length + 1) * 8 ≤ 140737488355328) :
    Calls Tryd.prog 27 #[.pointer (some ⟨s, 0, none⟩), .agg (evcs e)] w (NPost w base s (some { b with at_ := e.at_, l := b.l ++ [⟨e.thread, e.at_, -1, 0, b.pub, 0, false, false, []⟩] })) := by
  have hbw : base ≤ w.heap.size := Nat.le_trans h.lo (Nat.le_of_lt h.blk.lt)
  have hbel : Below base w (w.alloc (.cells (evcs e) 35)) := Below.alloc (Below.refl _ _) hbw _
  have h1 := h.alloc (.cells (evcs e) 35)
  have hbl : s < w.heap.size := h.blk.lt
  have hqs : w.heap.size ≠ s := Ne.symm (Nat.ne_of_lt hbl)
  have hsq : s ≠ w.heap.size := Nat.ne_of_lt hbl
  have hlo := h.lo
  have hnl : lv.ownBlock ≠ some w.heap.size := fun hh => Nat.lt_irrefl _ (h.row.lt _ hh).2
  have hgs : ∀ y ∈ l, y.g < w.heap.size := fun y hy => (h.txs y hy).blk.lt
  have y0 : (w.alloc (.cells (evcs e) 35)).cell? ⟨s, 0, none⟩ = some lv := (h1.blk.cell 0).trans rfl
  have y1 : (w.alloc (.cells (evcs e) 35)).cell? ⟨s, 1, none⟩ = some (.int .i64 b.at_) := (h1.blk.cell 1).trans rfl
  have y2 : (w.alloc (.cells (evcs e) 35)).cell? ⟨s, 2, none⟩ = some (.int .i64 b.pub) := (h1.blk.cell 2).trans rfl
  have fs : ∀ i, (w.alloc (.cells (evcs e) 35)).frozen? ⟨s, i, none⟩ = false := h1.blk.frozen
  have hr1 : (w.alloc (.cells (evcs e) 35)).rangeAt w.heap.size 0 (evcs e).toList := ev_range w e
  have hqW : w.heap.size < (w.alloc (.cells (evcs e) 35)).heap.size := by simp
  have v0 : (w.alloc (.cells (evcs e) 35)).cell? ⟨w.heap.size, 0, none⟩ = some (.int .i64 e.at_) := box_ev e w 0
  have hg1 : decide (e.at_ < b.at_) = false := by simp; omega
  have H := Lib.hid h1
  have HB := Lib.hid hbel
  clear h h1 hbel
  go_enter Tryd.func27, Tryd.ntmps27
  go_wp2_with fail
  generalize w.alloc (.cells (evcs e) 35) = W1 at *
  go_quiet (fail)
  go_upto_region 4 with fail
  refine wp_world fun W2 hW2 => ?_
  have H2 : BookAt W2 base s lv { b with at_ := e.at_ } l := by rw [hW2]; exact (H.out.drewN _).set_ 1 (.int .i64 e.at_) { b with at_ := e.at_ } rfl rfl
  have HB2 : Below base w W2 := by rw [hW2]; exact Below.setCell (below_drewN HB.out _) hlo _
  have hr2 : W2.rangeAt w.heap.size 0 (evcs e).toList := by rw [hW2]; exact (EvS.set (W := W1) ⟨hr1⟩ ⟨s, 1, none⟩ (.int .i64 e.at_) hsq).ev
  have hqW2 : w.heap.size < W2.heap.size := by rw [hW2]; simp; omega
  have hbW2 : base ≤ W2.heap.size := by omega
  clear hW2 H HB hr1 hqW y0 y1 y2 fs v0 hg1
  clear W1
  have u0 : W2.cell? ⟨w.heap.size, 0, none⟩ = some (.int .i64 e.at_) := ev_at hr2 0 _ rfl
  have u1 : W2.cell? ⟨w.heap.size, 1, none⟩ = some (.int .i64 e.thread) := ev_at hr2 1 _ rfl
  have u2 : W2.cell? ⟨w.heap.size, 2, none⟩ = some (.int .i64 e.tx) := ev_at hr2 2 _ rfl
  have u3 : W2.cell? ⟨w.heap.size, 3, none⟩ = some (.int .i64 e.kind) := ev_at hr2 3 _ rfl
  rw [k7] at u3
  rw [c2] at u2
  have hll : b.l.length = l.length := H2.len
  obtain ⟨R, c, hlv, hlc⟩ : ∃ R c, lv = .slice R b.l.length c ∧ b.l.length ≤ c := by
    obtain ⟨R, c, h1, h2, _⟩ := own_shapes H2.row
    rw [← H2.len] at h1 h2
    exact ⟨R, c, h1, h2⟩
  have y0 : W2.cell? ⟨s, 0, none⟩ = some lv := (H2.blk.cell 0).trans rfl
  have y2 : W2.cell? ⟨s, 2, none⟩ = some (.int .i64 b.pub) := (H2.blk.cell 2).trans rfl
  have fs : ∀ i, W2.frozen? ⟨s, i, none⟩ = false := H2.blk.frozen
  subst hlv
  have hb2 : ((b.l.length : Int) != (b.l.length : Int)) = false := by simp
  have H := Lib.hid H2
  have HB := Lib.hid HB2
  have HR := Lib.hid hr2
  clear H2 HB2 hr2
  go_wp2_with fail
  go_quiet (fail)
  go_wp2_with fail
  refine wp_world fun W5 hW5 => ?_
  have H5 : BookAt W5 base s (.slice R b.l.length c) { b with at_ := e.at_ } l := by rw [hW5]; exact H.out.drewN _
  have HB5 : Below base w W5 := by rw [hW5]; exact below_drewN HB.out _
  have hr5 : W5.rangeAt w.heap.size 0 (evcs e).toList := by rw [hW5]; exact HR.out
  have hq5 : w.heap.size < W5.heap.size := by rw [hW5]; exact hqW2
  have hbW5 : base ≤ W5.heap.size := by omega
  clear hW5 H HB HR hqW2 hbW2 u0 u1 u2 u3 y0 y2 fs hb2
  clear W2
  have hP : OpS w.heap.size s e b.pub W5.drew := ⟨⟨hr5⟩, (H5.blk.cell 2).trans rfl⟩
  refine wp_abs fun a ha => ?_
  have e0 : a.eval (.tmp 0) = .pointer (some ⟨s, 0, none⟩) := by rw [ha]; rfl
  have e3 : a.eval (.tmp 3) = .pointer (some ⟨w.heap.size, 0, none⟩) := by rw [ha]; rfl
  have hsz : 60 ≤ a.tmps.size := by rw [ha]; exact Nat.le_of_ble_eq_true rfl
  refine wp_region_held_drew (S := OpS w.heap.size s e b.pub) (by kernel_rfl) hP (fun hS => ?_)
  refine take_at 0 29 (v := .pointer (some ⟨s, 0, none⟩)) rfl rfl (by kernel_rfl) (by kernel_rfl) (by kernel_rfl) (fun _ _ _ h => h) (yi_move rfl (.tmp 0) rfl (by (simp (discharger := (first | decide | omega | (simp only [Act.size_put]; omega))) only [Act.eval_put_same, Act.eval_put_ne, eval_const, e0, e3]); all_goals rfl)) hS ?_
  refine take_at 1 30 (v := .pointer (some ⟨s, 0, none⟩)) rfl rfl (by kernel_rfl) (by kernel_rfl) (by kernel_rfl) (fun _ _ _ h => h) (yi_move rfl (.tmp 0) rfl (by (simp (discharger := (first | decide | omega | (simp only [Act.size_put]; omega))) only [Act.eval_put_same, Act.eval_put_ne, eval_const, e0, e3]); all_goals rfl)) hS ?_
  refine take_at 2 31 (v := .pointer (some ⟨s, 0, none⟩)) rfl rfl (by kernel_rfl) (by kernel_rfl) (by kernel_rfl) (fun _ _ _ h => h) (yi_nilCheck rfl (.tmp 30) rfl (by (simp (discharger := (first | decide | omega | (simp only [Act.size_put]; omega))) only [Act.eval_put_same, Act.eval_put_ne, eval_const, e0, e3]); all_goals rfl)) hS ?_
  refine take_at 3 32 (v := .pointer (some ⟨s, 0, none⟩)) rfl rfl (by kernel_rfl) (by kernel_rfl) (by kernel_rfl) (fun _ _ _ h => h) (yi_field (b := s) (k := 0) rfl 76 (.tmp 31) 0 rfl (by (simp (discharger := (first | decide | omega | (simp only [Act.size_put]; omega))) only [Act.eval_put_same, Act.eval_put_ne, eval_const, e0, e3]); all_goals rfl) Tryd.underlying76 rfl (fun w' => by go_simp)) hS ?_
  refine take_at 5 34 (v := .pointer (some ⟨w.heap.size, 1, none⟩)) rfl rfl (by kernel_rfl) (by kernel_rfl) (by kernel_rfl) (fun _ _ _ h => h) (yi_field (b := w.heap.size) (k := 0) rfl 35 (.tmp 3) 1 rfl (by (simp (discharger := (first | decide | omega | (simp only [Act.size_put]; omega))) only [Act.eval_put_same, Act.eval_put_ne, eval_const, e0, e3]); all_goals rfl) Tryd.underlying35 rfl (fun w' => by go_simp)) hS ?_
  refine take_at 6 35 (v := .int .i64 e.thread) rfl rfl (by kernel_rfl) (by kernel_rfl) (by kernel_rfl) (fun _ _ _ h => h) (yi_load1 rfl 3 (.tmp 34) rfl (by (simp (discharger := (first | decide | omega | (simp only [Act.size_put]; omega))) only [Act.eval_put_same, Act.eval_put_ne, eval_const, e0, e3]); all_goals rfl) (fun w' h => int_load (ev_at h.ev.ev 1 _ rfl))) hS ?_
  refine take_at 7 36 (v := .pointer (some ⟨w.heap.size, 0, none⟩)) rfl rfl (by kernel_rfl) (by kernel_rfl) (by kernel_rfl) (fun _ _ _ h => h) (yi_field (b := w.heap.size) (k := 0) rfl 35 (.tmp 3) 0 rfl (by (simp (discharger := (first | decide | omega | (simp only [Act.size_put]; omega))) only [Act.eval_put_same, Act.eval_put_ne, eval_const, e0, e3]); all_goals rfl) Tryd.underlying35 rfl (fun w' => by go_simp)) hS ?_
  refine take_at 8 37 (v := .int .i64 e.at_) rfl rfl (by kernel_rfl) (by kernel_rfl) (by kernel_rfl) (fun _ _ _ h => h) (yi_load1 rfl 3 (.tmp 36) rfl (by (simp (discharger := (first | decide | omega | (simp only [Act.size_put]; omega))) only [Act.eval_put_same, Act.eval_put_ne, eval_const, e0, e3]); all_goals rfl) (fun w' h => int_load (ev_at h.ev.ev 0 _ rfl))) hS ?_
  refine take_at 9 38 (v := .pointer (some ⟨s, 0, none⟩)) rfl rfl (by kernel_rfl) (by kernel_rfl) (by kernel_rfl) (fun _ _ _ h => h) (yi_move rfl (.tmp 0) rfl (by (simp (discharger := (first | decide | omega | (simp only [Act.size_put]; omega))) only [Act.eval_put_same, Act.eval_put_ne, eval_const, e0, e3]); all_goals rfl)) hS ?_
  refine take_at 10 39 (v := .pointer (some ⟨s, 0, none⟩)) rfl rfl (by kernel_rfl) (by kernel_rfl) (by kernel_rfl) (fun _ _ _ h => h) (yi_nilCheck rfl (.tmp 38) rfl (by (simp (discharger := (first | decide | omega | (simp only [Act.size_put]; omega))) only [Act.eval_put_same, Act.eval_put_ne, eval_const, e0, e3]); all_goals rfl)) hS ?_
  refine take_at 11 40 (v := .pointer (some ⟨s, 2, none⟩)) rfl rfl (by kernel_rfl) (by kernel_rfl) (by kernel_rfl) (fun _ _ _ h => h) (yi_field (b := s) (k := 0) rfl 76 (.tmp 39) 2 rfl (by (simp (discharger := (first | decide | omega | (simp only [Act.size_put]; omega))) only [Act.eval_put_same, Act.eval_put_ne, eval_const, e0, e3]); all_goals rfl) Tryd.underlying76 rfl (fun w' => by go_simp)) hS ?_
  refine take_at 12 41 (v := .int .i64 b.pub) rfl rfl (by kernel_rfl) (by kernel_rfl) (by kernel_rfl) (fun _ _ _ h => h) (yi_load1 rfl 3 (.tmp 40) rfl (by (simp (discharger := (first | decide | omega | (simp only [Act.size_put]; omega))) only [Act.eval_put_same, Act.eval_put_ne, eval_const, e0, e3]); all_goals rfl) (fun w' h => int_load h.pub)) hS ?_
  refine take_at 13 42 (v := .agg #[.int .i64 e.thread, .int .i64 e.at_, .int .i64 (-1), .int .i64 0, .int .i64 b.pub, .int .i64 0]) rfl rfl (by kernel_rfl) (by kernel_rfl) (by kernel_rfl) (fun _ _ _ h => h) (yi_build rfl 42 _ #[(0, .int .i64 e.thread), (1, .int .i64 e.at_), (2, .int .i64 (-1)), (4, .int .i64 b.pub)] rfl (by (simp (discharger := (first | decide | omega | (simp only [Act.size_put]; omega))) only [List.map_toArray, List.map_cons, List.map_nil, Act.eval_put_same, Act.eval_put_ne, eval_const, e0, e3]); all_goals rfl) (tx_build0 _ _ _)) hS ?_
  refine take_at 14 43 (v := .agg (TxM.cells ⟨⟨e.thread, e.at_, -1, 0, b.pub, 0, false, false, []⟩, 0, .slice none 0 0⟩)) rfl rfl (by kernel_rfl) (by kernel_rfl) (by kernel_rfl) (fun _ _ _ h => h) (yi_build rfl 61 _ #[(0, .agg #[.int .i64 e.thread, .int .i64 e.at_, .int .i64 (-1), .int .i64 0, .int .i64 b.pub, .int .i64 0])] rfl (by (simp (discharger := (first | decide | omega | (simp only [Act.size_put]; omega))) only [List.map_toArray, List.map_cons, List.map_nil, Act.eval_put_same, Act.eval_put_ne, eval_const, e0, e3]); all_goals rfl) (tx_build1 _ _ _)) hS ?_
  obtain ⟨i0, hi0, hz0, hz1, hz2⟩ := info_parts info_ptx
  have hszT : (W5.drew.alloc (.cells (TxM.cells ⟨⟨e.thread, e.at_, -1, 0, b.pub, 0, false, false, []⟩, 0, .slice none 0 0⟩) 61)).heap.size = W5.heap.size + 1 := by simp
  have hBT : Blk (W5.drew.alloc (.cells (TxM.cells ⟨⟨e.thread, e.at_, -1, 0, b.pub, 0, false, false, []⟩, 0, .slice none 0 0⟩) 61)) W5.heap.size 61 (TxM.cells ⟨⟨e.thread, e.at_, -1, 0, b.pub, 0, false, false, []⟩, 0, .slice none 0 0⟩) := Blk.new W5.drew _ _
  have hbl2 : ∀ q, q < W5.heap.size → (W5.drew.alloc (.cells (TxM.cells ⟨⟨e.thread, e.at_, -1, 0, b.pub, 0, false, false, []⟩, 0, .slice none 0 0⟩) 61)).heap[q]? = W5.heap[q]? := fun q hq => Below.heap_alloc W5.drew _ q hq
  have hS2 : OpS w.heap.size s e b.pub (W5.drew.alloc (.cells (TxM.cells ⟨⟨e.thread, e.at_, -1, 0, b.pub, 0, false, false, []⟩, 0, .slice none 0 0⟩) 61)) := hS.alloc _
  have hRow2 := H5.row.alloc (.cells (TxM.cells ⟨⟨e.thread, e.at_, -1, 0, b.pub, 0, false, false, []⟩, 0, .slice none 0 0⟩) 61)
  replace hRow2 : (W5.drew.alloc (.cells (TxM.cells ⟨⟨e.thread, e.at_, -1, 0, b.pub, 0, false, false, []⟩, 0, .slice none 0 0⟩) 61)).ownsRow base 59 1 (.slice R b.l.length c) l.length (l.map fun x => .pointer (some ⟨x.g, 0, none⟩)) := hRow2
  have d1 : W5.drew.cell? ⟨s, 0, none⟩ = some (.slice R b.l.length c) := (H5.blk.cell 0).trans rfl
  have d2 : (W5.drew.alloc (.cells (TxM.cells ⟨⟨e.thread, e.at_, -1, 0, b.pub, 0, false, false, []⟩, 0, .slice none 0 0⟩) 61)).cell? ⟨s, 0, none⟩ = some (.slice R b.l.length c) := (World.cell?_alloc_lt _ _ ⟨s, 0, none⟩ (World.block_lt_of_cell? _ _ d1)).trans d1
  have hnw := tx_new ⟨e.thread, e.at_, -1, 0, b.pub, 0, false, false, []⟩ W5.drew
  have hll : b.l.length = l.length := H5.len
  have HBx : Below base w (W5.drew.alloc (.cells (TxM.cells ⟨⟨e.thread, e.at_, -1, 0, b.pub, 0, false, false, []⟩, 0, .slice none 0 0⟩) 61)) := Below.alloc (Below.drew HB5) hbW5 _
  generalize hWT : W5.drew.alloc (.cells (TxM.cells ⟨⟨e.thread, e.at_, -1, 0, b.pub, 0, false, false, []⟩, 0, .slice none 0 0⟩) 61) = WT at *
  have d3 : ∀ o, (WT.alloc o).cell? ⟨s, 0, none⟩ = some (.slice R b.l.length c) := fun o => (World.cell?_alloc_lt _ _ ⟨s, 0, none⟩ (World.block_lt_of_cell? _ _ d2)).trans d2
  refine chain_at 4 15 16 33 44 45 (.load 48 (.tmp 32)) (.box 61 (.tmp 43)) (.buildSlice 48 1 #[(0, .tmp 44)]) (v := .slice R b.l.length c) (u := .pointer (some ⟨W5.heap.size, 0, none⟩)) (z := .slice (some ⟨WT.heap.size, 0, none⟩) 1 1) (w2 := WT) (w3 := WT.alloc (.cells #[.pointer (some ⟨W5.heap.size, 0, none⟩)] 59)) (by kernel_rfl) rfl rfl rfl rfl rfl rfl rfl rfl rfl rfl rfl rfl (by kernel_rfl) (by kernel_rfl) (by kernel_rfl) (by kernel_rfl) (by kernel_rfl) (by decide) (by decide) (by decide) (by decide) ?_ ?_ ?_ hS hS2 (hS2.alloc _) ?_
  · rintro K o a' w' (⟨rfl, rfl⟩ | ⟨rfl, rfl⟩ | ⟨rfl, rfl⟩) hd ho hK
    · exact wp_load1 (.tmp 32) ho (by (simp (discharger := (first | decide | omega | (simp only [Act.size_put]; omega))) only [Act.eval_put_same, Act.eval_put_ne, eval_const, e0, e3]); all_goals rfl) (ptxs_load d1) hK
    · exact wp_load1 (.tmp 32) ho (by (simp (discharger := (first | decide | omega | (simp only [Act.size_put]; omega))) only [Act.eval_put_same, Act.eval_put_ne, eval_const, e0, e3]); all_goals rfl) (ptxs_load d2) hK
    · exact wp_load1 (.tmp 32) ho (by (simp (discharger := (first | decide | omega | (simp only [Act.size_put]; omega))) only [Act.eval_put_same, Act.eval_put_ne, eval_const, e0, e3]); all_goals rfl) (ptxs_load (d3 _)) hK
  · rintro K o a' (rfl | rfl) hd ho hK
    · exact wp_box1 61 (.tmp 43) ho (by (simp (discharger := (first | decide | omega | (simp only [Act.size_put]; omega))) only [Act.eval_put_same, Act.eval_put_ne, eval_const, e0, e3]); all_goals rfl) hnw hK
    · exact wp_box1 61 (.tmp 43) ho (by (simp (discharger := (first | decide | omega | (simp only [Act.size_put]; omega))) only [Act.eval_put_same, Act.eval_put_ne, eval_const, e0, e3]); all_goals rfl) hnw hK
  · rintro K o a' (rfl | rfl) hd ho hK
    · exact wp_build_ptx (.tmp 44) ho (by (simp (discharger := (first | decide | omega | (simp only [Act.size_put]; omega))) only [Act.eval_put_same, Act.eval_put_ne, eval_const, e0, e3]); all_goals rfl) hK
    · exact wp_build_ptx (.tmp 44) ho (by (simp (discharger := (first | decide | omega | (simp only [Act.size_put]; omega))) only [Act.eval_put_same, Act.eval_put_ne, eval_const, e0, e3]); all_goals rfl) hK
  refine step_at 17 (some 46) (.call { callee := .builtin .append, args := #[.tmp 33, .tmp 45], argTypes := #[48, 48] }) (by kernel_rfl) rfl rfl rfl rfl fun K o hd ho hK => wp_append_lies _ (.tmp 33) (.tmp 45) 48 ho base 59 i0 _ 1 8 Tryd.underlying48 hi0 hz0 hz1 hz2 rfl (by omega) (.slice R b.l.length c) l.length (l.map fun x => .pointer (some ⟨x.g, 0, none⟩)) (by (simp (discharger := (first | decide | omega | (simp only [Act.size_put]; omega))) only [Act.eval_put_same, Act.eval_put_ne, eval_const, e0, e3]); all_goals rfl) (show _ from hRow2.alloc _)
        ⟨WT.heap.size, 0, none⟩ 1 1 [.pointer (some ⟨W5.heap.size, 0, none⟩)] (by (simp (discharger := (first | decide | omega | (simp only [Act.size_put]; omega))) only [Act.eval_put_same, Act.eval_put_ne, eval_const, e0, e3]); all_goals rfl) (by rfl) (news_ptx WT _) (by simp [Value.oneCell'])
        (by omega) (by unfold maxLen; omega) (by omega) (by simp; omega) (WT.heap.size + 1) (by simp) ?_
  intro gg cap w2 hown1 hgrow hat hlt2
  have hol : ∀ q, (Value.slice R b.l.length c).ownBlock = some q → q < W5.heap.size := fun q hq => (H5.row.lt q hq).2
  have hnq : (Value.slice R b.l.length c).ownBlock ≠ some w.heap.size := hnl
  have hnx : (Value.slice R b.l.length c).ownBlock ≠ some s := own_ne_blk H5.row H5.blk (by decide)
  have hS3 : OpS w.heap.size s e b.pub w2 := (hS2.alloc _).grown hgrow (by simp; omega) hnq hnx
  have cl2 : w2.cell? ⟨s, 0, none⟩ = some (.slice R b.l.length c) := (hgrow.cell_far ⟨s, 0, none⟩ (World.block_lt_of_cell? _ _ (d3 _)) (Ne.symm hnx)).trans (d3 _)
  have hfw : ∀ q, q < WT.heap.size → (Value.slice R b.l.length c).ownBlock ≠ some q → w2.heap[q]? = WT.heap[q]? := fun q hq hn => (hgrow.block q (by simp; omega) (Ne.symm hn)).trans (Below.heap_alloc WT _ q hq)
  have hBk : Blk w2 s 76 #[.slice R b.l.length c, .int .i64 e.at_, .int .i64 b.pub, .int .i64 b.done] := (hfw s (World.block_lt_of_cell? _ _ d2) hnx).trans ((hbl2 s H5.blk.lt).trans H5.blk)
  have fl2 : w2.frozen? ⟨s, 0, none⟩ = false := hBk.frozen 0
  have HP := H5.push (g := W5.heap.size) (t := ⟨e.thread, e.at_, -1, 0, b.pub, 0, false, false, []⟩) hown1 (fun q hq hn => (hfw q (by omega) hn).trans (hbl2 q hq)) ((hfw _ (by omega) (fun hh => Nat.lt_irrefl _ (hol _ hh))).trans hBT) (Nat.le_refl _) rfl hbW5
  have HBl : Below base w (w2.setCell ⟨s, 0, none⟩ (.slice (some ⟨gg, 0, none⟩) (l.length + 1) cap)) := HBx.trans ((((Frm.refl WT (fun q => q = s ∨ (Value.slice R b.l.length c).ownBlock = some q)).alloc _).grown hgrow fun q hq => .inl (.inr hq)).set s 0 _ (.inl (.inl rfl)) |>.below (by omega) fun q hq => by
    rcases hq with rfl | hq
    · exact hlo
    · exact (H5.row.lt q hq).1)
  rw [hd]
  refine hK.out _ _ hS3 ?_
  clear hK hd ho o K hown1 hgrow hat
  refine take_at 18 47 (v := .pointer (some ⟨s, 0, none⟩)) rfl rfl (by kernel_rfl) (by kernel_rfl) (by kernel_rfl) (fun _ _ _ h => h) (yi_nilCheck rfl (.tmp 29) rfl (by (simp (discharger := (first | decide | omega | (simp only [Act.size_put]; omega))) only [Act.eval_put_same, Act.eval_put_ne, eval_const, e0, e3]); all_goals rfl)) hS3 ?_
  refine take_at 19 48 (v := .pointer (some ⟨s, 0, none⟩)) rfl rfl (by kernel_rfl) (by kernel_rfl) (by kernel_rfl) (fun _ _ _ h => h) (yi_field (b := s) (k := 0) rfl 76 (.tmp 47) 0 rfl (by (simp (discharger := (first | decide | omega | (simp only [Act.size_put]; omega))) only [Act.eval_put_same, Act.eval_put_ne, eval_const, e0, e3]); all_goals rfl) Tryd.underlying76 rfl (fun w' => by go_simp)) hS3 ?_
  refine step_at 20 none (.store 48 (.tmp 48) (.tmp 46)) (by kernel_rfl) rfl rfl rfl rfl fun K o hd ho hK => wp_store1 48 (.tmp 48) (.tmp 46) ho hd (by (simp (discharger := (first | decide | omega | (simp only [Act.size_put]; omega))) only [Act.eval_put_same, Act.eval_put_ne, eval_const, e0, e3]); all_goals rfl) (by (simp (discharger := (first | decide | omega | (simp only [Act.size_put]; omega))) only [Act.eval_put_same, Act.eval_put_ne, eval_const, e0, e3]); all_goals rfl) (ptxs_store cl2 fl2) (hK.out _ _ (hS3.set _ hsq) ?_)
  clear hK hd ho o K
  refine wpAnyH_done (by kernel_rfl) ?_ _
  have HP2 := Lib.hid HP
  have HB2 := Lib.hid HBl
  clear hS hS2 hS3 e0 e3 hsz HP HBl
  subst ha
  go_wp2_with fail
  go_ret
  exact ⟨rfl, _, _, HP2.out, HB2.out⟩
end Go.Proofs.YtffjcojehiblnaaDoor
