/- The walk of (*book).goes: reads and writes. -/
import Derived.Test.YtffjcojehiblnaaGreatDoorPv
namespace Go.Proofs.YtffjcojehiblnaaGreatDoor
open Go.RowKit Go.Joins Go.ChangeShapes Go.WideShapes Go.Deep
set_option linter.unusedVariables false
set_option linter.unusedSimpArgs false
set_option maxRecDepth 100000

theorem push_end {w W w2 : World} {base s gg cap : Nat} {lv : Value} {at_ : Int} {p d : Nat} {x : TxM} {e : Ev} {t1 : TxP} {o : Obj}
    (hF : Frm w W (fun q => q = s ∨ TxBlk x q)) (hB : Blk W s 80 #[lv, .int .i64 at_, .int .i64 p, .int .i64 d]) (hT : TxAt W base ⟨t1, x.g, x.sv⟩)
    (hown : w2.ownsRow base 43 19 (.slice (some ⟨gg, 0, none⟩) (t1.steps.length + 1) cap) (t1.steps.length + 1) (evs t1.steps ++ (evcs e).toList)) (hgrow : (W.alloc o).grownBy w2 x.sv.ownBlock) (hat : x.sv.ownBlock = some gg ∨ gg = W.heap.size + 1) :
    ∃ sv', TxAt (w2.setCell ⟨x.g, 8, none⟩ (.slice (some ⟨gg, 0, none⟩) (t1.steps.length + 1) cap)) base ⟨{ t1 with steps := t1.steps ++ [e] }, x.g, sv'⟩ ∧ Blk (w2.setCell ⟨x.g, 8, none⟩ (.slice (some ⟨gg, 0, none⟩) (t1.steps.length + 1) cap)) s 80 #[lv, .int .i64 at_, .int .i64 p, .int .i64 d] ∧ (sv'.ownBlock = x.sv.ownBlock ∨ ∀ q, sv'.ownBlock = some q → w.heap.size ≤ q) ∧ Frm w (w2.setCell ⟨x.g, 8, none⟩ (.slice (some ⟨gg, 0, none⟩) (t1.steps.length + 1) cap)) (fun q => q = s ∨ TxBlk x q) := by
  have hsg : s ≠ x.g := hB.ne_ hT.blk (by decide)
  have hns : ∀ {b : Nat} {t : TypeId} {cs : Array Value}, Blk W b t cs → 43 ≠ t → some b ≠ x.sv.ownBlock := fun hb ht hh => by
    obtain ⟨cs', hc⟩ := own_blk hT.steps hh.symm
    exact (hc.ne_ hb ht) rfl
  have hg2 : Blk w2 x.g 66 (TxM.cells ⟨t1, x.g, x.sv⟩) := (hT.blk.alloc o).grown hgrow (hns hT.blk (by decide))
  have hb2 : Blk w2 s 80 #[lv, .int .i64 at_, .int .i64 p, .int .i64 d] := (hB.alloc o).grown hgrow (hns hB (by decide))
  refine ⟨.slice (some ⟨gg, 0, none⟩) (t1.steps.length + 1) cap, ⟨?_, hT.lo, ?_⟩, hb2.far hsg _, ?_, ?_⟩
  · exact hg2.set_ 8 _
  · have := own_set (i := 8) hown hg2 (by decide) (.slice (some ⟨gg, 0, none⟩) (t1.steps.length + 1) cap)
    have e1 : evs (t1.steps ++ [e]) = evs t1.steps ++ (evcs e).toList := rows_snoc Ev.cells t1.steps e
    show World.ownsRow _ base _ 19 _ (t1.steps ++ [e]).length (evs (t1.steps ++ [e]))
    rw [e1, List.length_append]
    exact this
  · rcases hat with h | h
    · exact .inl h.symm
    · right
      intro q hq
      have hq' : gg = q := by injection hq
      have := hF.size
      omega
  · exact ((hF.alloc o).grown hgrow fun q hq => .inl (.inr (.inr hq))).set _ _ _ (.inl (.inr (.inl rfl)))

set_option maxHeartbeats 4000000 in
theorem goes_wrote (e : Ev) {s base : Nat} {w : World} {lv : Value} {at_ : Int} {pub done : Nat} {x : TxM} (hB : Blk w s 80 #[lv, .int .i64 at_, .int .i64 pub, .int .i64 done]) (hT : TxAt w base x) (hd : done ≤ 4611686018427387904) (hp : pub ≤ 4611686018427387904) (hk : e.kind = 3) (h0 : x.t.stamp = 0) (c0 : 0 ≤ e.cell) (c1 : e.cell < 1024) (hst : (x.t.steps.length + 1) * 152 ≤ 140737488355328) :
    Calls Tryz.prog 50 #[.pointer (some ⟨s, 0, none⟩), .pointer (some ⟨x.g, 0, none⟩), .agg (evcs e)] w (GPost w base s lv at_ x { x.t with steps := x.t.steps ++ [e] } pub done) := by
  have hsg : s ≠ x.g := hB.ne_ hT.blk (by decide)
  have hgs : x.g ≠ s := Ne.symm hsg
  have hB1 := hB.alloc (.cells (evcs e) 43)
  have hT1 := hT.alloc (.cells (evcs e) 43)
  have hF1 : Frm w (w.alloc (.cells (evcs e) 43)) (fun q => q = s ∨ TxBlk x q) := (Frm.refl w _).alloc _
  have v0 : (w.alloc (.cells (evcs e) 43)).cell? ⟨w.heap.size, 0, none⟩ = some (.int .i64 e.at_) := box_ev e w 0
  have v1 : (w.alloc (.cells (evcs e) 43)).cell? ⟨w.heap.size, 1, none⟩ = some (.int .i64 e.thread) := box_ev e w 1
  have v2 : (w.alloc (.cells (evcs e) 43)).cell? ⟨w.heap.size, 2, none⟩ = some (.int .i64 e.tx) := box_ev e w 2
  have v3 : (w.alloc (.cells (evcs e) 43)).cell? ⟨w.heap.size, 3, none⟩ = some (.int .i64 e.kind) := box_ev e w 3
  have v4 : (w.alloc (.cells (evcs e) 43)).cell? ⟨w.heap.size, 4, none⟩ = some (.int .i64 e.cell) := box_ev e w 4
  have v5 : (w.alloc (.cells (evcs e) 43)).cell? ⟨w.heap.size, 5, none⟩ = some (.int .i64 e.value) := box_ev e w 5
  have v6 : (w.alloc (.cells (evcs e) 43)).cell? ⟨w.heap.size, 6, none⟩ = some (.bool e.own) := box_ev e w 6
  have v7 : (w.alloc (.cells (evcs e) 43)).cell? ⟨w.heap.size, 7, none⟩ = some (.int .i64 e.start) := box_ev e w 7
  have v8 : (w.alloc (.cells (evcs e) 43)).cell? ⟨w.heap.size, 8, none⟩ = some (.int .i64 e.seen) := box_ev e w 8
  have v9 : (w.alloc (.cells (evcs e) 43)).cell? ⟨w.heap.size, 9, none⟩ = some (.int .i64 e.stamp) := box_ev e w 9
  have v10 : (w.alloc (.cells (evcs e) 43)).cell? ⟨w.heap.size, 10, none⟩ = some (.int .u64 e.s0) := box_ev e w 10
  have v11 : (w.alloc (.cells (evcs e) 43)).cell? ⟨w.heap.size, 11, none⟩ = some (.int .u64 e.s1) := box_ev e w 11
  have v12 : (w.alloc (.cells (evcs e) 43)).cell? ⟨w.heap.size, 12, none⟩ = some (.int .u64 e.s2) := box_ev e w 12
  have v13 : (w.alloc (.cells (evcs e) 43)).cell? ⟨w.heap.size, 13, none⟩ = some (.int .u64 e.s3) := box_ev e w 13
  have v14 : (w.alloc (.cells (evcs e) 43)).cell? ⟨w.heap.size, 14, none⟩ = some (.int .u64 e.s4) := box_ev e w 14
  have v15 : (w.alloc (.cells (evcs e) 43)).cell? ⟨w.heap.size, 15, none⟩ = some (.int .u64 e.s5) := box_ev e w 15
  have v16 : (w.alloc (.cells (evcs e) 43)).cell? ⟨w.heap.size, 16, none⟩ = some (.int .u64 e.s6) := box_ev e w 16
  have v17 : (w.alloc (.cells (evcs e) 43)).cell? ⟨w.heap.size, 17, none⟩ = some (.int .u64 e.s7) := box_ev e w 17
  have v18 : (w.alloc (.cells (evcs e) 43)).cell? ⟨w.heap.size, 18, none⟩ = some (.int .i64 e.err) := box_ev e w 18
  obtain ⟨x0, x1, x2, x3, x4, x5, x6, x7⟩ : (w.alloc (.cells (evcs e) 43)).cell? ⟨x.g, 0, none⟩ = some (.int .i64 x.t.thread) ∧ (w.alloc (.cells (evcs e) 43)).cell? ⟨x.g, 1, none⟩ = some (.int .i64 x.t.begun) ∧ (w.alloc (.cells (evcs e) 43)).cell? ⟨x.g, 2, none⟩ = some (.int .i64 x.t.ended) ∧ (w.alloc (.cells (evcs e) 43)).cell? ⟨x.g, 3, none⟩ = some (.int .i64 x.t.stamp) ∧ (w.alloc (.cells (evcs e) 43)).cell? ⟨x.g, 4, none⟩ = some (.int .i64 x.t.seen) ∧ (w.alloc (.cells (evcs e) 43)).cell? ⟨x.g, 5, none⟩ = some (.int .i64 x.t.err) ∧ (w.alloc (.cells (evcs e) 43)).cell? ⟨x.g, 7, none⟩ = some (.bool x.t.ov) ∧ (w.alloc (.cells (evcs e) 43)).cell? ⟨x.g, 8, none⟩ = some x.sv :=
    ⟨(hT1.blk.cell 0).trans rfl, (hT1.blk.cell 1).trans rfl, (hT1.blk.cell 2).trans rfl, (hT1.blk.cell 3).trans rfl, (hT1.blk.cell 4).trans rfl, (hT1.blk.cell 5).trans rfl, (hT1.blk.cell 7).trans rfl, (hT1.blk.cell 8).trans rfl⟩
  have y2 : (w.alloc (.cells (evcs e) 43)).cell? ⟨s, 2, none⟩ = some (.int .i64 pub) := (hB1.cell 2).trans rfl
  have y3 : (w.alloc (.cells (evcs e) 43)).cell? ⟨s, 3, none⟩ = some (.int .i64 done) := (hB1.cell 3).trans rfl
  have fs : ∀ i, (w.alloc (.cells (evcs e) 43)).frozen? ⟨s, i, none⟩ = false := hB1.frozen
  have fg : ∀ i, (w.alloc (.cells (evcs e) 43)).frozen? ⟨x.g, i, none⟩ = false := hT1.blk.frozen
  have hqs : w.heap.size ≠ s := Ne.symm (Nat.ne_of_lt hB.lt)
  have hqg : w.heap.size ≠ x.g := Ne.symm (Nat.ne_of_lt hT.blk.lt)
  have hsq : s ≠ w.heap.size := Ne.symm hqs
  have hgq : x.g ≠ w.heap.size := Ne.symm hqg
  have hk5 : decide (e.kind = 5) = false := by simp [hk]
  have hk2 : decide (e.kind = 2) = false := by simp [hk]
  have hk3 : decide (e.kind = 3) = true := by simp [hk]
  have hn5 : ¬ e.kind = 5 := by omega
  have hn2 : ¬ e.kind = 2 := by omega
  have hb3 : (e.kind == 3) = true := by simp [hk]
  clear hk
  rw [h0] at x3
  have hs1 : decide (e.cell < 0) = false := by simp; omega
  have hs2 : decide (1024 ≤ e.cell) = false := by simp; omega
  have hone := ev_one e
  have hn1 : x.t.steps.length + 1 ≤ maxLen := by unfold maxLen; omega
  have hnb : (x.t.steps.length + 1) * 152 ≤ 140737488355328 := hst
  have hbw : base ≤ w.heap.size := Nat.le_trans hT.lo (Nat.le_of_lt hT.blk.lt)
  have hbW : base ≤ (w.alloc (.cells (evcs e) 43)).heap.size := by simp; omega
  have hr1 : (w.alloc (.cells (evcs e) 43)).rangeAt w.heap.size 0 (evcs e).toList := ev_range w e
  have hnq : x.sv.ownBlock ≠ some w.heap.size := fun hh => by
    obtain ⟨cs', hc⟩ := own_blk hT.steps hh
    exact absurd hc.lt (Nat.lt_irrefl _)
  have hqW : ∀ {o : Obj}, w.heap.size < ((w.alloc (.cells (evcs e) 43)).drew.alloc o).heap.size := by simp; omega
  have hgW : ∀ {o : Obj}, x.g < ((w.alloc (.cells (evcs e) 43)).drew.alloc o).heap.size := by have := hT.blk.lt; simp; omega
  have hszW : ∀ {o : Obj}, ((w.alloc (.cells (evcs e) 43)).drew.alloc o).heap.size = (w.alloc (.cells (evcs e) 43)).heap.size + 1 := by simp
  have hbW2 : ∀ {o : Obj}, base ≤ ((w.alloc (.cells (evcs e) 43)).drew.alloc o).heap.size := by simp; omega
  have hgl : x.g < (w.alloc (.cells (evcs e) 43)).heap.size := hT1.blk.lt
  have x8a : ∀ o, ((w.alloc (.cells (evcs e) 43)).alloc o).cell? ⟨x.g, 8, none⟩ = some x.sv := fun o => (World.cell?_alloc_lt _ _ ⟨x.g, 8, none⟩ hgl).trans x7
  have hnx : x.sv.ownBlock ≠ some x.g := fun hh => by
    obtain ⟨cs', hc⟩ := own_blk hT.steps hh
    exact (hc.ne_ hT.blk (by decide)) rfl
  have HB := Lib.hid hB1
  have HT := Lib.hid hT1
  have HF := Lib.hid hF1
  clear hB hT hB1 hT1 hF1
  go_enter Tryz.func50, Tryz.ntmps50
  go_wp2_with fail
  generalize w.alloc (.cells (evcs e) 43) = W1 at *
  go_wp2_with fail
  clear v0 v1 v2 v3 v4 v5 v6 v7 v8 v9 v10 v11 v12 v13 v14 v15 v16 v17 v18 x0 x1 x2 x3 x4 x5 x6 y2 y3 hk5 hk2 hk3 hn5 hn2 hb3 hs1 hs2 hp hd h0
  refine wp_abs fun a ha => ?_
  have e1 : a.eval (.tmp 1) = .pointer (some ⟨x.g, 0, none⟩) := by rw [ha]; rfl
  have e5 : a.eval (.tmp 5) = .pointer (some ⟨w.heap.size, 0, none⟩) := by rw [ha]; rfl
  have hsz : 90 ≤ a.tmps.size := by rw [ha]; exact Nat.le_of_ble_eq_true rfl
  refine wp_region_held_drew (S := EvS w.heap.size e) (by kernel_rfl) ⟨hr1⟩ (fun hS => ?_)
  refine take_at 0 80 (v := .pointer (some ⟨x.g, 0, none⟩)) rfl rfl (by kernel_rfl) (by kernel_rfl) (by kernel_rfl) (fun _ _ _ h => h) (yi_move rfl (.tmp 1) rfl e1) hS ?_
  refine take_at 1 81 (v := .pointer (some ⟨x.g, 0, none⟩)) rfl rfl (by kernel_rfl) (by kernel_rfl) (by kernel_rfl) (fun _ _ _ h => h) (yi_move rfl (.tmp 1) rfl (by (simp (discharger := (first | decide | omega | (simp only [Act.size_put]; omega))) only [Act.eval_put_same, Act.eval_put_ne, e1, e5]); all_goals rfl)) hS ?_
  refine take_at 2 82 (v := .pointer (some ⟨x.g, 0, none⟩)) rfl rfl (by kernel_rfl) (by kernel_rfl) (by kernel_rfl) (fun _ _ _ h => h) (yi_nilCheck rfl (.tmp 81) rfl (by (simp (discharger := (first | decide | omega | (simp only [Act.size_put]; omega))) only [Act.eval_put_same, Act.eval_put_ne, e1, e5]); all_goals rfl)) hS ?_
  refine take_at 3 83 (v := .pointer (some ⟨x.g, 8, none⟩)) rfl rfl (by kernel_rfl) (by kernel_rfl) (by kernel_rfl) (fun _ _ _ h => h) (yi_field (b := x.g) (k := 0) rfl 66 (.tmp 82) 3 rfl (by (simp (discharger := (first | decide | omega | (simp only [Act.size_put]; omega))) only [Act.eval_put_same, Act.eval_put_ne, e1, e5]); all_goals rfl) Tryz.underlying66 rfl (fun w' => by go_simp)) hS ?_
  refine take_at 5 85 (v := .agg (evcs e)) rfl rfl (by kernel_rfl) (by kernel_rfl) (by kernel_rfl) (fun _ _ _ h => h) (yi_load1 rfl 43 (.tmp 5) rfl (by (simp (discharger := (first | decide | omega | (simp only [Act.size_put]; omega))) only [Act.eval_put_same, Act.eval_put_ne, e1, e5]); all_goals rfl) (fun w' h => ev_load h.ev)) hS ?_
  refine pair_at 4 6 84 86 (.load 22 (.tmp 83)) (.buildSlice 22 1 #[(0, .tmp 85)]) (v := x.sv) (u := .slice (some ⟨W1.heap.size, 0, none⟩) 1 1) (w2 := W1.drew.alloc (.cells (evcs e) 43)) (by kernel_rfl) rfl rfl rfl rfl rfl rfl rfl rfl (by kernel_rfl) (by kernel_rfl) (by decide) (by decide) ?_ ?_ hS ⟨World.rangeAt_alloc hr1 _⟩ ?_
  · rintro K o a' w' (⟨rfl, rfl⟩ | ⟨rfl, rfl⟩) hd ho hK
    · exact wp_load_sl (.tmp 83) ho (by (simp (discharger := (first | decide | omega | (simp only [Act.size_put]; omega))) only [Act.eval_put_same, Act.eval_put_ne, e1, e5]); all_goals rfl) x7 hK
    · exact wp_load_sl (.tmp 83) ho (by (simp (discharger := (first | decide | omega | (simp only [Act.size_put]; omega))) only [Act.eval_put_same, Act.eval_put_ne, e1, e5]); all_goals rfl) (x8a _) hK
  · rintro K o a' (rfl | rfl) hd ho hK
    · exact wp_build_ev (e := e) (.tmp 85) ho (by (simp (discharger := (first | decide | omega | (simp only [Act.size_put]; omega))) only [Act.eval_put_same, Act.eval_put_ne, e1, e5]); all_goals rfl) hK
    · exact wp_build_ev (e := e) (.tmp 85) ho (by (simp (discharger := (first | decide | omega | (simp only [Act.size_put]; omega))) only [Act.eval_put_same, Act.eval_put_ne, e1, e5]); all_goals rfl) hK
  obtain ⟨i0, hi0, hz0, hz1, hz2⟩ := info_parts info_ev
  refine step_at 7 (some 87) (.call { callee := .builtin .append, args := #[.tmp 84, .tmp 86], argTypes := #[22, 22] }) (by kernel_rfl) rfl rfl rfl rfl fun K o hd ho hK => wp_append_lies _ (.tmp 84) (.tmp 86) 22 ho base 43 i0 _ 19 152 Tryz.underlying22 hi0 hz0 hz1 hz2 rfl (by omega) x.sv x.t.steps.length (evs x.t.steps) (by (simp (discharger := (first | decide | omega | (simp only [Act.size_put]; omega))) only [Act.eval_put_same, Act.eval_put_ne, e1, e5]); all_goals rfl) (show _ from HT.out.steps.alloc _)
        ⟨W1.heap.size, 0, none⟩ 1 1 (evcs e).toList (by (simp (discharger := (first | decide | omega | (simp only [Act.size_put]; omega))) only [Act.eval_put_same, Act.eval_put_ne, e1, e5]); all_goals rfl) (by rfl) (news_ev W1.drew e) hone
        (by omega) hn1 hnb hbW2 (W1.heap.size + 1) hszW ?_
  intro gg cap w2 hown1 hgrow hat hlt2
  have hS2 : EvS w.heap.size e w2 := EvS.grown (W := W1.drew.alloc (.cells (evcs e) 43)) ⟨World.rangeAt_alloc hr1 _⟩ hgrow hqW hnq
  have cl2 : w2.cell? ⟨x.g, 8, none⟩ = some x.sv := (hgrow.cell_far ⟨x.g, 8, none⟩ hgW (Ne.symm hnx)).trans (x8a _)
  have fl2 : w2.frozen? ⟨x.g, 8, none⟩ = false := (hgrow.frozen_far ⟨x.g, 8, none⟩ hgW (Ne.symm hnx)).trans ((frozen?_alloc_cells _ _ _ ⟨x.g, 8, none⟩).trans (fg 8))
  rw [hd]
  refine hK.out _ _ hS2 ?_
  clear hK hd ho o K
  have HP := Lib.hid (push_end HF.out HB.out HT.out hown1 ⟨hgrow.os, hgrow.tape, hgrow.output, hgrow.size, hgrow.block⟩ hat)
  clear hown1 hgrow hat
  refine take_at 8 88 (v := .pointer (some ⟨x.g, 0, none⟩)) rfl rfl (by kernel_rfl) (by kernel_rfl) (by kernel_rfl) (fun _ _ _ h => h) (yi_nilCheck rfl (.tmp 80) rfl (by (simp (discharger := (first | decide | omega | (simp only [Act.size_put]; omega))) only [Act.eval_put_same, Act.eval_put_ne, e1, e5]); all_goals rfl)) hS2 ?_
  refine take_at 9 89 (v := .pointer (some ⟨x.g, 8, none⟩)) rfl rfl (by kernel_rfl) (by kernel_rfl) (by kernel_rfl) (fun _ _ _ h => h) (yi_field (b := x.g) (k := 0) rfl 66 (.tmp 88) 3 rfl (by (simp (discharger := (first | decide | omega | (simp only [Act.size_put]; omega))) only [Act.eval_put_same, Act.eval_put_ne, e1, e5]); all_goals rfl) Tryz.underlying66 rfl (fun w' => by go_simp)) hS2 ?_
  refine step_at 10 none (.store 22 (.tmp 89) (.tmp 87)) (by kernel_rfl) rfl rfl rfl rfl fun K o hd ho hK => wp_store1 22 (.tmp 89) (.tmp 87) ho hd (by (simp (discharger := (first | decide | omega | (simp only [Act.size_put]; omega))) only [Act.eval_put_same, Act.eval_put_ne, e1, e5]); all_goals rfl) (by (simp (discharger := (first | decide | omega | (simp only [Act.size_put]; omega))) only [Act.eval_put_same, Act.eval_put_ne, e1, e5]); all_goals rfl) (sl_store cl2 fl2) (hK.out _ _ (hS2.set _ _ hgq) ?_)
  clear hK hd ho o K
  refine wpAnyH_done (by kernel_rfl) ?_ _
  clear hS hS2 e1 e5 hsz
  subst ha
  go_wp2_with fail
  go_ret
  exact ⟨rfl, HP.out⟩

end Go.Proofs.YtffjcojehiblnaaGreatDoor

/- The walk of (*book).goes: reads. -/
namespace Go.Proofs.YtffjcojehiblnaaGreatDoor
open Go.RowKit Go.Joins Go.ChangeShapes Go.WideShapes Go.Deep
set_option linter.unusedVariables false
set_option linter.unusedSimpArgs false
set_option maxRecDepth 100000

set_option maxHeartbeats 4000000 in
theorem goes_read (e : Ev) {s base : Nat} {w : World} {lv : Value} {at_ : Int} {pub done : Nat} {x : TxM} (hB : Blk w s 80 #[lv, .int .i64 at_, .int .i64 pub, .int .i64 done]) (hT : TxAt w base x) (hd : done ≤ 4611686018427387904) (hp : pub ≤ 4611686018427387904) (hk : e.kind = 2) (h0 : x.t.stamp = 0) (c0 : 0 ≤ e.cell) (c1 : e.cell < 1024) (hst : (x.t.steps.length + 1) * 152 ≤ 140737488355328) :
    Calls Tryz.prog 50 #[.pointer (some ⟨s, 0, none⟩), .pointer (some ⟨x.g, 0, none⟩), .agg (evcs e)] w (GPost w base s lv at_ x { x.t with seen := max x.t.seen e.seen, steps := x.t.steps ++ [e] } pub done) := by
  have hsg : s ≠ x.g := hB.ne_ hT.blk (by decide)
  have hgs : x.g ≠ s := Ne.symm hsg
  have hB1 := hB.alloc (.cells (evcs e) 43)
  have hT1 := hT.alloc (.cells (evcs e) 43)
  have hF1 : Frm w (w.alloc (.cells (evcs e) 43)) (fun q => q = s ∨ TxBlk x q) := (Frm.refl w _).alloc _
  have v0 : (w.alloc (.cells (evcs e) 43)).cell? ⟨w.heap.size, 0, none⟩ = some (.int .i64 e.at_) := box_ev e w 0
  have v1 : (w.alloc (.cells (evcs e) 43)).cell? ⟨w.heap.size, 1, none⟩ = some (.int .i64 e.thread) := box_ev e w 1
  have v2 : (w.alloc (.cells (evcs e) 43)).cell? ⟨w.heap.size, 2, none⟩ = some (.int .i64 e.tx) := box_ev e w 2
  have v3 : (w.alloc (.cells (evcs e) 43)).cell? ⟨w.heap.size, 3, none⟩ = some (.int .i64 e.kind) := box_ev e w 3
  have v4 : (w.alloc (.cells (evcs e) 43)).cell? ⟨w.heap.size, 4, none⟩ = some (.int .i64 e.cell) := box_ev e w 4
  have v5 : (w.alloc (.cells (evcs e) 43)).cell? ⟨w.heap.size, 5, none⟩ = some (.int .i64 e.value) := box_ev e w 5
  have v6 : (w.alloc (.cells (evcs e) 43)).cell? ⟨w.heap.size, 6, none⟩ = some (.bool e.own) := box_ev e w 6
  have v7 : (w.alloc (.cells (evcs e) 43)).cell? ⟨w.heap.size, 7, none⟩ = some (.int .i64 e.start) := box_ev e w 7
  have v8 : (w.alloc (.cells (evcs e) 43)).cell? ⟨w.heap.size, 8, none⟩ = some (.int .i64 e.seen) := box_ev e w 8
  have v9 : (w.alloc (.cells (evcs e) 43)).cell? ⟨w.heap.size, 9, none⟩ = some (.int .i64 e.stamp) := box_ev e w 9
  have v10 : (w.alloc (.cells (evcs e) 43)).cell? ⟨w.heap.size, 10, none⟩ = some (.int .u64 e.s0) := box_ev e w 10
  have v11 : (w.alloc (.cells (evcs e) 43)).cell? ⟨w.heap.size, 11, none⟩ = some (.int .u64 e.s1) := box_ev e w 11
  have v12 : (w.alloc (.cells (evcs e) 43)).cell? ⟨w.heap.size, 12, none⟩ = some (.int .u64 e.s2) := box_ev e w 12
  have v13 : (w.alloc (.cells (evcs e) 43)).cell? ⟨w.heap.size, 13, none⟩ = some (.int .u64 e.s3) := box_ev e w 13
  have v14 : (w.alloc (.cells (evcs e) 43)).cell? ⟨w.heap.size, 14, none⟩ = some (.int .u64 e.s4) := box_ev e w 14
  have v15 : (w.alloc (.cells (evcs e) 43)).cell? ⟨w.heap.size, 15, none⟩ = some (.int .u64 e.s5) := box_ev e w 15
  have v16 : (w.alloc (.cells (evcs e) 43)).cell? ⟨w.heap.size, 16, none⟩ = some (.int .u64 e.s6) := box_ev e w 16
  have v17 : (w.alloc (.cells (evcs e) 43)).cell? ⟨w.heap.size, 17, none⟩ = some (.int .u64 e.s7) := box_ev e w 17
  have v18 : (w.alloc (.cells (evcs e) 43)).cell? ⟨w.heap.size, 18, none⟩ = some (.int .i64 e.err) := box_ev e w 18
  obtain ⟨x0, x1, x2, x3, x4, x5, x6, x7⟩ : (w.alloc (.cells (evcs e) 43)).cell? ⟨x.g, 0, none⟩ = some (.int .i64 x.t.thread) ∧ (w.alloc (.cells (evcs e) 43)).cell? ⟨x.g, 1, none⟩ = some (.int .i64 x.t.begun) ∧ (w.alloc (.cells (evcs e) 43)).cell? ⟨x.g, 2, none⟩ = some (.int .i64 x.t.ended) ∧ (w.alloc (.cells (evcs e) 43)).cell? ⟨x.g, 3, none⟩ = some (.int .i64 x.t.stamp) ∧ (w.alloc (.cells (evcs e) 43)).cell? ⟨x.g, 4, none⟩ = some (.int .i64 x.t.seen) ∧ (w.alloc (.cells (evcs e) 43)).cell? ⟨x.g, 5, none⟩ = some (.int .i64 x.t.err) ∧ (w.alloc (.cells (evcs e) 43)).cell? ⟨x.g, 7, none⟩ = some (.bool x.t.ov) ∧ (w.alloc (.cells (evcs e) 43)).cell? ⟨x.g, 8, none⟩ = some x.sv :=
    ⟨(hT1.blk.cell 0).trans rfl, (hT1.blk.cell 1).trans rfl, (hT1.blk.cell 2).trans rfl, (hT1.blk.cell 3).trans rfl, (hT1.blk.cell 4).trans rfl, (hT1.blk.cell 5).trans rfl, (hT1.blk.cell 7).trans rfl, (hT1.blk.cell 8).trans rfl⟩
  have y2 : (w.alloc (.cells (evcs e) 43)).cell? ⟨s, 2, none⟩ = some (.int .i64 pub) := (hB1.cell 2).trans rfl
  have y3 : (w.alloc (.cells (evcs e) 43)).cell? ⟨s, 3, none⟩ = some (.int .i64 done) := (hB1.cell 3).trans rfl
  have fs : ∀ i, (w.alloc (.cells (evcs e) 43)).frozen? ⟨s, i, none⟩ = false := hB1.frozen
  have fg : ∀ i, (w.alloc (.cells (evcs e) 43)).frozen? ⟨x.g, i, none⟩ = false := hT1.blk.frozen
  have hqs : w.heap.size ≠ s := Ne.symm (Nat.ne_of_lt hB.lt)
  have hqg : w.heap.size ≠ x.g := Ne.symm (Nat.ne_of_lt hT.blk.lt)
  have hsq : s ≠ w.heap.size := Ne.symm hqs
  have hgq : x.g ≠ w.heap.size := Ne.symm hqg
  have hk5 : decide (e.kind = 5) = false := by simp [hk]
  have hk2 : decide (e.kind = 2) = true := by simp [hk]
  
  have hn5 : ¬ e.kind = 5 := by omega
  have hb2 : (e.kind == 2) = true := by simp [hk]
  clear hk
  rw [h0] at x3
  have hs1 : decide (e.cell < 0) = false := by simp; omega
  have hs2 : decide (1024 ≤ e.cell) = false := by simp; omega
  have hone := ev_one e
  have hn1 : x.t.steps.length + 1 ≤ maxLen := by unfold maxLen; omega
  have hnb : (x.t.steps.length + 1) * 152 ≤ 140737488355328 := hst
  have hbw : base ≤ w.heap.size := Nat.le_trans hT.lo (Nat.le_of_lt hT.blk.lt)
  have hbW : base ≤ (w.alloc (.cells (evcs e) 43)).heap.size := by simp; omega
  have hr1 : (w.alloc (.cells (evcs e) 43)).rangeAt w.heap.size 0 (evcs e).toList := ev_range w e
  have hnq : x.sv.ownBlock ≠ some w.heap.size := fun hh => by
    obtain ⟨cs', hc⟩ := own_blk hT.steps hh
    exact absurd hc.lt (Nat.lt_irrefl _)
  have hqW : ∀ {o : Obj}, w.heap.size < ((w.alloc (.cells (evcs e) 43)).drew.alloc o).heap.size := by simp; omega
  have hgW : ∀ {o : Obj}, x.g < ((w.alloc (.cells (evcs e) 43)).drew.alloc o).heap.size := by have := hT.blk.lt; simp; omega
  have hszW : ∀ {o : Obj}, ((w.alloc (.cells (evcs e) 43)).drew.alloc o).heap.size = (w.alloc (.cells (evcs e) 43)).heap.size + 1 := by simp
  have hbW2 : ∀ {o : Obj}, base ≤ ((w.alloc (.cells (evcs e) 43)).drew.alloc o).heap.size := by simp; omega
  have hgl : x.g < (w.alloc (.cells (evcs e) 43)).heap.size := hT1.blk.lt
  have x8a : ∀ o, ((w.alloc (.cells (evcs e) 43)).alloc o).cell? ⟨x.g, 8, none⟩ = some x.sv := fun o => (World.cell?_alloc_lt _ _ ⟨x.g, 8, none⟩ hgl).trans x7
  have hnx : x.sv.ownBlock ≠ some x.g := fun hh => by
    obtain ⟨cs', hc⟩ := own_blk hT.steps hh
    exact (hc.ne_ hT.blk (by decide)) rfl
  have hqW0 : w.heap.size < (w.alloc (.cells (evcs e) 43)).heap.size := by simp
  have HB := Lib.hid hB1
  have HT := Lib.hid hT1
  have HF := Lib.hid hF1
  clear hB hT hB1 hT1 hF1
  go_enter Tryz.func50, Tryz.ntmps50
  go_wp2_with fail
  generalize w.alloc (.cells (evcs e) 43) = W1 at *
  go_wp2_with fail
  clear v0 v1 v2 v3 v4 v5 v6 v7 v9 v10 v11 v12 v13 v14 v15 v16 v17 v18 x0 x1 x2 x3 x5 x6 y2 y3 hk5 hk2 hn5 hb2 hs1 hs2 hp hd h0
  go_region
  have hm : (if x.t.seen < e.seen then e.seen else x.t.seen) = max x.t.seen e.seen := by rw [Int.max_def]; split <;> split <;> omega
  rw [hm]
  go_wp2_with fail
  have HB2 := Lib.hid (Blk.drew (HB.out.far hsg (p := ⟨x.g, 4, none⟩) (.int .i64 (max x.t.seen e.seen))))
  have HT2 := Lib.hid (TxAt.drew (HT.out.set_ 4 (.int .i64 (max x.t.seen e.seen)) { x.t with seen := max x.t.seen e.seen } rfl rfl))
  have HF2 := Lib.hid (Frm.drew (HF.out.set x.g 4 (.int .i64 (max x.t.seen e.seen)) (.inl (.inr (.inl rfl)))))
  have hr2 := (EvS.set ⟨hr1⟩ ⟨x.g, 4, none⟩ (.int .i64 (max x.t.seen e.seen)) hgq).ev
  replace hr2 : (W1.setCell ⟨x.g, 4, none⟩ (.int .i64 (max x.t.seen e.seen))).drew.rangeAt w.heap.size 0 (evcs e).toList := hr2
  have hsW : (W1.setCell ⟨x.g, 4, none⟩ (.int .i64 (max x.t.seen e.seen))).drew.heap.size = W1.heap.size := by simp
  clear HB HT HF hr1 x4 x7 x8a v8 hm fs fg hqW hgW hszW hbW2
  generalize (W1.setCell ⟨x.g, 4, none⟩ (.int .i64 (max x.t.seen e.seen))).drew = W2 at *
  rw [← hsW] at hgl hbW hqW0
  clear hsW
  have x7 : W2.cell? ⟨x.g, 8, none⟩ = some x.sv := (HT2.out.blk.cell 8).trans rfl
  have fg : ∀ i, W2.frozen? ⟨x.g, i, none⟩ = false := HT2.out.blk.frozen
  have hszW : ∀ {o : Obj}, (W2.drew.alloc o).heap.size = W2.heap.size + 1 := by simp
  have hqW : ∀ {o : Obj}, w.heap.size < (W2.drew.alloc o).heap.size := by simp; omega
  have hgW : ∀ {o : Obj}, x.g < (W2.drew.alloc o).heap.size := by simp; omega
  have hbW2 : ∀ {o : Obj}, base ≤ (W2.drew.alloc o).heap.size := by simp; omega
  have x8a : ∀ o, (W2.alloc o).cell? ⟨x.g, 8, none⟩ = some x.sv := fun o => (World.cell?_alloc_lt _ _ ⟨x.g, 8, none⟩ hgl).trans x7
  refine wp_abs fun a ha => ?_
  have e1 : a.eval (.tmp 1) = .pointer (some ⟨x.g, 0, none⟩) := by rw [ha]; rfl
  have e5 : a.eval (.tmp 5) = .pointer (some ⟨w.heap.size, 0, none⟩) := by rw [ha]; rfl
  have hsz : 90 ≤ a.tmps.size := by rw [ha]; exact Nat.le_of_ble_eq_true rfl
  refine wp_region_held_drew (S := EvS w.heap.size e) (by kernel_rfl) ⟨hr2⟩ (fun hS => ?_)
  refine take_at 0 80 (v := .pointer (some ⟨x.g, 0, none⟩)) rfl rfl (by kernel_rfl) (by kernel_rfl) (by kernel_rfl) (fun _ _ _ h => h) (yi_move rfl (.tmp 1) rfl e1) hS ?_
  refine take_at 1 81 (v := .pointer (some ⟨x.g, 0, none⟩)) rfl rfl (by kernel_rfl) (by kernel_rfl) (by kernel_rfl) (fun _ _ _ h => h) (yi_move rfl (.tmp 1) rfl (by (simp (discharger := (first | decide | omega | (simp only [Act.size_put]; omega))) only [Act.eval_put_same, Act.eval_put_ne, e1, e5]); all_goals rfl)) hS ?_
  refine take_at 2 82 (v := .pointer (some ⟨x.g, 0, none⟩)) rfl rfl (by kernel_rfl) (by kernel_rfl) (by kernel_rfl) (fun _ _ _ h => h) (yi_nilCheck rfl (.tmp 81) rfl (by (simp (discharger := (first | decide | omega | (simp only [Act.size_put]; omega))) only [Act.eval_put_same, Act.eval_put_ne, e1, e5]); all_goals rfl)) hS ?_
  refine take_at 3 83 (v := .pointer (some ⟨x.g, 8, none⟩)) rfl rfl (by kernel_rfl) (by kernel_rfl) (by kernel_rfl) (fun _ _ _ h => h) (yi_field (b := x.g) (k := 0) rfl 66 (.tmp 82) 3 rfl (by (simp (discharger := (first | decide | omega | (simp only [Act.size_put]; omega))) only [Act.eval_put_same, Act.eval_put_ne, e1, e5]); all_goals rfl) Tryz.underlying66 rfl (fun w' => by go_simp)) hS ?_
  refine take_at 5 85 (v := .agg (evcs e)) rfl rfl (by kernel_rfl) (by kernel_rfl) (by kernel_rfl) (fun _ _ _ h => h) (yi_load1 rfl 43 (.tmp 5) rfl (by (simp (discharger := (first | decide | omega | (simp only [Act.size_put]; omega))) only [Act.eval_put_same, Act.eval_put_ne, e1, e5]); all_goals rfl) (fun w' h => ev_load h.ev)) hS ?_
  refine pair_at 4 6 84 86 (.load 22 (.tmp 83)) (.buildSlice 22 1 #[(0, .tmp 85)]) (v := x.sv) (u := .slice (some ⟨W2.heap.size, 0, none⟩) 1 1) (w2 := W2.drew.alloc (.cells (evcs e) 43)) (by kernel_rfl) rfl rfl rfl rfl rfl rfl rfl rfl (by kernel_rfl) (by kernel_rfl) (by decide) (by decide) ?_ ?_ hS ⟨World.rangeAt_alloc hr2 _⟩ ?_
  · rintro K o a' w' (⟨rfl, rfl⟩ | ⟨rfl, rfl⟩) hd ho hK
    · exact wp_load_sl (.tmp 83) ho (by (simp (discharger := (first | decide | omega | (simp only [Act.size_put]; omega))) only [Act.eval_put_same, Act.eval_put_ne, e1, e5]); all_goals rfl) x7 hK
    · exact wp_load_sl (.tmp 83) ho (by (simp (discharger := (first | decide | omega | (simp only [Act.size_put]; omega))) only [Act.eval_put_same, Act.eval_put_ne, e1, e5]); all_goals rfl) (x8a _) hK
  · rintro K o a' (rfl | rfl) hd ho hK
    · exact wp_build_ev (e := e) (.tmp 85) ho (by (simp (discharger := (first | decide | omega | (simp only [Act.size_put]; omega))) only [Act.eval_put_same, Act.eval_put_ne, e1, e5]); all_goals rfl) hK
    · exact wp_build_ev (e := e) (.tmp 85) ho (by (simp (discharger := (first | decide | omega | (simp only [Act.size_put]; omega))) only [Act.eval_put_same, Act.eval_put_ne, e1, e5]); all_goals rfl) hK
  obtain ⟨i0, hi0, hz0, hz1, hz2⟩ := info_parts info_ev
  refine step_at 7 (some 87) (.call { callee := .builtin .append, args := #[.tmp 84, .tmp 86], argTypes := #[22, 22] }) (by kernel_rfl) rfl rfl rfl rfl fun K o hd ho hK => wp_append_lies _ (.tmp 84) (.tmp 86) 22 ho base 43 i0 _ 19 152 Tryz.underlying22 hi0 hz0 hz1 hz2 rfl (by omega) x.sv x.t.steps.length (evs x.t.steps) (by (simp (discharger := (first | decide | omega | (simp only [Act.size_put]; omega))) only [Act.eval_put_same, Act.eval_put_ne, e1, e5]); all_goals rfl) (show _ from HT2.out.steps.alloc _)
        ⟨W2.heap.size, 0, none⟩ 1 1 (evcs e).toList (by (simp (discharger := (first | decide | omega | (simp only [Act.size_put]; omega))) only [Act.eval_put_same, Act.eval_put_ne, e1, e5]); all_goals rfl) (by rfl) (news_ev W2.drew e) hone
        (by omega) hn1 hnb hbW2 (W2.heap.size + 1) hszW ?_
  intro gg cap w2 hown1 hgrow hat hlt2
  have hS2 : EvS w.heap.size e w2 := EvS.grown (W := W2.drew.alloc (.cells (evcs e) 43)) ⟨World.rangeAt_alloc hr2 _⟩ hgrow hqW hnq
  have cl2 : w2.cell? ⟨x.g, 8, none⟩ = some x.sv := (hgrow.cell_far ⟨x.g, 8, none⟩ hgW (Ne.symm hnx)).trans (x8a _)
  have fl2 : w2.frozen? ⟨x.g, 8, none⟩ = false := (hgrow.frozen_far ⟨x.g, 8, none⟩ hgW (Ne.symm hnx)).trans ((frozen?_alloc_cells _ _ _ ⟨x.g, 8, none⟩).trans (fg 8))
  rw [hd]
  refine hK.out _ _ hS2 ?_
  clear hK hd ho o K
  have HP := Lib.hid (push_end HF2.out HB2.out HT2.out hown1 ⟨hgrow.os, hgrow.tape, hgrow.output, hgrow.size, hgrow.block⟩ hat)
  clear hown1 hgrow hat
  refine take_at 8 88 (v := .pointer (some ⟨x.g, 0, none⟩)) rfl rfl (by kernel_rfl) (by kernel_rfl) (by kernel_rfl) (fun _ _ _ h => h) (yi_nilCheck rfl (.tmp 80) rfl (by (simp (discharger := (first | decide | omega | (simp only [Act.size_put]; omega))) only [Act.eval_put_same, Act.eval_put_ne, e1, e5]); all_goals rfl)) hS2 ?_
  refine take_at 9 89 (v := .pointer (some ⟨x.g, 8, none⟩)) rfl rfl (by kernel_rfl) (by kernel_rfl) (by kernel_rfl) (fun _ _ _ h => h) (yi_field (b := x.g) (k := 0) rfl 66 (.tmp 88) 3 rfl (by (simp (discharger := (first | decide | omega | (simp only [Act.size_put]; omega))) only [Act.eval_put_same, Act.eval_put_ne, e1, e5]); all_goals rfl) Tryz.underlying66 rfl (fun w' => by go_simp)) hS2 ?_
  refine step_at 10 none (.store 22 (.tmp 89) (.tmp 87)) (by kernel_rfl) rfl rfl rfl rfl fun K o hd ho hK => wp_store1 22 (.tmp 89) (.tmp 87) ho hd (by (simp (discharger := (first | decide | omega | (simp only [Act.size_put]; omega))) only [Act.eval_put_same, Act.eval_put_ne, e1, e5]); all_goals rfl) (by (simp (discharger := (first | decide | omega | (simp only [Act.size_put]; omega))) only [Act.eval_put_same, Act.eval_put_ne, e1, e5]); all_goals rfl) (sl_store cl2 fl2) (hK.out _ _ (hS2.set _ _ hgq) ?_)
  clear hK hd ho o K
  refine wpAnyH_done (by kernel_rfl) ?_ _
  clear hS hS2 e1 e5 hsz
  subst ha
  go_wp2_with fail
  go_ret
  exact ⟨rfl, HP.out⟩

end Go.Proofs.YtffjcojehiblnaaGreatDoor

/- The walk of (*book).goes, whatever comes. -/
namespace Go.Proofs.YtffjcojehiblnaaGreatDoor
open Go.RowKit Go.Joins Go.ChangeShapes Go.WideShapes Go.Deep
set_option linter.unusedVariables false
set_option linter.unusedSimpArgs false
set_option maxRecDepth 100000

theorem goes_any (e : Ev) {s base : Nat} {w : World} {lv : Value} {at_ : Int} {pub done : Nat} {x : TxM} (hB : Blk w s 80 #[lv, .int .i64 at_, .int .i64 pub, .int .i64 done]) (hT : TxAt w base x) (hd : done ≤ 4611686018427387904) (hp : pub ≤ 4611686018427387904) (hst : (x.t.steps.length + 1) * 152 ≤ 140737488355328) :
    Calls Tryz.prog 50 #[.pointer (some ⟨s, 0, none⟩), .pointer (some ⟨x.g, 0, none⟩), .agg (evcs e)] w (fun r w' => match goesF x.t pub done e with
      | none => r = .returned (.bool false) ∧ Below w.heap.size w w'
      | some (t', p', d') => GPost w base s lv at_ x t' p' d' r w') := by
  have c3 : w.cell? ⟨x.g, 3, none⟩ = some (.int .i64 x.t.stamp) := (hT.blk.cell 3).trans rfl
  have y2 : w.cell? ⟨s, 2, none⟩ = some (.int .i64 pub) := (hB.cell 2).trans rfl
  have y3 : w.cell? ⟨s, 3, none⟩ = some (.int .i64 done) := (hB.cell 3).trans rfl
  unfold goesF
  by_cases k5 : e.kind = 5
  · rw [if_pos k5]
    by_cases h0 : x.t.stamp = 0
    · rw [if_pos (.inl h0)]
      rw [h0] at c3
      exact goes_c0 e s x.g w k5 c3
    by_cases h1 : e.stamp = x.t.stamp
    · by_cases h2 : x.t.stamp = (done : Int) + 1
      · rw [if_neg (by rintro (h | h | h); exact h0 h; exact h h1; exact h (h1.trans h2))]
        exact goes_done e hB hT hd hp k5 h0 h1 h2
      · rw [if_pos (.inr (.inr (by rw [h1]; exact h2)))]
        exact goes_c2 e s x.g w x.t.stamp done hd k5 h0 h1 h2 c3 y3
    · rw [if_pos (.inr (.inl h1))]
      exact goes_c1 e s x.g w x.t.stamp k5 h0 h1 c3
  rw [if_neg k5]
  by_cases h0 : x.t.stamp = 0
  · rw [if_neg (by simpa using h0)]
    have c30 := c3
    rw [h0] at c30
    by_cases k2 : e.kind = 2
    · rw [if_pos (.inl k2)]
      by_cases d0 : e.cell < 0
      · rw [if_pos (.inl d0)]
        exact goes_cell0 e s x.g w k2 d0 c30
      by_cases d1 : 1024 ≤ e.cell
      · rw [if_pos (.inr d1)]
        exact goes_cell1 e s x.g w k2 d0 d1 c30
      rw [if_neg (by rintro (h | h); exact d0 h; exact d1 h), if_pos k2]
      exact goes_read e hB hT hd hp k2 h0 (by omega) (by omega) hst
    by_cases k3 : e.kind = 3
    · rw [if_pos (.inr k3)]
      by_cases d0 : e.cell < 0
      · rw [if_pos (.inl d0)]
        exact goes_cell2 e s x.g w k3 d0 c30
      by_cases d1 : 1024 ≤ e.cell
      · rw [if_pos (.inr d1)]
        exact goes_cell3 e s x.g w k3 d0 d1 c30
      rw [if_neg (by rintro (h | h); exact d0 h; exact d1 h), if_neg k2]
      exact goes_wrote e hB hT hd hp k3 h0 (by omega) (by omega) hst
    rw [if_neg (by rintro (h | h); exact k2 h; exact k3 h)]
    by_cases k4 : e.kind = 4
    · rw [if_pos k4]
      by_cases h2 : e.stamp = (pub : Int) + 1
      · rw [if_neg (by simpa using h2)]
        exact goes_publish e hB hT hd hp k4 h0 h2
      · rw [if_pos h2]
        exact goes_stamp e s x.g w pub hp k4 h2 c30 y2
    rw [if_neg k4]
    by_cases k6 : e.kind = 6
    · rw [if_pos k6]
      exact goes_end e hB hT hd hp k6 h0
    rw [if_neg k6]
    exact goes_other e s x.g w k5 k2 k3 k4 k6 c30
  · rw [if_pos h0]
    exact goes_pub e s x.g w x.t.stamp k5 h0 c3
end Go.Proofs.YtffjcojehiblnaaGreatDoor
