/- The walk of (*book).next: the next event. -/
import Derived.Test.YtffjcojehiblnaaDoorHw6
import Derived.Test.YtffjcojehiblnaaDoorHo
import Derived.Deep.Cut
namespace Go.Proofs.YtffjcojehiblnaaDoor
open Go.RowKit Go.Joins Go.ChangeShapes Go.WideShapes Go.Deep
set_option linter.unusedVariables false
set_option linter.unusedSimpArgs false
set_option maxRecDepth 100000

def NPost (w : World) (base s : Nat) (o : Option Book) : Ending → World → Prop := fun r w' => match o with
  | none => r = .returned (.bool false) ∧ Below base w w'
  | some b' => r = .returned (.bool true) ∧ ∃ lv' l', BookAt w' base s lv' b' l' ∧ Below base w w'

set_option maxHeartbeats 400000 in
theorem next_low (e : Ev) {s base : Nat} {w : World} {lv : Value} {b : Book} {l : List TxM} (h : BookAt w base s lv b l) (c1 : e.at_ < b.at_) :
    Calls Tryd.prog 27 #[.pointer (some ⟨s, 0, none⟩), .agg (evcs e)] w (NPost w base s none) := by
  have hbw : base ≤ w.heap.size := Nat.le_trans h.lo (Nat.le_of_lt h.blk.lt)
  have hbel : Below base w (w.alloc (.cells (evcs e) 35)) := Below.alloc (Below.refl _ _) hbw _
  have h1 := h.alloc (.cells (evcs e) 35)
  have hbl : s < w.heap.size := h.blk.lt
  have hqs : w.heap.size ≠ s := Ne.symm (Nat.ne_of_lt hbl)
  have hsq : s ≠ w.heap.size := Nat.ne_of_lt hbl
  have hlo := h.lo
  have hgs : ∀ y ∈ l, y.g < w.heap.size := fun y hy => (h.txs y hy).blk.lt
  have y0 : (w.alloc (.cells (evcs e) 35)).cell? ⟨s, 0, none⟩ = some lv := (h1.blk.cell 0).trans rfl
  have y1 : (w.alloc (.cells (evcs e) 35)).cell? ⟨s, 1, none⟩ = some (.int .i64 b.at_) := (h1.blk.cell 1).trans rfl
  have y2 : (w.alloc (.cells (evcs e) 35)).cell? ⟨s, 2, none⟩ = some (.int .i64 b.pub) := (h1.blk.cell 2).trans rfl
  have fs : ∀ i, (w.alloc (.cells (evcs e) 35)).frozen? ⟨s, i, none⟩ = false := h1.blk.frozen
  have hr1 : (w.alloc (.cells (evcs e) 35)).rangeAt w.heap.size 0 (evcs e).toList := ev_range w e
  have hqW : w.heap.size < (w.alloc (.cells (evcs e) 35)).heap.size := by simp
  have v0 : (w.alloc (.cells (evcs e) 35)).cell? ⟨w.heap.size, 0, none⟩ = some (.int .i64 e.at_) := box_ev e w 0
  have hg1 : decide (e.at_ < b.at_) = true := by simp [c1]
  have H := Lib.hid h1
  have HB := Lib.hid hbel
  clear h h1 hbel
  go_enter Tryd.func27, Tryd.ntmps27
  go_wp2_with fail
  generalize w.alloc (.cells (evcs e) 35) = W1 at *
  go_quiet (fail)
  go_wp2
  go_ret
  exact ⟨rfl, by first | exact HB.out | exact below_drewN HB.out _ | exact below_drewN (below_drewN HB.out _) _⟩

set_option maxHeartbeats 400000 in
theorem next_open0 (e : Ev) {s base : Nat} {w : World} {lv : Value} {b : Book} {l : List TxM} (h : BookAt w base s lv b l) (c1 : ¬ e.at_ < b.at_) (k7 : e.kind = 7) (c2 : ¬ e.tx = b.l.length) :
    Calls Tryd.prog 27 #[.pointer (some ⟨s, 0, none⟩), .agg (evcs e)] w (NPost w base s none) := by
  have hbw : base ≤ w.heap.size := Nat.le_trans h.lo (Nat.le_of_lt h.blk.lt)
  have hbel : Below base w (w.alloc (.cells (evcs e) 35)) := Below.alloc (Below.refl _ _) hbw _
  have h1 := h.alloc (.cells (evcs e) 35)
  have hbl : s < w.heap.size := h.blk.lt
  have hqs : w.heap.size ≠ s := Ne.symm (Nat.ne_of_lt hbl)
  have hsq : s ≠ w.heap.size := Nat.ne_of_lt hbl
  have hlo := h.lo
  have hgs : ∀ y ∈ l, y.g < w.heap.size := fun y hy => (h.txs y hy).blk.lt
  have y0 : (w.alloc (.cells (evcs e) 35)).cell? ⟨s, 0, none⟩ = some lv := (h1.blk.cell 0).trans rfl
  have y1 : (w.alloc (.cells (evcs e) 35)).cell? ⟨s, 1, none⟩ = some (.int .i64 b.at_) := (h1.blk.cell 1).trans rfl
  have y2 : (w.alloc (.cells (evcs e) 35)).cell? ⟨s, 2, none⟩ = some (.int .i64 b.pub) := (h1.blk.cell 2).trans rfl
  have fs : ∀ i, (w.alloc (.cells (evcs e) 35)).frozen? ⟨s, i, none⟩ = false := h1.blk.frozen
  have hr1 : (w.alloc (.cells (evcs e) 35)).rangeAt w.heap.size 0 (evcs e).toList := ev_range w e
  have hqW : w.heap.size < (w.alloc (.cells (evcs e) 35)).heap.size := by simp
  have v0 : (w.alloc (.cells (evcs e) 35)).cell? ⟨w.heap.size, 0, none⟩ = some (.int .i64 e.at_) := box_ev e w 0
  have hg1 : decide (e.at_ < b.at_) = false := by simp; omega
  have H := Lib.hid h1
  have HB := Lib.hid hbel
  clear h h1 hbel
  go_enter Tryd.func27, Tryd.ntmps27
  go_wp2_with fail
  generalize w.alloc (.cells (evcs e) 35) = W1 at *
  go_quiet (fail)
  go_upto_region 4 with fail
  refine wp_world fun W2 hW2 => ?_
  have H2 : BookAt W2 base s lv { b with at_ := e.at_ } l := by rw [hW2]; exact (H.out.drewN _).set_ 1 (.int .i64 e.at_) { b with at_ := e.at_ } rfl rfl
  have HB2 : Below base w W2 := by rw [hW2]; exact Below.setCell (below_drewN HB.out _) hlo _
  have hr2 : W2.rangeAt w.heap.size 0 (evcs e).toList := by rw [hW2]; exact (EvS.set (W := W1) ⟨hr1⟩ ⟨s, 1, none⟩ (.int .i64 e.at_) hsq).ev
  have hqW2 : w.heap.size < W2.heap.size := by rw [hW2]; simp; omega
  have hbW2 : base ≤ W2.heap.size := by omega
  clear hW2 H HB hr1 hqW y0 y1 y2 fs v0 hg1
  clear W1
  have u2 : W2.cell? ⟨w.heap.size, 2, none⟩ = some (.int .i64 e.tx) := ev_at hr2 2 _ rfl
  have u3 : W2.cell? ⟨w.heap.size, 3, none⟩ = some (.int .i64 e.kind) := ev_at hr2 3 _ rfl
  rw [k7] at u3
  obtain ⟨R, c, hlv, hlc⟩ : ∃ R c, lv = .slice R b.l.length c ∧ b.l.length ≤ c := by
    obtain ⟨R, c, h1, h2, _⟩ := own_shapes H2.row
    rw [← H2.len] at h1 h2
    exact ⟨R, c, h1, h2⟩
  have y0 : W2.cell? ⟨s, 0, none⟩ = some lv := (H2.blk.cell 0).trans rfl
  rw [hlv] at y0
  have hb2 : (e.tx != (b.l.length : Int)) = true := by simp [c2]
  have H := Lib.hid H2
  have HB := Lib.hid HB2
  have HR := Lib.hid hr2
  clear H2 HB2 hr2
  go_wp2_with fail
  go_quiet (fail)
  go_wp2
  go_ret
  exact ⟨rfl, by first | exact HB.out | exact below_drewN HB.out _ | exact below_drewN (below_drewN HB.out _) _⟩

set_option maxHeartbeats 400000 in
theorem next_none (e : Ev) {s base : Nat} {w : World} {lv : Value} {b : Book} {l : List TxM} (h : BookAt w base s lv b l) (c1 : ¬ e.at_ < b.at_) (k7 : ¬ e.kind = 7) (c2 : ofF b e = none) :
    Calls Tryd.prog 27 #[.pointer (some ⟨s, 0, none⟩), .agg (evcs e)] w (NPost w base s none) := by
  have hbw : base ≤ w.heap.size := Nat.le_trans h.lo (Nat.le_of_lt h.blk.lt)
  have hbel : Below base w (w.alloc (.cells (evcs e) 35)) := Below.alloc (Below.refl _ _) hbw _
  have h1 := h.alloc (.cells (evcs e) 35)
  have hbl : s < w.heap.size := h.blk.lt
  have hqs : w.heap.size ≠ s := Ne.symm (Nat.ne_of_lt hbl)
  have hsq : s ≠ w.heap.size := Nat.ne_of_lt hbl
  have hlo := h.lo
  have hgs : ∀ y ∈ l, y.g < w.heap.size := fun y hy => (h.txs y hy).blk.lt
  have y0 : (w.alloc (.cells (evcs e) 35)).cell? ⟨s, 0, none⟩ = some lv := (h1.blk.cell 0).trans rfl
  have y1 : (w.alloc (.cells (evcs e) 35)).cell? ⟨s, 1, none⟩ = some (.int .i64 b.at_) := (h1.blk.cell 1).trans rfl
  have y2 : (w.alloc (.cells (evcs e) 35)).cell? ⟨s, 2, none⟩ = some (.int .i64 b.pub) := (h1.blk.cell 2).trans rfl
  have fs : ∀ i, (w.alloc (.cells (evcs e) 35)).frozen? ⟨s, i, none⟩ = false := h1.blk.frozen
  have hr1 : (w.alloc (.cells (evcs e) 35)).rangeAt w.heap.size 0 (evcs e).toList := ev_range w e
  have hqW : w.heap.size < (w.alloc (.cells (evcs e) 35)).heap.size := by simp
  have v0 : (w.alloc (.cells (evcs e) 35)).cell? ⟨w.heap.size, 0, none⟩ = some (.int .i64 e.at_) := box_ev e w 0
  have hg1 : decide (e.at_ < b.at_) = false := by simp; omega
  have H := Lib.hid h1
  have HB := Lib.hid hbel
  clear h h1 hbel
  go_enter Tryd.func27, Tryd.ntmps27
  go_wp2_with fail
  generalize w.alloc (.cells (evcs e) 35) = W1 at *
  go_quiet (fail)
  go_upto_region 4 with fail
  refine wp_world fun W2 hW2 => ?_
  have H2 : BookAt W2 base s lv { b with at_ := e.at_ } l := by rw [hW2]; exact (H.out.drewN _).set_ 1 (.int .i64 e.at_) { b with at_ := e.at_ } rfl rfl
  have HB2 : Below base w W2 := by rw [hW2]; exact Below.setCell (below_drewN HB.out _) hlo _
  have hr2 : W2.rangeAt w.heap.size 0 (evcs e).toList := by rw [hW2]; exact (EvS.set (W := W1) ⟨hr1⟩ ⟨s, 1, none⟩ (.int .i64 e.at_) hsq).ev
  have hqW2 : w.heap.size < W2.heap.size := by rw [hW2]; simp; omega
  have hbW2 : base ≤ W2.heap.size := by omega
  clear hW2 H HB hr1 hqW y0 y1 y2 fs v0 hg1
  clear W1
  have u3 : W2.cell? ⟨w.heap.size, 3, none⟩ = some (.int .i64 e.kind) := ev_at hr2 3 _ rfl
  have hk7 : decide (e.kind = 7) = false := by simp [k7]
  have H := Lib.hid H2
  have HB := Lib.hid HB2
  have HR := Lib.hid hr2
  clear H2 HB2 hr2
  go_wp2_with (first | (refine wpList_load_mid rfl 35 (.tmp 3) rfl w.heap.size 0 rfl (evcs e).toList _ HR.out Tryd.underlying35 rfl (by kernel_rfl) ?_) | (go_at_call 43; go_loud (refine (of_any H.out e).mono ?_; rintro r w3 ⟨hb3, hq⟩; rw [show ofF { b with at_ := e.at_ } e = none from c2] at hq; have hq' : r = .returned (.pointer none) := hq; clear hq; subst hq')))
  go_ret
  exact ⟨rfl, HB.out.trans (hb3.mono hbW2)⟩

set_option maxHeartbeats 400000 in
theorem next_begun0 (e : Ev) {s base : Nat} {w : World} {lv : Value} {b : Book} {l : List TxM} (h : BookAt w base s lv b l) (c1 : ¬ e.at_ < b.at_) (k7 : ¬ e.kind = 7) {k : Nat} {t : TxP} (c2 : ofF b e = some k) (ct : b.l[k]? = some t) (k1 : e.kind = 1) (hbg : t.bg = true) :
    Calls Tryd.prog 27 #[.pointer (some ⟨s, 0, none⟩), .agg (evcs e)] w (NPost w base s none) := by
  have hbw : base ≤ w.heap.size := Nat.le_trans h.lo (Nat.le_of_lt h.blk.lt)
  have hbel : Below base w (w.alloc (.cells (evcs e) 35)) := Below.alloc (Below.refl _ _) hbw _
  have h1 := h.alloc (.cells (evcs e) 35)
  have hbl : s < w.heap.size := h.blk.lt
  have hqs : w.heap.size ≠ s := Ne.symm (Nat.ne_of_lt hbl)
  have hsq : s ≠ w.heap.size := Nat.ne_of_lt hbl
  have hlo := h.lo
  have hgs : ∀ y ∈ l, y.g < w.heap.size := fun y hy => (h.txs y hy).blk.lt
  have y0 : (w.alloc (.cells (evcs e) 35)).cell? ⟨s, 0, none⟩ = some lv := (h1.blk.cell 0).trans rfl
  have y1 : (w.alloc (.cells (evcs e) 35)).cell? ⟨s, 1, none⟩ = some (.int .i64 b.at_) := (h1.blk.cell 1).trans rfl
  have y2 : (w.alloc (.cells (evcs e) 35)).cell? ⟨s, 2, none⟩ = some (.int .i64 b.pub) := (h1.blk.cell 2).trans rfl
  have fs : ∀ i, (w.alloc (.cells (evcs e) 35)).frozen? ⟨s, i, none⟩ = false := h1.blk.frozen
  have hr1 : (w.alloc (.cells (evcs e) 35)).rangeAt w.heap.size 0 (evcs e).toList := ev_range w e
  have hqW : w.heap.size < (w.alloc (.cells (evcs e) 35)).heap.size := by simp
  have v0 : (w.alloc (.cells (evcs e) 35)).cell? ⟨w.heap.size, 0, none⟩ = some (.int .i64 e.at_) := box_ev e w 0
  have hg1 : decide (e.at_ < b.at_) = false := by simp; omega
  have H := Lib.hid h1
  have HB := Lib.hid hbel
  clear h h1 hbel
  go_enter Tryd.func27, Tryd.ntmps27
  go_wp2_with fail
  generalize w.alloc (.cells (evcs e) 35) = W1 at *
  go_quiet (fail)
  go_upto_region 4 with fail
  refine wp_world fun W2 hW2 => ?_
  have H2 : BookAt W2 base s lv { b with at_ := e.at_ } l := by rw [hW2]; exact (H.out.drewN _).set_ 1 (.int .i64 e.at_) { b with at_ := e.at_ } rfl rfl
  have HB2 : Below base w W2 := by rw [hW2]; exact Below.setCell (below_drewN HB.out _) hlo _
  have hr2 : W2.rangeAt w.heap.size 0 (evcs e).toList := by rw [hW2]; exact (EvS.set (W := W1) ⟨hr1⟩ ⟨s, 1, none⟩ (.int .i64 e.at_) hsq).ev
  have hqW2 : w.heap.size < W2.heap.size := by rw [hW2]; simp; omega
  have hbW2 : base ≤ W2.heap.size := by omega
  clear hW2 H HB hr1 hqW y0 y1 y2 fs v0 hg1
  clear W1
  have u3 : W2.cell? ⟨w.heap.size, 3, none⟩ = some (.int .i64 e.kind) := ev_at hr2 3 _ rfl
  have hk7 : decide (e.kind = 7) = false := by simp [k7]
  have hk1 : decide (e.kind = 1) = true := by simp [k1]
  have H := Lib.hid H2
  have HB := Lib.hid HB2
  have HR := Lib.hid hr2
  clear H2 HB2 hr2
  go_wp2_with (first | (refine wpList_load_mid rfl 35 (.tmp 3) rfl w.heap.size 0 rfl (evcs e).toList _ HR.out Tryd.underlying35 rfl (by kernel_rfl) ?_) | (go_at_call 43; refine (of_any H.out e).mono ?_; rintro r w3 ⟨hb3, hq⟩; rw [show ofF { b with at_ := e.at_ } e = some k from c2] at hq; obtain ⟨x, hx, hbx, hq'⟩ := hq; subst hq'; (have hxt : x.t = t := Option.some.inj (hbx.symm.trans ct)); subst hxt; (have H3 := Lib.hid (H.out.below hb3 (Nat.le_refl _))); (have HT3 := Lib.hid (H3.out.txs x (List.mem_of_getElem? hx))); (have hr3 : w3.rangeAt w.heap.size 0 (evcs e).toList := fun j v hv => (hb3.cell (p := ⟨w.heap.size, 0 + j, none⟩) hqW2).trans (HR.out j v hv)); (have x6 : w3.cell? ⟨x.g, 6, none⟩ = some (.bool x.t.bg) := (HT3.out.blk.cell 6).trans rfl); rw [hbg] at x6; skip; (have r3 : w3.cell? ⟨w.heap.size, 3, none⟩ = some (.int .i64 e.kind) := ev_at hr3 3 _ rfl)))
  go_ret
  exact ⟨rfl, HB.out.trans (hb3.mono hbW2)⟩

set_option maxHeartbeats 400000 in
theorem next_dead (e : Ev) {s base : Nat} {w : World} {lv : Value} {b : Book} {l : List TxM} (h : BookAt w base s lv b l) (c1 : ¬ e.at_ < b.at_) (k7 : ¬ e.kind = 7) {k : Nat} {t : TxP} (c2 : ofF b e = some k) (ct : b.l[k]? = some t) (k1 : ¬ e.kind = 1) (hbg : t.bg = false) :
    Calls Tryd.prog 27 #[.pointer (some ⟨s, 0, none⟩), .agg (evcs e)] w (NPost w base s none) := by
  have hbw : base ≤ w.heap.size := Nat.le_trans h.lo (Nat.le_of_lt h.blk.lt)
  have hbel : Below base w (w.alloc (.cells (evcs e) 35)) := Below.alloc (Below.refl _ _) hbw _
  have h1 := h.alloc (.cells (evcs e) 35)
  have hbl : s < w.heap.size := h.blk.lt
  have hqs : w.heap.size ≠ s := Ne.symm (Nat.ne_of_lt hbl)
  have hsq : s ≠ w.heap.size := Nat.ne_of_lt hbl
  have hlo := h.lo
  have hgs : ∀ y ∈ l, y.g < w.heap.size := fun y hy => (h.txs y hy).blk.lt
  have y0 : (w.alloc (.cells (evcs e) 35)).cell? ⟨s, 0, none⟩ = some lv := (h1.blk.cell 0).trans rfl
  have y1 : (w.alloc (.cells (evcs e) 35)).cell? ⟨s, 1, none⟩ = some (.int .i64 b.at_) := (h1.blk.cell 1).trans rfl
  have y2 : (w.alloc (.cells (evcs e) 35)).cell? ⟨s, 2, none⟩ = some (.int .i64 b.pub) := (h1.blk.cell 2).trans rfl
  have fs : ∀ i, (w.alloc (.cells (evcs e) 35)).frozen? ⟨s, i, none⟩ = false := h1.blk.frozen
  have hr1 : (w.alloc (.cells (evcs e) 35)).rangeAt w.heap.size 0 (evcs e).toList := ev_range w e
  have hqW : w.heap.size < (w.alloc (.cells (evcs e) 35)).heap.size := by simp
  have v0 : (w.alloc (.cells (evcs e) 35)).cell? ⟨w.heap.size, 0, none⟩ = some (.int .i64 e.at_) := box_ev e w 0
  have hg1 : decide (e.at_ < b.at_) = false := by simp; omega
  have H := Lib.hid h1
  have HB := Lib.hid hbel
  clear h h1 hbel
  go_enter Tryd.func27, Tryd.ntmps27
  go_wp2_with fail
  generalize w.alloc (.cells (evcs e) 35) = W1 at *
  go_quiet (fail)
  go_upto_region 4 with fail
  refine wp_world fun W2 hW2 => ?_
  have H2 : BookAt W2 base s lv { b with at_ := e.at_ } l := by rw [hW2]; exact (H.out.drewN _).set_ 1 (.int .i64 e.at_) { b with at_ := e.at_ } rfl rfl
  have HB2 : Below base w W2 := by rw [hW2]; exact Below.setCell (below_drewN HB.out _) hlo _
  have hr2 : W2.rangeAt w.heap.size 0 (evcs e).toList := by rw [hW2]; exact (EvS.set (W := W1) ⟨hr1⟩ ⟨s, 1, none⟩ (.int .i64 e.at_) hsq).ev
  have hqW2 : w.heap.size < W2.heap.size := by rw [hW2]; simp; omega
  have hbW2 : base ≤ W2.heap.size := by omega
  clear hW2 H HB hr1 hqW y0 y1 y2 fs v0 hg1
  clear W1
  have u3 : W2.cell? ⟨w.heap.size, 3, none⟩ = some (.int .i64 e.kind) := ev_at hr2 3 _ rfl
  have hk7 : decide (e.kind = 7) = false := by simp [k7]
  have hk1 : decide (e.kind = 1) = false := by simp [k1]
  have H := Lib.hid H2
  have HB := Lib.hid HB2
  have HR := Lib.hid hr2
  clear H2 HB2 hr2
  go_wp2_with (first | (refine wpList_load_mid rfl 35 (.tmp 3) rfl w.heap.size 0 rfl (evcs e).toList _ HR.out Tryd.underlying35 rfl (by kernel_rfl) ?_) | (go_at_call 43; refine (of_any H.out e).mono ?_; rintro r w3 ⟨hb3, hq⟩; rw [show ofF { b with at_ := e.at_ } e = some k from c2] at hq; obtain ⟨x, hx, hbx, hq'⟩ := hq; subst hq'; (have hxt : x.t = t := Option.some.inj (hbx.symm.trans ct)); subst hxt; (have H3 := Lib.hid (H.out.below hb3 (Nat.le_refl _))); (have HT3 := Lib.hid (H3.out.txs x (List.mem_of_getElem? hx))); (have hr3 : w3.rangeAt w.heap.size 0 (evcs e).toList := fun j v hv => (hb3.cell (p := ⟨w.heap.size, 0 + j, none⟩) hqW2).trans (HR.out j v hv)); (have x6 : w3.cell? ⟨x.g, 6, none⟩ = some (.bool x.t.bg) := (HT3.out.blk.cell 6).trans rfl); rw [hbg] at x6; skip; (have r3 : w3.cell? ⟨w.heap.size, 3, none⟩ = some (.int .i64 e.kind) := ev_at hr3 3 _ rfl)))
  go_ret
  exact ⟨rfl, HB.out.trans (hb3.mono hbW2)⟩

set_option maxHeartbeats 400000 in
theorem next_begun (e : Ev) {s base : Nat} {w : World} {lv : Value} {b : Book} {l : List TxM} (h : BookAt w base s lv b l) (c1 : ¬ e.at_ < b.at_) (k7 : ¬ e.kind = 7) {k : Nat} {t : TxP} (c2 : ofF b e = some k) (ct : b.l[k]? = some t) (k1 : e.kind = 1) (hbg : t.bg = false) :
    Calls Tryd.prog 27 #[.pointer (some ⟨s, 0, none⟩), .agg (evcs e)] w (NPost w base s (some { b with at_ := e.at_, l := b.l.set k { t with bg := true, seen := e.seen } })) := by
  have hbw : base ≤ w.heap.size := Nat.le_trans h.lo (Nat.le_of_lt h.blk.lt)
  have hbel : Below base w (w.alloc (.cells (evcs e) 35)) := Below.alloc (Below.refl _ _) hbw _
  have h1 := h.alloc (.cells (evcs e) 35)
  have hbl : s < w.heap.size := h.blk.lt
  have hqs : w.heap.size ≠ s := Ne.symm (Nat.ne_of_lt hbl)
  have hsq : s ≠ w.heap.size := Nat.ne_of_lt hbl
  have hlo := h.lo
  have hgs : ∀ y ∈ l, y.g < w.heap.size := fun y hy => (h.txs y hy).blk.lt
  have y0 : (w.alloc (.cells (evcs e) 35)).cell? ⟨s, 0, none⟩ = some lv := (h1.blk.cell 0).trans rfl
  have y1 : (w.alloc (.cells (evcs e) 35)).cell? ⟨s, 1, none⟩ = some (.int .i64 b.at_) := (h1.blk.cell 1).trans rfl
  have y2 : (w.alloc (.cells (evcs e) 35)).cell? ⟨s, 2, none⟩ = some (.int .i64 b.pub) := (h1.blk.cell 2).trans rfl
  have fs : ∀ i, (w.alloc (.cells (evcs e) 35)).frozen? ⟨s, i, none⟩ = false := h1.blk.frozen
  have hr1 : (w.alloc (.cells (evcs e) 35)).rangeAt w.heap.size 0 (evcs e).toList := ev_range w e
  have hqW : w.heap.size < (w.alloc (.cells (evcs e) 35)).heap.size := by simp
  have v0 : (w.alloc (.cells (evcs e) 35)).cell? ⟨w.heap.size, 0, none⟩ = some (.int .i64 e.at_) := box_ev e w 0
  have hg1 : decide (e.at_ < b.at_) = false := by simp; omega
  have H := Lib.hid h1
  have HB := Lib.hid hbel
  clear h h1 hbel
  go_enter Tryd.func27, Tryd.ntmps27
  go_wp2_with fail
  generalize w.alloc (.cells (evcs e) 35) = W1 at *
  go_quiet (fail)
  go_upto_region 4 with fail
  refine wp_world fun W2 hW2 => ?_
  have H2 : BookAt W2 base s lv { b with at_ := e.at_ } l := by rw [hW2]; exact (H.out.drewN _).set_ 1 (.int .i64 e.at_) { b with at_ := e.at_ } rfl rfl
  have HB2 : Below base w W2 := by rw [hW2]; exact Below.setCell (below_drewN HB.out _) hlo _
  have hr2 : W2.rangeAt w.heap.size 0 (evcs e).toList := by rw [hW2]; exact (EvS.set (W := W1) ⟨hr1⟩ ⟨s, 1, none⟩ (.int .i64 e.at_) hsq).ev
  have hqW2 : w.heap.size < W2.heap.size := by rw [hW2]; simp; omega
  have hbW2 : base ≤ W2.heap.size := by omega
  clear hW2 H HB hr1 hqW y0 y1 y2 fs v0 hg1
  clear W1
  have u3 : W2.cell? ⟨w.heap.size, 3, none⟩ = some (.int .i64 e.kind) := ev_at hr2 3 _ rfl
  have hk7 : decide (e.kind = 7) = false := by simp [k7]
  have hk1 : decide (e.kind = 1) = true := by simp [k1]
  have H := Lib.hid H2
  have HB := Lib.hid HB2
  have HR := Lib.hid hr2
  clear H2 HB2 hr2
  go_wp2_with (first | (refine wpList_load_mid rfl 35 (.tmp 3) rfl w.heap.size 0 rfl (evcs e).toList _ HR.out Tryd.underlying35 rfl (by kernel_rfl) ?_) | (go_at_call 43; refine (of_any H.out e).mono ?_; rintro r w3 ⟨hb3, hq⟩; rw [show ofF { b with at_ := e.at_ } e = some k from c2] at hq; obtain ⟨x, hx, hbx, hq'⟩ := hq; subst hq'; (have hxt : x.t = t := Option.some.inj (hbx.symm.trans ct)); subst hxt; (have H3 := Lib.hid (H.out.below hb3 (Nat.le_refl _))); (have HT3 := Lib.hid (H3.out.txs x (List.mem_of_getElem? hx))); (have hr3 : w3.rangeAt w.heap.size 0 (evcs e).toList := fun j v hv => (hb3.cell (p := ⟨w.heap.size, 0 + j, none⟩) hqW2).trans (HR.out j v hv)); (have x6 : w3.cell? ⟨x.g, 6, none⟩ = some (.bool x.t.bg) := (HT3.out.blk.cell 6).trans rfl); rw [hbg] at x6; skip; (have r3 : w3.cell? ⟨w.heap.size, 3, none⟩ = some (.int .i64 e.kind) := ev_at hr3 3 _ rfl); (have r8 : w3.cell? ⟨w.heap.size, 8, none⟩ = some (.int .i64 e.seen) := ev_at hr3 8 _ rfl); (have x4 : w3.cell? ⟨x.g, 4, none⟩ = some (.int .i64 x.t.seen) := (HT3.out.blk.cell 4).trans rfl); (have f3 : ∀ i, w3.frozen? ⟨x.g, i, none⟩ = false := HT3.out.blk.frozen); (have hqx : w.heap.size ≠ x.g := Ne.symm (Nat.ne_of_lt (hgs x (List.mem_of_getElem? hx)))); (have hxq : x.g ≠ w.heap.size := Ne.symm hqx)))
  go_region
  go_wp2_with fail
  go_ret
  have hXs : s ≠ x.g := H3.out.blk.ne_ HT3.out.blk (by decide)
  have hT4 : TxAt ((w3.setCell ⟨x.g, 6, none⟩ (.bool true)).setCell ⟨x.g, 4, none⟩ (.int .i64 e.seen)) base ⟨{ x.t with bg := true, seen := e.seen }, x.g, x.sv⟩ := (HT3.out.set_ 6 (.bool true) { x.t with bg := true } rfl rfl).set_ 4 (.int .i64 e.seen) { x.t with bg := true, seen := e.seen } rfl rfl
  have hB4 := (H3.out.blk.far (p := ⟨x.g, 6, none⟩) hXs (.bool true)).far (p := ⟨x.g, 4, none⟩) hXs (.int .i64 e.seen)
  have hF4 : Frm w3 ((w3.setCell ⟨x.g, 6, none⟩ (.bool true)).setCell ⟨x.g, 4, none⟩ (.int .i64 e.seen)) (fun q => q = s ∨ TxBlk x q) := ((Frm.refl w3 _).set _ _ _ (.inl (.inr (.inl rfl)))).set _ _ _ (.inl (.inr (.inl rfl)))
  have hU := H3.out.upd hx hT4 hB4 (.inl rfl) hF4
  exact ⟨rfl, lv, l.set k ⟨{ x.t with bg := true, seen := e.seen }, x.g, x.sv⟩, hU.drewN 1, (HB.out.trans (hb3.mono hbW2)).trans (Below.drew (hF4.below (Nat.le_trans hbW2 hb3.size) fun q hq => by
    rcases hq with rfl | hq
    · exact hlo
    · exact (HT3.out.lt hq).1))⟩

set_option maxHeartbeats 400000 in
theorem next_goes0 (e : Ev) {s base : Nat} {w : World} {lv : Value} {b : Book} {l : List TxM} (h : BookAt w base s lv b l) (c1 : ¬ e.at_ < b.at_) (k7 : ¬ e.kind = 7) {k : Nat} {t : TxP} (c2 : ofF b e = some k) (ct : b.l[k]? = some t) (hd : b.done ≤ 4611686018427387904) (hp : b.pub ≤ 4611686018427387904) (hst : ∀ t, b.l[k]? = some t → (t.steps.length + 1) * 152 ≤ 140737488355328) (k1 : ¬ e.kind = 1) (hbg : t.bg = true) (hgo : goesF t b.pub b.done e = none) :
    Calls Tryd.prog 27 #[.pointer (some ⟨s, 0, none⟩), .agg (evcs e)] w (NPost w base s none) := by
  have hbw : base ≤ w.heap.size := Nat.le_trans h.lo (Nat.le_of_lt h.blk.lt)
  have hbel : Below base w (w.alloc (.cells (evcs e) 35)) := Below.alloc (Below.refl _ _) hbw _
  have h1 := h.alloc (.cells (evcs e) 35)
  have hbl : s < w.heap.size := h.blk.lt
  have hqs : w.heap.size ≠ s := Ne.symm (Nat.ne_of_lt hbl)
  have hsq : s ≠ w.heap.size := Nat.ne_of_lt hbl
  have hlo := h.lo
  have hgs : ∀ y ∈ l, y.g < w.heap.size := fun y hy => (h.txs y hy).blk.lt
  have y0 : (w.alloc (.cells (evcs e) 35)).cell? ⟨s, 0, none⟩ = some lv := (h1.blk.cell 0).trans rfl
  have y1 : (w.alloc (.cells (evcs e) 35)).cell? ⟨s, 1, none⟩ = some (.int .i64 b.at_) := (h1.blk.cell 1).trans rfl
  have y2 : (w.alloc (.cells (evcs e) 35)).cell? ⟨s, 2, none⟩ = some (.int .i64 b.pub) := (h1.blk.cell 2).trans rfl
  have fs : ∀ i, (w.alloc (.cells (evcs e) 35)).frozen? ⟨s, i, none⟩ = false := h1.blk.frozen
  have hr1 : (w.alloc (.cells (evcs e) 35)).rangeAt w.heap.size 0 (evcs e).toList := ev_range w e
  have hqW : w.heap.size < (w.alloc (.cells (evcs e) 35)).heap.size := by simp
  have v0 : (w.alloc (.cells (evcs e) 35)).cell? ⟨w.heap.size, 0, none⟩ = some (.int .i64 e.at_) := box_ev e w 0
  have hg1 : decide (e.at_ < b.at_) = false := by simp; omega
  have H := Lib.hid h1
  have HB := Lib.hid hbel
  clear h h1 hbel
  go_enter Tryd.func27, Tryd.ntmps27
  go_wp2_with fail
  generalize w.alloc (.cells (evcs e) 35) = W1 at *
  go_quiet (fail)
  go_upto_region 4 with fail
  refine wp_world fun W2 hW2 => ?_
  have H2 : BookAt W2 base s lv { b with at_ := e.at_ } l := by rw [hW2]; exact (H.out.drewN _).set_ 1 (.int .i64 e.at_) { b with at_ := e.at_ } rfl rfl
  have HB2 : Below base w W2 := by rw [hW2]; exact Below.setCell (below_drewN HB.out _) hlo _
  have hr2 : W2.rangeAt w.heap.size 0 (evcs e).toList := by rw [hW2]; exact (EvS.set (W := W1) ⟨hr1⟩ ⟨s, 1, none⟩ (.int .i64 e.at_) hsq).ev
  have hqW2 : w.heap.size < W2.heap.size := by rw [hW2]; simp; omega
  have hbW2 : base ≤ W2.heap.size := by omega
  clear hW2 H HB hr1 hqW y0 y1 y2 fs v0 hg1
  clear W1
  have u3 : W2.cell? ⟨w.heap.size, 3, none⟩ = some (.int .i64 e.kind) := ev_at hr2 3 _ rfl
  have hk7 : decide (e.kind = 7) = false := by simp [k7]
  have hk1 : decide (e.kind = 1) = false := by simp [k1]
  have H := Lib.hid H2
  have HB := Lib.hid HB2
  have HR := Lib.hid hr2
  clear H2 HB2 hr2
  go_wp2_with (first | (refine wpList_load_mid rfl 35 (.tmp 3) rfl w.heap.size 0 rfl (evcs e).toList _ HR.out Tryd.underlying35 rfl (by kernel_rfl) ?_) | (refine wpList_load_g (by kernel_rfl) 35 (.tmp 3) rfl w.heap.size 0 rfl (evcs e).toList _ hr3 Tryd.underlying35 rfl (by kernel_rfl) ?_) | (go_at_call 43; refine (of_any H.out e).mono ?_; rintro r w3 ⟨hb3, hq⟩; rw [show ofF { b with at_ := e.at_ } e = some k from c2] at hq; obtain ⟨x, hx, hbx, hq'⟩ := hq; subst hq'; (have hxt : x.t = t := Option.some.inj (hbx.symm.trans ct)); subst hxt; (have H3 := Lib.hid (H.out.below hb3 (Nat.le_refl _))); (have HT3 := Lib.hid (H3.out.txs x (List.mem_of_getElem? hx))); (have hr3 : w3.rangeAt w.heap.size 0 (evcs e).toList := fun j v hv => (hb3.cell (p := ⟨w.heap.size, 0 + j, none⟩) hqW2).trans (HR.out j v hv)); (have x6 : w3.cell? ⟨x.g, 6, none⟩ = some (.bool x.t.bg) := (HT3.out.blk.cell 6).trans rfl); rw [hbg] at x6; skip; (have r3 : w3.cell? ⟨w.heap.size, 3, none⟩ = some (.int .i64 e.kind) := ev_at hr3 3 _ rfl)) | (go_at_call 44; refine (goes_any e H3.out.blk HT3.out hd hp (hst x.t ct)).mono ?_; rintro r4 w4 hq4; (have hq4' : r4 = .returned (.bool false) ∧ Below w3.heap.size w3 w4 := by rw [show goesF x.t b.pub b.done e = none from hgo] at hq4; exact hq4); clear hq4; obtain ⟨hq4, hb4⟩ := hq4'; subst hq4))
  go_ret
  exact ⟨rfl, (HB.out.trans (hb3.mono hbW2)).trans (hb4.mono (Nat.le_trans hbW2 hb3.size))⟩

set_option maxHeartbeats 400000 in
theorem next_goes1 (e : Ev) {s base : Nat} {w : World} {lv : Value} {b : Book} {l : List TxM} (h : BookAt w base s lv b l) (c1 : ¬ e.at_ < b.at_) (k7 : ¬ e.kind = 7) {k : Nat} {t : TxP} (c2 : ofF b e = some k) (ct : b.l[k]? = some t) (hd : b.done ≤ 4611686018427387904) (hp : b.pub ≤ 4611686018427387904) (hst : ∀ t, b.l[k]? = some t → (t.steps.length + 1) * 152 ≤ 140737488355328) (k1 : ¬ e.kind = 1) (hbg : t.bg = true) {t4 : TxP} {p4 d4 : Nat} (hgo : goesF t b.pub b.done e = some (t4, p4, d4)) :
    Calls Tryd.prog 27 #[.pointer (some ⟨s, 0, none⟩), .agg (evcs e)] w (NPost w base s (some ⟨b.l.set k t4, e.at_, p4, d4⟩)) := by
  have hbw : base ≤ w.heap.size := Nat.le_trans h.lo (Nat.le_of_lt h.blk.lt)
  have hbel : Below base w (w.alloc (.cells (evcs e) 35)) := Below.alloc (Below.refl _ _) hbw _
  have h1 := h.alloc (.cells (evcs e) 35)
  have hbl : s < w.heap.size := h.blk.lt
  have hqs : w.heap.size ≠ s := Ne.symm (Nat.ne_of_lt hbl)
  have hsq : s ≠ w.heap.size := Nat.ne_of_lt hbl
  have hlo := h.lo
  have hgs : ∀ y ∈ l, y.g < w.heap.size := fun y hy => (h.txs y hy).blk.lt
  have y0 : (w.alloc (.cells (evcs e) 35)).cell? ⟨s, 0, none⟩ = some lv := (h1.blk.cell 0).trans rfl
  have y1 : (w.alloc (.cells (evcs e) 35)).cell? ⟨s, 1, none⟩ = some (.int .i64 b.at_) := (h1.blk.cell 1).trans rfl
  have y2 : (w.alloc (.cells (evcs e) 35)).cell? ⟨s, 2, none⟩ = some (.int .i64 b.pub) := (h1.blk.cell 2).trans rfl
  have fs : ∀ i, (w.alloc (.cells (evcs e) 35)).frozen? ⟨s, i, none⟩ = false := h1.blk.frozen
  have hr1 : (w.alloc (.cells (evcs e) 35)).rangeAt w.heap.size 0 (evcs e).toList := ev_range w e
  have hqW : w.heap.size < (w.alloc (.cells (evcs e) 35)).heap.size := by simp
  have v0 : (w.alloc (.cells (evcs e) 35)).cell? ⟨w.heap.size, 0, none⟩ = some (.int .i64 e.at_) := box_ev e w 0
  have hg1 : decide (e.at_ < b.at_) = false := by simp; omega
  have H := Lib.hid h1
  have HB := Lib.hid hbel
  clear h h1 hbel
  go_enter Tryd.func27, Tryd.ntmps27
  go_wp2_with fail
  generalize w.alloc (.cells (evcs e) 35) = W1 at *
  go_quiet (fail)
  go_upto_region 4 with fail
  refine wp_world fun W2 hW2 => ?_
  have H2 : BookAt W2 base s lv { b with at_ := e.at_ } l := by rw [hW2]; exact (H.out.drewN _).set_ 1 (.int .i64 e.at_) { b with at_ := e.at_ } rfl rfl
  have HB2 : Below base w W2 := by rw [hW2]; exact Below.setCell (below_drewN HB.out _) hlo _
  have hr2 : W2.rangeAt w.heap.size 0 (evcs e).toList := by rw [hW2]; exact (EvS.set (W := W1) ⟨hr1⟩ ⟨s, 1, none⟩ (.int .i64 e.at_) hsq).ev
  have hqW2 : w.heap.size < W2.heap.size := by rw [hW2]; simp; omega
  have hbW2 : base ≤ W2.heap.size := by omega
  clear hW2 H HB hr1 hqW y0 y1 y2 fs v0 hg1
  clear W1
  have u3 : W2.cell? ⟨w.heap.size, 3, none⟩ = some (.int .i64 e.kind) := ev_at hr2 3 _ rfl
  have hk7 : decide (e.kind = 7) = false := by simp [k7]
  have hk1 : decide (e.kind = 1) = false := by simp [k1]
  have H := Lib.hid H2
  have HB := Lib.hid HB2
  have HR := Lib.hid hr2
  clear H2 HB2 hr2
  go_wp2_with (first | (refine wpList_load_mid rfl 35 (.tmp 3) rfl w.heap.size 0 rfl (evcs e).toList _ HR.out Tryd.underlying35 rfl (by kernel_rfl) ?_) | (refine wpList_load_g (by kernel_rfl) 35 (.tmp 3) rfl w.heap.size 0 rfl (evcs e).toList _ hr3 Tryd.underlying35 rfl (by kernel_rfl) ?_) | (go_at_call 43; refine (of_any H.out e).mono ?_; rintro r w3 ⟨hb3, hq⟩; rw [show ofF { b with at_ := e.at_ } e = some k from c2] at hq; obtain ⟨x, hx, hbx, hq'⟩ := hq; subst hq'; (have hxt : x.t = t := Option.some.inj (hbx.symm.trans ct)); subst hxt; (have H3 := Lib.hid (H.out.below hb3 (Nat.le_refl _))); (have HT3 := Lib.hid (H3.out.txs x (List.mem_of_getElem? hx))); (have hr3 : w3.rangeAt w.heap.size 0 (evcs e).toList := fun j v hv => (hb3.cell (p := ⟨w.heap.size, 0 + j, none⟩) hqW2).trans (HR.out j v hv)); (have x6 : w3.cell? ⟨x.g, 6, none⟩ = some (.bool x.t.bg) := (HT3.out.blk.cell 6).trans rfl); rw [hbg] at x6; skip; (have r3 : w3.cell? ⟨w.heap.size, 3, none⟩ = some (.int .i64 e.kind) := ev_at hr3 3 _ rfl)) | (go_at_call 44; refine (goes_any e H3.out.blk HT3.out hd hp (hst x.t ct)).mono ?_; rintro r4 w4 hq4; (have hq4' : GPost w3 base s lv e.at_ x t4 p4 d4 r4 w4 := by rw [show goesF x.t b.pub b.done e = some (t4, p4, d4) from hgo] at hq4; exact hq4); clear hq4; obtain ⟨hq4, sv', hT4, hB4, ho4, hF4⟩ := hq4'; subst hq4))
  go_ret
  exact ⟨rfl, lv, l.set k ⟨t4, x.g, sv'⟩, H3.out.upd hx hT4 hB4 ho4 hF4, (HB.out.trans (hb3.mono hbW2)).trans (hF4.below (Nat.le_trans hbW2 hb3.size) fun q hq => by
    rcases hq with rfl | hq
    · exact hlo
    · exact (HT3.out.lt hq).1)⟩
end Go.Proofs.YtffjcojehiblnaaDoor
