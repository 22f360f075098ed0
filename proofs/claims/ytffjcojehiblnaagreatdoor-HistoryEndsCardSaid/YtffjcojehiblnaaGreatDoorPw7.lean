/- The document's may: complete, others. -/
import Derived.Test.YtffjcojehiblnaaGreatDoorPw3
namespace Go.Proofs.YtffjcojehiblnaaGreatDoor
open Go.RowKit Go.Joins Go.ChangeShapes Go.WideShapes Go.Deep
set_option linter.unusedVariables false
set_option linter.unusedSimpArgs false
set_option maxRecDepth 100000

set_option maxHeartbeats 400000 in
theorem may_done_a (A : Option Addr) (n nc : Nat) (l : List Ev) (i : Nat) (w : World) (hl : l.length = n) (hn : n * 152 ≤ 140737488351232) (hR : Reads w w.heap.size 19 A n (evs l)) (hi : i < n) (e : Ev) (he : l[i]? = some e) (c1 : ¬ e.at_ < 0) (ca : i = 0 ∨ 0 < i ∧ ¬ e.at_ < (evAt l ((i : Int) - 1)).at_) (k7 : ¬ e.kind = 7) (t0 : ¬ e.tx < 0) (t1 : ¬ (countF l i 7 (-1) : Int) ≤ e.tx) (o : Nat) (ho : firstF l 7 e.tx = (o : Int)) (hol : o < n) (z : Ev) (hz : l[o]? = some z) (ov : ¬ 0 < (countF l i 6 e.tx : Int) + (countF l i 5 e.tx : Int)) (th : z.thread = e.thread) (k : e.kind = 5) (q : (countF l i 4 e.tx : Int) = 0) :
    Calls Tryz.prog 34 #[.slice A n nc, .int .i64 i] w fun r w' => r = .returned (.bool false) ∧ Below w.heap.size w w' := by
  have hn8 : n ≤ 925904528640 := by omega
  have hil : i < l.length := by omega
  have hee : e = l[i] := (Option.some.inj ((List.getElem?_eq_getElem hil).symm.trans he)).symm
  obtain ⟨bb, off, rfl, hbb, hcc⟩ := reads_flat hR (by omega) (by decide)
  have hrg : w.rangeAt bb (off + i * 19) (evcs e).toList := by rw [hee]; exact evs_range hcc hil
  have hW0 : Below w.heap.size w (w.alloc (.cells (evcs e) 43)) := Below.alloc (Below.refl _ _) (Nat.le_refl _) _
  have hR1 := (hR.below hW0).more hW0.size
  have hr1 : (w.alloc (.cells (evcs e) 43)).rangeAt w.heap.size 0 (evcs e).toList := ev_range w e
  have u0 : (w.alloc (.cells (evcs e) 43)).cell? ⟨w.heap.size, 0, none⟩ = some (.int .i64 e.at_) := ev_at hr1 0 _ rfl
  obtain ⟨pa, hpa⟩ : ∃ z, z = (evAt l ((i : Int) - 1)).at_ := ⟨_, rfl⟩
  have hprev : ∀ j, i = j + 1 → (w.alloc (.cells (evcs e) 43)).cell? ⟨bb, off + j * 19, none⟩ = some (.int .i64 pa) := fun j hj => by
    have hjl : j < l.length := by omega
    have h1 := hcc (j * 19 + 0) _ (by rw [evs_at l j 0 hjl (by omega)]; rfl)
    have e1 : evAt l ((i : Int) - 1) = l[j] := by rw [show ((i : Int) - 1) = (j : Int) by omega]; exact evAt_of hjl
    rw [hpa, e1]
    exact (hW0.cell (p := ⟨bb, off + j * 19, none⟩) hbb).trans h1
  rw [← hpa] at ca
  have d1 : decide (e.at_ < 0) = false := by simp; omega
  have HB := Lib.hid hW0
  have HR := Lib.hid hR1
  have HV := Lib.hid hr1
  have HH := Lib.hid hl
  have HN := Lib.hid hn
  have HRG := Lib.hid hrg
  have HPV := Lib.hid hprev
  have HEE := Lib.hid hee
  clear hW0 hR1 hr1 hl hR hcc hn hrg hprev hee he hpa
  go_enter Tryz.func34, Tryz.ntmps34
  go_wp2_with (first
    | (refine wpList_load_mid rfl 43 (.tmp 16) rfl bb (off + i * 19) rfl (evcs e).toList _ HRG.out Tryz.underlying43 rfl (by kernel_rfl) ?_)
    | (refine wpList_alloc_ev rfl rfl ?_)
    | (refine wpList_store_ev e rfl (.tmp 5) (.tmp 17) rfl rfl rfl ?_))
  try simp only [Act.put, List.setIfInBounds_toArray, List.set_cons_zero, List.set_cons_succ]
  generalize w.alloc (.cells (evcs e) 43) = W1 at *
  go_cut [35] from 14 (fun v wc => v = .bool false ∧ ∃ k, wc = W1.drewN k)
  case first =>
    rcases ca with ca | ⟨ca, cb⟩
    · have d2 : decide (0 < (i : Int)) = false := by simp [ca]
      go_quiet (fail)
      go_wp2
      go_meet
      case rel => exact ⟨rfl, _, rfl⟩
    · have d2 : decide (0 < (i : Int)) = true := by simp; omega
      have d3 : decide (e.at_ < pa) = false := by simp; omega
      obtain ⟨j, rfl⟩ : ∃ j, i = j + 1 := ⟨i - 1, by omega⟩
      have p0 := HPV.out j rfl
      go_quiet (fail)
      go_wp2
      go_meet
      case rel => exact ⟨rfl, _, rfl⟩
  case rest =>
    obtain ⟨rfl, k0, rfl⟩ := hcut
    have HB2 : Hid (Below w.heap.size w (W1.drewN k0)) := Lib.hid (below_drewN HB.out _)
    have HR2 : Hid (Reads (W1.drewN k0) W1.heap.size 19 (some ⟨bb, off, none⟩) n (evs l)) := Lib.hid (HR.out.drewN _)
    have HV2 : Hid ((W1.drewN k0).rangeAt w.heap.size 0 (evcs e).toList) := Lib.hid HV.out
    generalize W1.heap.size = B1 at *
    generalize W1.drewN k0 = W2 at *
    clear HB HR HV HPV u0
    clear W1
    have u1 : W2.cell? ⟨w.heap.size, 1, none⟩ = some (.int .i64 e.thread) := ev_at HV2.out 1 _ rfl
    have u2 : W2.cell? ⟨w.heap.size, 2, none⟩ = some (.int .i64 e.tx) := ev_at HV2.out 2 _ rfl
    have u3 : W2.cell? ⟨w.heap.size, 3, none⟩ = some (.int .i64 e.kind) := ev_at HV2.out 3 _ rfl
    have u4 : W2.cell? ⟨w.heap.size, 4, none⟩ = some (.int .i64 e.cell) := ev_at HV2.out 4 _ rfl
    have u9 : W2.cell? ⟨w.heap.size, 9, none⟩ = some (.int .i64 e.stamp) := ev_at HV2.out 9 _ rfl
    have hin : i ≤ n := by omega
    clear c1 ca d1
    rw [k] at u3
    have HO := Lib.hid ho
    have z1 : W2.cell? ⟨bb, off + o * 19 + 1, none⟩ = some (.int .i64 z.thread) := ev_cell_of HR2.out HH.out hz 1 (by decide)
    have hc6 : countF l i 6 e.tx ≤ i := countF_le _ _ _ _
    have hc5 : countF l i 5 e.tx ≤ i := countF_le _ _ _ _
    have hc1 : countF l i 1 e.tx ≤ i := countF_le _ _ _ _
    have hc4 : countF l i 4 e.tx ≤ i := countF_le _ _ _ _
    clear ho hz
    have d7 : decide (e.kind = 7) = false := by first | (simp only [decide_eq_true_eq, decide_eq_false_iff_not]; omega)
    have b7 : (e.kind == 7) = false := by first | (simp only [beq_iff_eq, beq_eq_false_iff_ne]; omega)
    have d21 : decide (e.tx < 0) = false := by first | (simp only [decide_eq_true_eq, decide_eq_false_iff_not]; omega)
    have d22 : decide ((countF l i 7 (-1) : Int) ≤ e.tx) = false := by first | (simp only [decide_eq_true_eq, decide_eq_false_iff_not]; omega)
    have d30 : decide (0 < (countF l i 6 e.tx : Int) + (countF l i 5 e.tx : Int)) = false := by first | (simp only [decide_eq_true_eq, decide_eq_false_iff_not]; omega)
    have b31 : (z.thread != e.thread) = false := by simp [th]
    have hcp : countF l i 4 (-1) ≤ i := countF_le _ _ _ _
    have hcd : countF l i 5 (-1) ≤ i := countF_le _ _ _ _
    have d42 : decide ((countF l i 4 e.tx : Int) = 0) = true := by first | (simp only [decide_eq_true_eq, decide_eq_false_iff_not]; omega)
    have b42 : ((countF l i 4 e.tx : Int) == 0) = true := by first | (simp only [beq_iff_eq, beq_eq_false_iff_ne]; omega)
    clear q
    clear k ov th
    clear t0 t1 k7
    go_wp2_with (first | (go_at_call 35; refine (count_any _ n nc l i _ _ B1 _ HH.out HN.out (by first | exact HR2.out | exact HR2.out.drewN _) hin).mono ?_; rintro r w9 ⟨hq, hw⟩; subst hq; subst hw) | (go_at_call 36; refine (first_any _ n nc l _ _ B1 _ HH.out HN.out (by first | exact HR2.out | exact HR2.out.drewN _)).mono ?_; rintro r w9 ⟨hq, hw⟩; (first | rw [HO.out] at hq | rw [HO4.out] at hq); subst hq; subst hw))
    go_quiet (exact Calls.quiet_of_same (count_any _ n nc l i _ _ B1 _ HH.out HN.out (HR2.out.drewN _) hin))
    go_wp2_with (first | (go_at_call 35; refine (count_any _ n nc l i _ _ B1 _ HH.out HN.out (by first | exact HR2.out | exact HR2.out.drewN _) hin).mono ?_; rintro r w9 ⟨hq, hw⟩; subst hq; subst hw) | (go_at_call 36; refine (first_any _ n nc l _ _ B1 _ HH.out HN.out (by first | exact HR2.out | exact HR2.out.drewN _)).mono ?_; rintro r w9 ⟨hq, hw⟩; (first | rw [HO.out] at hq | rw [HO4.out] at hq); subst hq; subst hw))
    go_quiet (fail)
    go_wp2_with (first | (go_at_call 35; refine (count_any _ n nc l i _ _ B1 _ HH.out HN.out (by first | exact HR2.out | exact HR2.out.drewN _) hin).mono ?_; rintro r w9 ⟨hq, hw⟩; subst hq; subst hw) | (go_at_call 36; refine (first_any _ n nc l _ _ B1 _ HH.out HN.out (by first | exact HR2.out | exact HR2.out.drewN _)).mono ?_; rintro r w9 ⟨hq, hw⟩; (first | rw [HO.out] at hq | rw [HO4.out] at hq); subst hq; subst hw))
    go_ret
    exact ⟨rfl, by first | exact HB2.out | exact below_drewN HB2.out _ | exact below_drewN (below_drewN HB2.out _) _ | exact below_drewN (below_drewN (below_drewN HB2.out _) _) _⟩

set_option maxHeartbeats 400000 in
theorem may_done_b (A : Option Addr) (n nc : Nat) (l : List Ev) (i : Nat) (w : World) (hl : l.length = n) (hn : n * 152 ≤ 140737488351232) (hR : Reads w w.heap.size 19 A n (evs l)) (hi : i < n) (e : Ev) (he : l[i]? = some e) (c1 : ¬ e.at_ < 0) (ca : i = 0 ∨ 0 < i ∧ ¬ e.at_ < (evAt l ((i : Int) - 1)).at_) (k7 : ¬ e.kind = 7) (t0 : ¬ e.tx < 0) (t1 : ¬ (countF l i 7 (-1) : Int) ≤ e.tx) (o : Nat) (ho : firstF l 7 e.tx = (o : Int)) (hol : o < n) (z : Ev) (hz : l[o]? = some z) (ov : ¬ 0 < (countF l i 6 e.tx : Int) + (countF l i 5 e.tx : Int)) (th : z.thread = e.thread) (k : e.kind = 5) (q : ¬ (countF l i 4 e.tx : Int) = 0) (o4 : Nat) (hf4 : firstF l 4 e.tx = (o4 : Int)) (ho4 : o4 < n) (z4 : Ev) (hz4 : l[o4]? = some z4) (x : ¬ e.stamp = z4.stamp) :
    Calls Tryz.prog 34 #[.slice A n nc, .int .i64 i] w fun r w' => r = .returned (.bool false) ∧ Below w.heap.size w w' := by
  have hn8 : n ≤ 925904528640 := by omega
  have hil : i < l.length := by omega
  have hee : e = l[i] := (Option.some.inj ((List.getElem?_eq_getElem hil).symm.trans he)).symm
  obtain ⟨bb, off, rfl, hbb, hcc⟩ := reads_flat hR (by omega) (by decide)
  have hrg : w.rangeAt bb (off + i * 19) (evcs e).toList := by rw [hee]; exact evs_range hcc hil
  have hW0 : Below w.heap.size w (w.alloc (.cells (evcs e) 43)) := Below.alloc (Below.refl _ _) (Nat.le_refl _) _
  have hR1 := (hR.below hW0).more hW0.size
  have hr1 : (w.alloc (.cells (evcs e) 43)).rangeAt w.heap.size 0 (evcs e).toList := ev_range w e
  have u0 : (w.alloc (.cells (evcs e) 43)).cell? ⟨w.heap.size, 0, none⟩ = some (.int .i64 e.at_) := ev_at hr1 0 _ rfl
  obtain ⟨pa, hpa⟩ : ∃ z, z = (evAt l ((i : Int) - 1)).at_ := ⟨_, rfl⟩
  have hprev : ∀ j, i = j + 1 → (w.alloc (.cells (evcs e) 43)).cell? ⟨bb, off + j * 19, none⟩ = some (.int .i64 pa) := fun j hj => by
    have hjl : j < l.length := by omega
    have h1 := hcc (j * 19 + 0) _ (by rw [evs_at l j 0 hjl (by omega)]; rfl)
    have e1 : evAt l ((i : Int) - 1) = l[j] := by rw [show ((i : Int) - 1) = (j : Int) by omega]; exact evAt_of hjl
    rw [hpa, e1]
    exact (hW0.cell (p := ⟨bb, off + j * 19, none⟩) hbb).trans h1
  rw [← hpa] at ca
  have d1 : decide (e.at_ < 0) = false := by simp; omega
  have HB := Lib.hid hW0
  have HR := Lib.hid hR1
  have HV := Lib.hid hr1
  have HH := Lib.hid hl
  have HN := Lib.hid hn
  have HRG := Lib.hid hrg
  have HPV := Lib.hid hprev
  have HEE := Lib.hid hee
  clear hW0 hR1 hr1 hl hR hcc hn hrg hprev hee he hpa
  go_enter Tryz.func34, Tryz.ntmps34
  go_wp2_with (first
    | (refine wpList_load_mid rfl 43 (.tmp 16) rfl bb (off + i * 19) rfl (evcs e).toList _ HRG.out Tryz.underlying43 rfl (by kernel_rfl) ?_)
    | (refine wpList_alloc_ev rfl rfl ?_)
    | (refine wpList_store_ev e rfl (.tmp 5) (.tmp 17) rfl rfl rfl ?_))
  try simp only [Act.put, List.setIfInBounds_toArray, List.set_cons_zero, List.set_cons_succ]
  generalize w.alloc (.cells (evcs e) 43) = W1 at *
  go_cut [35] from 14 (fun v wc => v = .bool false ∧ ∃ k, wc = W1.drewN k)
  case first =>
    rcases ca with ca | ⟨ca, cb⟩
    · have d2 : decide (0 < (i : Int)) = false := by simp [ca]
      go_quiet (fail)
      go_wp2
      go_meet
      case rel => exact ⟨rfl, _, rfl⟩
    · have d2 : decide (0 < (i : Int)) = true := by simp; omega
      have d3 : decide (e.at_ < pa) = false := by simp; omega
      obtain ⟨j, rfl⟩ : ∃ j, i = j + 1 := ⟨i - 1, by omega⟩
      have p0 := HPV.out j rfl
      go_quiet (fail)
      go_wp2
      go_meet
      case rel => exact ⟨rfl, _, rfl⟩
  case rest =>
    obtain ⟨rfl, k0, rfl⟩ := hcut
    have HB2 : Hid (Below w.heap.size w (W1.drewN k0)) := Lib.hid (below_drewN HB.out _)
    have HR2 : Hid (Reads (W1.drewN k0) W1.heap.size 19 (some ⟨bb, off, none⟩) n (evs l)) := Lib.hid (HR.out.drewN _)
    have HV2 : Hid ((W1.drewN k0).rangeAt w.heap.size 0 (evcs e).toList) := Lib.hid HV.out
    generalize W1.heap.size = B1 at *
    generalize W1.drewN k0 = W2 at *
    clear HB HR HV HPV u0
    clear W1
    have u1 : W2.cell? ⟨w.heap.size, 1, none⟩ = some (.int .i64 e.thread) := ev_at HV2.out 1 _ rfl
    have u2 : W2.cell? ⟨w.heap.size, 2, none⟩ = some (.int .i64 e.tx) := ev_at HV2.out 2 _ rfl
    have u3 : W2.cell? ⟨w.heap.size, 3, none⟩ = some (.int .i64 e.kind) := ev_at HV2.out 3 _ rfl
    have u4 : W2.cell? ⟨w.heap.size, 4, none⟩ = some (.int .i64 e.cell) := ev_at HV2.out 4 _ rfl
    have u9 : W2.cell? ⟨w.heap.size, 9, none⟩ = some (.int .i64 e.stamp) := ev_at HV2.out 9 _ rfl
    have hin : i ≤ n := by omega
    clear c1 ca d1
    rw [k] at u3
    have HO4 := Lib.hid hf4
    have z9 : W2.cell? ⟨bb, off + o4 * 19 + 9, none⟩ = some (.int .i64 z4.stamp) := ev_cell_of HR2.out HH.out hz4 9 (by decide)
    clear hf4 hz4
    have HO := Lib.hid ho
    have z1 : W2.cell? ⟨bb, off + o * 19 + 1, none⟩ = some (.int .i64 z.thread) := ev_cell_of HR2.out HH.out hz 1 (by decide)
    have hc6 : countF l i 6 e.tx ≤ i := countF_le _ _ _ _
    have hc5 : countF l i 5 e.tx ≤ i := countF_le _ _ _ _
    have hc1 : countF l i 1 e.tx ≤ i := countF_le _ _ _ _
    have hc4 : countF l i 4 e.tx ≤ i := countF_le _ _ _ _
    clear ho hz
    have d7 : decide (e.kind = 7) = false := by first | (simp only [decide_eq_true_eq, decide_eq_false_iff_not]; omega)
    have b7 : (e.kind == 7) = false := by first | (simp only [beq_iff_eq, beq_eq_false_iff_ne]; omega)
    have d21 : decide (e.tx < 0) = false := by first | (simp only [decide_eq_true_eq, decide_eq_false_iff_not]; omega)
    have d22 : decide ((countF l i 7 (-1) : Int) ≤ e.tx) = false := by first | (simp only [decide_eq_true_eq, decide_eq_false_iff_not]; omega)
    have d30 : decide (0 < (countF l i 6 e.tx : Int) + (countF l i 5 e.tx : Int)) = false := by first | (simp only [decide_eq_true_eq, decide_eq_false_iff_not]; omega)
    have b31 : (z.thread != e.thread) = false := by simp [th]
    have hcp : countF l i 4 (-1) ≤ i := countF_le _ _ _ _
    have hcd : countF l i 5 (-1) ≤ i := countF_le _ _ _ _
    have d42 : decide ((countF l i 4 e.tx : Int) = 0) = false := by first | (simp only [decide_eq_true_eq, decide_eq_false_iff_not]; omega)
    have b42 : ((countF l i 4 e.tx : Int) == 0) = false := by first | (simp only [beq_iff_eq, beq_eq_false_iff_ne]; omega)
    have d46 : decide (e.stamp = z4.stamp) = false := by first | (simp only [decide_eq_true_eq, decide_eq_false_iff_not]; omega)
    have b46 : (e.stamp == z4.stamp) = false := by first | (simp only [beq_iff_eq, beq_eq_false_iff_ne]; omega)
    clear x
    clear k ov th q
    clear t0 t1 k7
    go_wp2_with (first | (go_at_call 35; refine (count_any _ n nc l i _ _ B1 _ HH.out HN.out (by first | exact HR2.out | exact HR2.out.drewN _) hin).mono ?_; rintro r w9 ⟨hq, hw⟩; subst hq; subst hw) | (go_at_call 36; refine (first_any _ n nc l _ _ B1 _ HH.out HN.out (by first | exact HR2.out | exact HR2.out.drewN _)).mono ?_; rintro r w9 ⟨hq, hw⟩; (first | rw [HO.out] at hq | rw [HO4.out] at hq); subst hq; subst hw))
    go_quiet (exact Calls.quiet_of_same (count_any _ n nc l i _ _ B1 _ HH.out HN.out (HR2.out.drewN _) hin))
    go_wp2_with (first | (go_at_call 35; refine (count_any _ n nc l i _ _ B1 _ HH.out HN.out (by first | exact HR2.out | exact HR2.out.drewN _) hin).mono ?_; rintro r w9 ⟨hq, hw⟩; subst hq; subst hw) | (go_at_call 36; refine (first_any _ n nc l _ _ B1 _ HH.out HN.out (by first | exact HR2.out | exact HR2.out.drewN _)).mono ?_; rintro r w9 ⟨hq, hw⟩; (first | rw [HO.out] at hq | rw [HO4.out] at hq); subst hq; subst hw))
    go_quiet (fail)
    go_wp2_with (first | (go_at_call 35; refine (count_any _ n nc l i _ _ B1 _ HH.out HN.out (by first | exact HR2.out | exact HR2.out.drewN _) hin).mono ?_; rintro r w9 ⟨hq, hw⟩; subst hq; subst hw) | (go_at_call 36; refine (first_any _ n nc l _ _ B1 _ HH.out HN.out (by first | exact HR2.out | exact HR2.out.drewN _)).mono ?_; rintro r w9 ⟨hq, hw⟩; (first | rw [HO.out] at hq | rw [HO4.out] at hq); subst hq; subst hw))
    go_quiet (fail)
    go_wp2_with (first | (go_at_call 35; refine (count_any _ n nc l i _ _ B1 _ HH.out HN.out (by first | exact HR2.out | exact HR2.out.drewN _) hin).mono ?_; rintro r w9 ⟨hq, hw⟩; subst hq; subst hw) | (go_at_call 36; refine (first_any _ n nc l _ _ B1 _ HH.out HN.out (by first | exact HR2.out | exact HR2.out.drewN _)).mono ?_; rintro r w9 ⟨hq, hw⟩; (first | rw [HO.out] at hq | rw [HO4.out] at hq); subst hq; subst hw))
    go_ret
    exact ⟨rfl, by first | exact HB2.out | exact below_drewN HB2.out _ | exact below_drewN (below_drewN HB2.out _) _ | exact below_drewN (below_drewN (below_drewN HB2.out _) _) _⟩

set_option maxHeartbeats 400000 in
theorem may_done_c (A : Option Addr) (n nc : Nat) (l : List Ev) (i : Nat) (w : World) (hl : l.length = n) (hn : n * 152 ≤ 140737488351232) (hR : Reads w w.heap.size 19 A n (evs l)) (hi : i < n) (e : Ev) (he : l[i]? = some e) (c1 : ¬ e.at_ < 0) (ca : i = 0 ∨ 0 < i ∧ ¬ e.at_ < (evAt l ((i : Int) - 1)).at_) (k7 : ¬ e.kind = 7) (t0 : ¬ e.tx < 0) (t1 : ¬ (countF l i 7 (-1) : Int) ≤ e.tx) (o : Nat) (ho : firstF l 7 e.tx = (o : Int)) (hol : o < n) (z : Ev) (hz : l[o]? = some z) (ov : ¬ 0 < (countF l i 6 e.tx : Int) + (countF l i 5 e.tx : Int)) (th : z.thread = e.thread) (k : e.kind = 5) (q : ¬ (countF l i 4 e.tx : Int) = 0) (o4 : Nat) (hf4 : firstF l 4 e.tx = (o4 : Int)) (ho4 : o4 < n) (z4 : Ev) (hz4 : l[o4]? = some z4) (x : e.stamp = z4.stamp) (y : ¬ e.stamp = (countF l i 5 (-1) : Int) + 1) :
    Calls Tryz.prog 34 #[.slice A n nc, .int .i64 i] w fun r w' => r = .returned (.bool false) ∧ Below w.heap.size w w' := by
  have hn8 : n ≤ 925904528640 := by omega
  have hil : i < l.length := by omega
  have hee : e = l[i] := (Option.some.inj ((List.getElem?_eq_getElem hil).symm.trans he)).symm
  obtain ⟨bb, off, rfl, hbb, hcc⟩ := reads_flat hR (by omega) (by decide)
  have hrg : w.rangeAt bb (off + i * 19) (evcs e).toList := by rw [hee]; exact evs_range hcc hil
  have hW0 : Below w.heap.size w (w.alloc (.cells (evcs e) 43)) := Below.alloc (Below.refl _ _) (Nat.le_refl _) _
  have hR1 := (hR.below hW0).more hW0.size
  have hr1 : (w.alloc (.cells (evcs e) 43)).rangeAt w.heap.size 0 (evcs e).toList := ev_range w e
  have u0 : (w.alloc (.cells (evcs e) 43)).cell? ⟨w.heap.size, 0, none⟩ = some (.int .i64 e.at_) := ev_at hr1 0 _ rfl
  obtain ⟨pa, hpa⟩ : ∃ z, z = (evAt l ((i : Int) - 1)).at_ := ⟨_, rfl⟩
  have hprev : ∀ j, i = j + 1 → (w.alloc (.cells (evcs e) 43)).cell? ⟨bb, off + j * 19, none⟩ = some (.int .i64 pa) := fun j hj => by
    have hjl : j < l.length := by omega
    have h1 := hcc (j * 19 + 0) _ (by rw [evs_at l j 0 hjl (by omega)]; rfl)
    have e1 : evAt l ((i : Int) - 1) = l[j] := by rw [show ((i : Int) - 1) = (j : Int) by omega]; exact evAt_of hjl
    rw [hpa, e1]
    exact (hW0.cell (p := ⟨bb, off + j * 19, none⟩) hbb).trans h1
  rw [← hpa] at ca
  have d1 : decide (e.at_ < 0) = false := by simp; omega
  have HB := Lib.hid hW0
  have HR := Lib.hid hR1
  have HV := Lib.hid hr1
  have HH := Lib.hid hl
  have HN := Lib.hid hn
  have HRG := Lib.hid hrg
  have HPV := Lib.hid hprev
  have HEE := Lib.hid hee
  clear hW0 hR1 hr1 hl hR hcc hn hrg hprev hee he hpa
  go_enter Tryz.func34, Tryz.ntmps34
  go_wp2_with (first
    | (refine wpList_load_mid rfl 43 (.tmp 16) rfl bb (off + i * 19) rfl (evcs e).toList _ HRG.out Tryz.underlying43 rfl (by kernel_rfl) ?_)
    | (refine wpList_alloc_ev rfl rfl ?_)
    | (refine wpList_store_ev e rfl (.tmp 5) (.tmp 17) rfl rfl rfl ?_))
  try simp only [Act.put, List.setIfInBounds_toArray, List.set_cons_zero, List.set_cons_succ]
  generalize w.alloc (.cells (evcs e) 43) = W1 at *
  go_cut [35] from 14 (fun v wc => v = .bool false ∧ ∃ k, wc = W1.drewN k)
  case first =>
    rcases ca with ca | ⟨ca, cb⟩
    · have d2 : decide (0 < (i : Int)) = false := by simp [ca]
      go_quiet (fail)
      go_wp2
      go_meet
      case rel => exact ⟨rfl, _, rfl⟩
    · have d2 : decide (0 < (i : Int)) = true := by simp; omega
      have d3 : decide (e.at_ < pa) = false := by simp; omega
      obtain ⟨j, rfl⟩ : ∃ j, i = j + 1 := ⟨i - 1, by omega⟩
      have p0 := HPV.out j rfl
      go_quiet (fail)
      go_wp2
      go_meet
      case rel => exact ⟨rfl, _, rfl⟩
  case rest =>
    obtain ⟨rfl, k0, rfl⟩ := hcut
    have HB2 : Hid (Below w.heap.size w (W1.drewN k0)) := Lib.hid (below_drewN HB.out _)
    have HR2 : Hid (Reads (W1.drewN k0) W1.heap.size 19 (some ⟨bb, off, none⟩) n (evs l)) := Lib.hid (HR.out.drewN _)
    have HV2 : Hid ((W1.drewN k0).rangeAt w.heap.size 0 (evcs e).toList) := Lib.hid HV.out
    generalize W1.heap.size = B1 at *
    generalize W1.drewN k0 = W2 at *
    clear HB HR HV HPV u0
    clear W1
    have u1 : W2.cell? ⟨w.heap.size, 1, none⟩ = some (.int .i64 e.thread) := ev_at HV2.out 1 _ rfl
    have u2 : W2.cell? ⟨w.heap.size, 2, none⟩ = some (.int .i64 e.tx) := ev_at HV2.out 2 _ rfl
    have u3 : W2.cell? ⟨w.heap.size, 3, none⟩ = some (.int .i64 e.kind) := ev_at HV2.out 3 _ rfl
    have u4 : W2.cell? ⟨w.heap.size, 4, none⟩ = some (.int .i64 e.cell) := ev_at HV2.out 4 _ rfl
    have u9 : W2.cell? ⟨w.heap.size, 9, none⟩ = some (.int .i64 e.stamp) := ev_at HV2.out 9 _ rfl
    have hin : i ≤ n := by omega
    clear c1 ca d1
    rw [k] at u3
    have HO4 := Lib.hid hf4
    have z9 : W2.cell? ⟨bb, off + o4 * 19 + 9, none⟩ = some (.int .i64 z4.stamp) := ev_cell_of HR2.out HH.out hz4 9 (by decide)
    clear hf4 hz4
    have HO := Lib.hid ho
    have z1 : W2.cell? ⟨bb, off + o * 19 + 1, none⟩ = some (.int .i64 z.thread) := ev_cell_of HR2.out HH.out hz 1 (by decide)
    have hc6 : countF l i 6 e.tx ≤ i := countF_le _ _ _ _
    have hc5 : countF l i 5 e.tx ≤ i := countF_le _ _ _ _
    have hc1 : countF l i 1 e.tx ≤ i := countF_le _ _ _ _
    have hc4 : countF l i 4 e.tx ≤ i := countF_le _ _ _ _
    clear ho hz
    have d7 : decide (e.kind = 7) = false := by first | (simp only [decide_eq_true_eq, decide_eq_false_iff_not]; omega)
    have b7 : (e.kind == 7) = false := by first | (simp only [beq_iff_eq, beq_eq_false_iff_ne]; omega)
    have d21 : decide (e.tx < 0) = false := by first | (simp only [decide_eq_true_eq, decide_eq_false_iff_not]; omega)
    have d22 : decide ((countF l i 7 (-1) : Int) ≤ e.tx) = false := by first | (simp only [decide_eq_true_eq, decide_eq_false_iff_not]; omega)
    have d30 : decide (0 < (countF l i 6 e.tx : Int) + (countF l i 5 e.tx : Int)) = false := by first | (simp only [decide_eq_true_eq, decide_eq_false_iff_not]; omega)
    have b31 : (z.thread != e.thread) = false := by simp [th]
    have hcp : countF l i 4 (-1) ≤ i := countF_le _ _ _ _
    have hcd : countF l i 5 (-1) ≤ i := countF_le _ _ _ _
    have d42 : decide ((countF l i 4 e.tx : Int) = 0) = false := by first | (simp only [decide_eq_true_eq, decide_eq_false_iff_not]; omega)
    have b42 : ((countF l i 4 e.tx : Int) == 0) = false := by first | (simp only [beq_iff_eq, beq_eq_false_iff_ne]; omega)
    have d46 : decide (e.stamp = z4.stamp) = true := by first | (simp only [decide_eq_true_eq, decide_eq_false_iff_not]; omega)
    have b46 : (e.stamp == z4.stamp) = true := by first | (simp only [beq_iff_eq, beq_eq_false_iff_ne]; omega)
    have d47 : decide (e.stamp = (countF l i 5 (-1) : Int) + 1) = false := by first | (simp only [decide_eq_true_eq, decide_eq_false_iff_not]; omega)
    have b47 : (e.stamp == (countF l i 5 (-1) : Int) + 1) = false := by first | (simp only [beq_iff_eq, beq_eq_false_iff_ne]; omega)
    clear x y
    clear k ov th q
    clear t0 t1 k7
    go_wp2_with (first | (go_at_call 35; refine (count_any _ n nc l i _ _ B1 _ HH.out HN.out (by first | exact HR2.out | exact HR2.out.drewN _) hin).mono ?_; rintro r w9 ⟨hq, hw⟩; subst hq; subst hw) | (go_at_call 36; refine (first_any _ n nc l _ _ B1 _ HH.out HN.out (by first | exact HR2.out | exact HR2.out.drewN _)).mono ?_; rintro r w9 ⟨hq, hw⟩; (first | rw [HO.out] at hq | rw [HO4.out] at hq); subst hq; subst hw))
    go_quiet (exact Calls.quiet_of_same (count_any _ n nc l i _ _ B1 _ HH.out HN.out (HR2.out.drewN _) hin))
    go_wp2_with (first | (go_at_call 35; refine (count_any _ n nc l i _ _ B1 _ HH.out HN.out (by first | exact HR2.out | exact HR2.out.drewN _) hin).mono ?_; rintro r w9 ⟨hq, hw⟩; subst hq; subst hw) | (go_at_call 36; refine (first_any _ n nc l _ _ B1 _ HH.out HN.out (by first | exact HR2.out | exact HR2.out.drewN _)).mono ?_; rintro r w9 ⟨hq, hw⟩; (first | rw [HO.out] at hq | rw [HO4.out] at hq); subst hq; subst hw))
    go_quiet (fail)
    go_wp2_with (first | (go_at_call 35; refine (count_any _ n nc l i _ _ B1 _ HH.out HN.out (by first | exact HR2.out | exact HR2.out.drewN _) hin).mono ?_; rintro r w9 ⟨hq, hw⟩; subst hq; subst hw) | (go_at_call 36; refine (first_any _ n nc l _ _ B1 _ HH.out HN.out (by first | exact HR2.out | exact HR2.out.drewN _)).mono ?_; rintro r w9 ⟨hq, hw⟩; (first | rw [HO.out] at hq | rw [HO4.out] at hq); subst hq; subst hw))
    go_quiet (fail)
    go_wp2_with (first | (go_at_call 35; refine (count_any _ n nc l i _ _ B1 _ HH.out HN.out (by first | exact HR2.out | exact HR2.out.drewN _) hin).mono ?_; rintro r w9 ⟨hq, hw⟩; subst hq; subst hw) | (go_at_call 36; refine (first_any _ n nc l _ _ B1 _ HH.out HN.out (by first | exact HR2.out | exact HR2.out.drewN _)).mono ?_; rintro r w9 ⟨hq, hw⟩; (first | rw [HO.out] at hq | rw [HO4.out] at hq); subst hq; subst hw))
    go_ret
    exact ⟨rfl, by first | exact HB2.out | exact below_drewN HB2.out _ | exact below_drewN (below_drewN HB2.out _) _ | exact below_drewN (below_drewN (below_drewN HB2.out _) _) _⟩

set_option maxHeartbeats 400000 in
theorem may_done_d (A : Option Addr) (n nc : Nat) (l : List Ev) (i : Nat) (w : World) (hl : l.length = n) (hn : n * 152 ≤ 140737488351232) (hR : Reads w w.heap.size 19 A n (evs l)) (hi : i < n) (e : Ev) (he : l[i]? = some e) (c1 : ¬ e.at_ < 0) (ca : i = 0 ∨ 0 < i ∧ ¬ e.at_ < (evAt l ((i : Int) - 1)).at_) (k7 : ¬ e.kind = 7) (t0 : ¬ e.tx < 0) (t1 : ¬ (countF l i 7 (-1) : Int) ≤ e.tx) (o : Nat) (ho : firstF l 7 e.tx = (o : Int)) (hol : o < n) (z : Ev) (hz : l[o]? = some z) (ov : ¬ 0 < (countF l i 6 e.tx : Int) + (countF l i 5 e.tx : Int)) (th : z.thread = e.thread) (k : e.kind = 5) (q : ¬ (countF l i 4 e.tx : Int) = 0) (o4 : Nat) (hf4 : firstF l 4 e.tx = (o4 : Int)) (ho4 : o4 < n) (z4 : Ev) (hz4 : l[o4]? = some z4) (x : e.stamp = z4.stamp) (y : e.stamp = (countF l i 5 (-1) : Int) + 1) :
    Calls Tryz.prog 34 #[.slice A n nc, .int .i64 i] w fun r w' => r = .returned (.bool true) ∧ Below w.heap.size w w' := by
  have hn8 : n ≤ 925904528640 := by omega
  have hil : i < l.length := by omega
  have hee : e = l[i] := (Option.some.inj ((List.getElem?_eq_getElem hil).symm.trans he)).symm
  obtain ⟨bb, off, rfl, hbb, hcc⟩ := reads_flat hR (by omega) (by decide)
  have hrg : w.rangeAt bb (off + i * 19) (evcs e).toList := by rw [hee]; exact evs_range hcc hil
  have hW0 : Below w.heap.size w (w.alloc (.cells (evcs e) 43)) := Below.alloc (Below.refl _ _) (Nat.le_refl _) _
  have hR1 := (hR.below hW0).more hW0.size
  have hr1 : (w.alloc (.cells (evcs e) 43)).rangeAt w.heap.size 0 (evcs e).toList := ev_range w e
  have u0 : (w.alloc (.cells (evcs e) 43)).cell? ⟨w.heap.size, 0, none⟩ = some (.int .i64 e.at_) := ev_at hr1 0 _ rfl
  obtain ⟨pa, hpa⟩ : ∃ z, z = (evAt l ((i : Int) - 1)).at_ := ⟨_, rfl⟩
  have hprev : ∀ j, i = j + 1 → (w.alloc (.cells (evcs e) 43)).cell? ⟨bb, off + j * 19, none⟩ = some (.int .i64 pa) := fun j hj => by
    have hjl : j < l.length := by omega
    have h1 := hcc (j * 19 + 0) _ (by rw [evs_at l j 0 hjl (by omega)]; rfl)
    have e1 : evAt l ((i : Int) - 1) = l[j] := by rw [show ((i : Int) - 1) = (j : Int) by omega]; exact evAt_of hjl
    rw [hpa, e1]
    exact (hW0.cell (p := ⟨bb, off + j * 19, none⟩) hbb).trans h1
  rw [← hpa] at ca
  have d1 : decide (e.at_ < 0) = false := by simp; omega
  have HB := Lib.hid hW0
  have HR := Lib.hid hR1
  have HV := Lib.hid hr1
  have HH := Lib.hid hl
  have HN := Lib.hid hn
  have HRG := Lib.hid hrg
  have HPV := Lib.hid hprev
  have HEE := Lib.hid hee
  clear hW0 hR1 hr1 hl hR hcc hn hrg hprev hee he hpa
  go_enter Tryz.func34, Tryz.ntmps34
  go_wp2_with (first
    | (refine wpList_load_mid rfl 43 (.tmp 16) rfl bb (off + i * 19) rfl (evcs e).toList _ HRG.out Tryz.underlying43 rfl (by kernel_rfl) ?_)
    | (refine wpList_alloc_ev rfl rfl ?_)
    | (refine wpList_store_ev e rfl (.tmp 5) (.tmp 17) rfl rfl rfl ?_))
  try simp only [Act.put, List.setIfInBounds_toArray, List.set_cons_zero, List.set_cons_succ]
  generalize w.alloc (.cells (evcs e) 43) = W1 at *
  go_cut [35] from 14 (fun v wc => v = .bool false ∧ ∃ k, wc = W1.drewN k)
  case first =>
    rcases ca with ca | ⟨ca, cb⟩
    · have d2 : decide (0 < (i : Int)) = false := by simp [ca]
      go_quiet (fail)
      go_wp2
      go_meet
      case rel => exact ⟨rfl, _, rfl⟩
    · have d2 : decide (0 < (i : Int)) = true := by simp; omega
      have d3 : decide (e.at_ < pa) = false := by simp; omega
      obtain ⟨j, rfl⟩ : ∃ j, i = j + 1 := ⟨i - 1, by omega⟩
      have p0 := HPV.out j rfl
      go_quiet (fail)
      go_wp2
      go_meet
      case rel => exact ⟨rfl, _, rfl⟩
  case rest =>
    obtain ⟨rfl, k0, rfl⟩ := hcut
    have HB2 : Hid (Below w.heap.size w (W1.drewN k0)) := Lib.hid (below_drewN HB.out _)
    have HR2 : Hid (Reads (W1.drewN k0) W1.heap.size 19 (some ⟨bb, off, none⟩) n (evs l)) := Lib.hid (HR.out.drewN _)
    have HV2 : Hid ((W1.drewN k0).rangeAt w.heap.size 0 (evcs e).toList) := Lib.hid HV.out
    generalize W1.heap.size = B1 at *
    generalize W1.drewN k0 = W2 at *
    clear HB HR HV HPV u0
    clear W1
    have u1 : W2.cell? ⟨w.heap.size, 1, none⟩ = some (.int .i64 e.thread) := ev_at HV2.out 1 _ rfl
    have u2 : W2.cell? ⟨w.heap.size, 2, none⟩ = some (.int .i64 e.tx) := ev_at HV2.out 2 _ rfl
    have u3 : W2.cell? ⟨w.heap.size, 3, none⟩ = some (.int .i64 e.kind) := ev_at HV2.out 3 _ rfl
    have u4 : W2.cell? ⟨w.heap.size, 4, none⟩ = some (.int .i64 e.cell) := ev_at HV2.out 4 _ rfl
    have u9 : W2.cell? ⟨w.heap.size, 9, none⟩ = some (.int .i64 e.stamp) := ev_at HV2.out 9 _ rfl
    have hin : i ≤ n := by omega
    clear c1 ca d1
    rw [k] at u3
    have HO4 := Lib.hid hf4
    have z9 : W2.cell? ⟨bb, off + o4 * 19 + 9, none⟩ = some (.int .i64 z4.stamp) := ev_cell_of HR2.out HH.out hz4 9 (by decide)
    clear hf4 hz4
    have HO := Lib.hid ho
    have z1 : W2.cell? ⟨bb, off + o * 19 + 1, none⟩ = some (.int .i64 z.thread) := ev_cell_of HR2.out HH.out hz 1 (by decide)
    have hc6 : countF l i 6 e.tx ≤ i := countF_le _ _ _ _
    have hc5 : countF l i 5 e.tx ≤ i := countF_le _ _ _ _
    have hc1 : countF l i 1 e.tx ≤ i := countF_le _ _ _ _
    have hc4 : countF l i 4 e.tx ≤ i := countF_le _ _ _ _
    clear ho hz
    have d7 : decide (e.kind = 7) = false := by first | (simp only [decide_eq_true_eq, decide_eq_false_iff_not]; omega)
    have b7 : (e.kind == 7) = false := by first | (simp only [beq_iff_eq, beq_eq_false_iff_ne]; omega)
    have d21 : decide (e.tx < 0) = false := by first | (simp only [decide_eq_true_eq, decide_eq_false_iff_not]; omega)
    have d22 : decide ((countF l i 7 (-1) : Int) ≤ e.tx) = false := by first | (simp only [decide_eq_true_eq, decide_eq_false_iff_not]; omega)
    have d30 : decide (0 < (countF l i 6 e.tx : Int) + (countF l i 5 e.tx : Int)) = false := by first | (simp only [decide_eq_true_eq, decide_eq_false_iff_not]; omega)
    have b31 : (z.thread != e.thread) = false := by simp [th]
    have hcp : countF l i 4 (-1) ≤ i := countF_le _ _ _ _
    have hcd : countF l i 5 (-1) ≤ i := countF_le _ _ _ _
    have d42 : decide ((countF l i 4 e.tx : Int) = 0) = false := by first | (simp only [decide_eq_true_eq, decide_eq_false_iff_not]; omega)
    have b42 : ((countF l i 4 e.tx : Int) == 0) = false := by first | (simp only [beq_iff_eq, beq_eq_false_iff_ne]; omega)
    have d46 : decide (e.stamp = z4.stamp) = true := by first | (simp only [decide_eq_true_eq, decide_eq_false_iff_not]; omega)
    have b46 : (e.stamp == z4.stamp) = true := by first | (simp only [beq_iff_eq, beq_eq_false_iff_ne]; omega)
    have d47 : decide (e.stamp = (countF l i 5 (-1) : Int) + 1) = true := by first | (simp only [decide_eq_true_eq, decide_eq_false_iff_not]; omega)
    have b47 : (e.stamp == (countF l i 5 (-1) : Int) + 1) = true := by first | (simp only [beq_iff_eq, beq_eq_false_iff_ne]; omega)
    clear x y
    clear k ov th q
    clear t0 t1 k7
    go_wp2_with (first | (go_at_call 35; refine (count_any _ n nc l i _ _ B1 _ HH.out HN.out (by first | exact HR2.out | exact HR2.out.drewN _) hin).mono ?_; rintro r w9 ⟨hq, hw⟩; subst hq; subst hw) | (go_at_call 36; refine (first_any _ n nc l _ _ B1 _ HH.out HN.out (by first | exact HR2.out | exact HR2.out.drewN _)).mono ?_; rintro r w9 ⟨hq, hw⟩; (first | rw [HO.out] at hq | rw [HO4.out] at hq); subst hq; subst hw))
    go_quiet (exact Calls.quiet_of_same (count_any _ n nc l i _ _ B1 _ HH.out HN.out (HR2.out.drewN _) hin))
    go_wp2_with (first | (go_at_call 35; refine (count_any _ n nc l i _ _ B1 _ HH.out HN.out (by first | exact HR2.out | exact HR2.out.drewN _) hin).mono ?_; rintro r w9 ⟨hq, hw⟩; subst hq; subst hw) | (go_at_call 36; refine (first_any _ n nc l _ _ B1 _ HH.out HN.out (by first | exact HR2.out | exact HR2.out.drewN _)).mono ?_; rintro r w9 ⟨hq, hw⟩; (first | rw [HO.out] at hq | rw [HO4.out] at hq); subst hq; subst hw))
    go_quiet (fail)
    go_wp2_with (first | (go_at_call 35; refine (count_any _ n nc l i _ _ B1 _ HH.out HN.out (by first | exact HR2.out | exact HR2.out.drewN _) hin).mono ?_; rintro r w9 ⟨hq, hw⟩; subst hq; subst hw) | (go_at_call 36; refine (first_any _ n nc l _ _ B1 _ HH.out HN.out (by first | exact HR2.out | exact HR2.out.drewN _)).mono ?_; rintro r w9 ⟨hq, hw⟩; (first | rw [HO.out] at hq | rw [HO4.out] at hq); subst hq; subst hw))
    go_quiet (fail)
    go_wp2_with (first | (go_at_call 35; refine (count_any _ n nc l i _ _ B1 _ HH.out HN.out (by first | exact HR2.out | exact HR2.out.drewN _) hin).mono ?_; rintro r w9 ⟨hq, hw⟩; subst hq; subst hw) | (go_at_call 36; refine (first_any _ n nc l _ _ B1 _ HH.out HN.out (by first | exact HR2.out | exact HR2.out.drewN _)).mono ?_; rintro r w9 ⟨hq, hw⟩; (first | rw [HO.out] at hq | rw [HO4.out] at hq); subst hq; subst hw))
    go_ret
    exact ⟨rfl, by first | exact HB2.out | exact below_drewN HB2.out _ | exact below_drewN (below_drewN HB2.out _) _ | exact below_drewN (below_drewN (below_drewN HB2.out _) _) _⟩

set_option maxHeartbeats 400000 in
theorem may_other (A : Option Addr) (n nc : Nat) (l : List Ev) (i : Nat) (w : World) (hl : l.length = n) (hn : n * 152 ≤ 140737488351232) (hR : Reads w w.heap.size 19 A n (evs l)) (hi : i < n) (e : Ev) (he : l[i]? = some e) (c1 : ¬ e.at_ < 0) (ca : i = 0 ∨ 0 < i ∧ ¬ e.at_ < (evAt l ((i : Int) - 1)).at_) (k7 : ¬ e.kind = 7) (t0 : ¬ e.tx < 0) (t1 : ¬ (countF l i 7 (-1) : Int) ≤ e.tx) (o : Nat) (ho : firstF l 7 e.tx = (o : Int)) (hol : o < n) (z : Ev) (hz : l[o]? = some z) (ov : ¬ 0 < (countF l i 6 e.tx : Int) + (countF l i 5 e.tx : Int)) (th : z.thread = e.thread) (n1 : ¬ e.kind = 1) (n2 : ¬ e.kind = 2) (n3 : ¬ e.kind = 3) (n4 : ¬ e.kind = 4) (n5 : ¬ e.kind = 5) (n6 : ¬ e.kind = 6) :
    Calls Tryz.prog 34 #[.slice A n nc, .int .i64 i] w fun r w' => r = .returned (.bool false) ∧ Below w.heap.size w w' := by
  have hn8 : n ≤ 925904528640 := by omega
  have hil : i < l.length := by omega
  have hee : e = l[i] := (Option.some.inj ((List.getElem?_eq_getElem hil).symm.trans he)).symm
  obtain ⟨bb, off, rfl, hbb, hcc⟩ := reads_flat hR (by omega) (by decide)
  have hrg : w.rangeAt bb (off + i * 19) (evcs e).toList := by rw [hee]; exact evs_range hcc hil
  have hW0 : Below w.heap.size w (w.alloc (.cells (evcs e) 43)) := Below.alloc (Below.refl _ _) (Nat.le_refl _) _
  have hR1 := (hR.below hW0).more hW0.size
  have hr1 : (w.alloc (.cells (evcs e) 43)).rangeAt w.heap.size 0 (evcs e).toList := ev_range w e
  have u0 : (w.alloc (.cells (evcs e) 43)).cell? ⟨w.heap.size, 0, none⟩ = some (.int .i64 e.at_) := ev_at hr1 0 _ rfl
  obtain ⟨pa, hpa⟩ : ∃ z, z = (evAt l ((i : Int) - 1)).at_ := ⟨_, rfl⟩
  have hprev : ∀ j, i = j + 1 → (w.alloc (.cells (evcs e) 43)).cell? ⟨bb, off + j * 19, none⟩ = some (.int .i64 pa) := fun j hj => by
    have hjl : j < l.length := by omega
    have h1 := hcc (j * 19 + 0) _ (by rw [evs_at l j 0 hjl (by omega)]; rfl)
    have e1 : evAt l ((i : Int) - 1) = l[j] := by rw [show ((i : Int) - 1) = (j : Int) by omega]; exact evAt_of hjl
    rw [hpa, e1]
    exact (hW0.cell (p := ⟨bb, off + j * 19, none⟩) hbb).trans h1
  rw [← hpa] at ca
  have d1 : decide (e.at_ < 0) = false := by simp; omega
  have HB := Lib.hid hW0
  have HR := Lib.hid hR1
  have HV := Lib.hid hr1
  have HH := Lib.hid hl
  have HN := Lib.hid hn
  have HRG := Lib.hid hrg
  have HPV := Lib.hid hprev
  have HEE := Lib.hid hee
  clear hW0 hR1 hr1 hl hR hcc hn hrg hprev hee he hpa
  go_enter Tryz.func34, Tryz.ntmps34
  go_wp2_with (first
    | (refine wpList_load_mid rfl 43 (.tmp 16) rfl bb (off + i * 19) rfl (evcs e).toList _ HRG.out Tryz.underlying43 rfl (by kernel_rfl) ?_)
    | (refine wpList_alloc_ev rfl rfl ?_)
    | (refine wpList_store_ev e rfl (.tmp 5) (.tmp 17) rfl rfl rfl ?_))
  try simp only [Act.put, List.setIfInBounds_toArray, List.set_cons_zero, List.set_cons_succ]
  generalize w.alloc (.cells (evcs e) 43) = W1 at *
  go_cut [35] from 14 (fun v wc => v = .bool false ∧ ∃ k, wc = W1.drewN k)
  case first =>
    rcases ca with ca | ⟨ca, cb⟩
    · have d2 : decide (0 < (i : Int)) = false := by simp [ca]
      go_quiet (fail)
      go_wp2
      go_meet
      case rel => exact ⟨rfl, _, rfl⟩
    · have d2 : decide (0 < (i : Int)) = true := by simp; omega
      have d3 : decide (e.at_ < pa) = false := by simp; omega
      obtain ⟨j, rfl⟩ : ∃ j, i = j + 1 := ⟨i - 1, by omega⟩
      have p0 := HPV.out j rfl
      go_quiet (fail)
      go_wp2
      go_meet
      case rel => exact ⟨rfl, _, rfl⟩
  case rest =>
    obtain ⟨rfl, k0, rfl⟩ := hcut
    have HB2 : Hid (Below w.heap.size w (W1.drewN k0)) := Lib.hid (below_drewN HB.out _)
    have HR2 : Hid (Reads (W1.drewN k0) W1.heap.size 19 (some ⟨bb, off, none⟩) n (evs l)) := Lib.hid (HR.out.drewN _)
    have HV2 : Hid ((W1.drewN k0).rangeAt w.heap.size 0 (evcs e).toList) := Lib.hid HV.out
    generalize W1.heap.size = B1 at *
    generalize W1.drewN k0 = W2 at *
    clear HB HR HV HPV u0
    clear W1
    have u1 : W2.cell? ⟨w.heap.size, 1, none⟩ = some (.int .i64 e.thread) := ev_at HV2.out 1 _ rfl
    have u2 : W2.cell? ⟨w.heap.size, 2, none⟩ = some (.int .i64 e.tx) := ev_at HV2.out 2 _ rfl
    have u3 : W2.cell? ⟨w.heap.size, 3, none⟩ = some (.int .i64 e.kind) := ev_at HV2.out 3 _ rfl
    have u4 : W2.cell? ⟨w.heap.size, 4, none⟩ = some (.int .i64 e.cell) := ev_at HV2.out 4 _ rfl
    have u9 : W2.cell? ⟨w.heap.size, 9, none⟩ = some (.int .i64 e.stamp) := ev_at HV2.out 9 _ rfl
    have hin : i ≤ n := by omega
    clear c1 ca d1
    have HO := Lib.hid ho
    have z1 : W2.cell? ⟨bb, off + o * 19 + 1, none⟩ = some (.int .i64 z.thread) := ev_cell_of HR2.out HH.out hz 1 (by decide)
    have hc6 : countF l i 6 e.tx ≤ i := countF_le _ _ _ _
    have hc5 : countF l i 5 e.tx ≤ i := countF_le _ _ _ _
    have hc1 : countF l i 1 e.tx ≤ i := countF_le _ _ _ _
    have hc4 : countF l i 4 e.tx ≤ i := countF_le _ _ _ _
    clear ho hz
    have d7 : decide (e.kind = 7) = false := by first | (simp only [decide_eq_true_eq, decide_eq_false_iff_not]; omega)
    have b7 : (e.kind == 7) = false := by first | (simp only [beq_iff_eq, beq_eq_false_iff_ne]; omega)
    have d21 : decide (e.tx < 0) = false := by first | (simp only [decide_eq_true_eq, decide_eq_false_iff_not]; omega)
    have d22 : decide ((countF l i 7 (-1) : Int) ≤ e.tx) = false := by first | (simp only [decide_eq_true_eq, decide_eq_false_iff_not]; omega)
    have d30 : decide (0 < (countF l i 6 e.tx : Int) + (countF l i 5 e.tx : Int)) = false := by first | (simp only [decide_eq_true_eq, decide_eq_false_iff_not]; omega)
    have b31 : (z.thread != e.thread) = false := by simp [th]
    have d51 : decide (e.kind = 1) = false := by first | (simp only [decide_eq_true_eq, decide_eq_false_iff_not]; omega)
    have b51 : (e.kind == 1) = false := by first | (simp only [beq_iff_eq, beq_eq_false_iff_ne]; omega)
    have d52 : decide (e.kind = 2) = false := by first | (simp only [decide_eq_true_eq, decide_eq_false_iff_not]; omega)
    have b52 : (e.kind == 2) = false := by first | (simp only [beq_iff_eq, beq_eq_false_iff_ne]; omega)
    have d53 : decide (e.kind = 3) = false := by first | (simp only [decide_eq_true_eq, decide_eq_false_iff_not]; omega)
    have b53 : (e.kind == 3) = false := by first | (simp only [beq_iff_eq, beq_eq_false_iff_ne]; omega)
    have d54 : decide (e.kind = 4) = false := by first | (simp only [decide_eq_true_eq, decide_eq_false_iff_not]; omega)
    have b54 : (e.kind == 4) = false := by first | (simp only [beq_iff_eq, beq_eq_false_iff_ne]; omega)
    have d55 : decide (e.kind = 5) = false := by first | (simp only [decide_eq_true_eq, decide_eq_false_iff_not]; omega)
    have b55 : (e.kind == 5) = false := by first | (simp only [beq_iff_eq, beq_eq_false_iff_ne]; omega)
    have d56 : decide (e.kind = 6) = false := by first | (simp only [decide_eq_true_eq, decide_eq_false_iff_not]; omega)
    have b56 : (e.kind == 6) = false := by first | (simp only [beq_iff_eq, beq_eq_false_iff_ne]; omega)
    clear n1 n2 n3 n4 n5 n6 ov th
    clear t0 t1 k7
    go_wp2_with (first | (go_at_call 35; refine (count_any _ n nc l i _ _ B1 _ HH.out HN.out (by first | exact HR2.out | exact HR2.out.drewN _) hin).mono ?_; rintro r w9 ⟨hq, hw⟩; subst hq; subst hw) | (go_at_call 36; refine (first_any _ n nc l _ _ B1 _ HH.out HN.out (by first | exact HR2.out | exact HR2.out.drewN _)).mono ?_; rintro r w9 ⟨hq, hw⟩; (first | rw [HO.out] at hq | rw [HO4.out] at hq); subst hq; subst hw))
    go_quiet (exact Calls.quiet_of_same (count_any _ n nc l i _ _ B1 _ HH.out HN.out (HR2.out.drewN _) hin))
    go_wp2_with (first | (go_at_call 35; refine (count_any _ n nc l i _ _ B1 _ HH.out HN.out (by first | exact HR2.out | exact HR2.out.drewN _) hin).mono ?_; rintro r w9 ⟨hq, hw⟩; subst hq; subst hw) | (go_at_call 36; refine (first_any _ n nc l _ _ B1 _ HH.out HN.out (by first | exact HR2.out | exact HR2.out.drewN _)).mono ?_; rintro r w9 ⟨hq, hw⟩; (first | rw [HO.out] at hq | rw [HO4.out] at hq); subst hq; subst hw))
    go_quiet (fail)
    go_wp2_with (first | (go_at_call 35; refine (count_any _ n nc l i _ _ B1 _ HH.out HN.out (by first | exact HR2.out | exact HR2.out.drewN _) hin).mono ?_; rintro r w9 ⟨hq, hw⟩; subst hq; subst hw) | (go_at_call 36; refine (first_any _ n nc l _ _ B1 _ HH.out HN.out (by first | exact HR2.out | exact HR2.out.drewN _)).mono ?_; rintro r w9 ⟨hq, hw⟩; (first | rw [HO.out] at hq | rw [HO4.out] at hq); subst hq; subst hw))
    go_ret
    exact ⟨rfl, by first | exact HB2.out | exact below_drewN HB2.out _ | exact below_drewN (below_drewN HB2.out _) _ | exact below_drewN (below_drewN (below_drewN HB2.out _) _) _⟩
end Go.Proofs.YtffjcojehiblnaaGreatDoor
