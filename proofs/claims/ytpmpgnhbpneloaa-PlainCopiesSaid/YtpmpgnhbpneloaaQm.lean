/- What the calls of a collection do to its cells: add to a chain, put into a dict. -/
import Derived.Test.YtpmpgnhbpneloaaQl
namespace Go.Proofs.Ytpmpgnhbpneloaa
open Go.RowKit Go.Joins Go.ChangeShapes Go.WideShapes Go.Deep
set_option linter.unusedVariables false
set_option maxRecDepth 100000

set_option maxHeartbeats 2000000 in
theorem add_any (x : TM) (T o base : Nat) (A : Option Addr) (na ca : Nat) (args : List Int) (w : World) (h : Cel w base T (o + 2) (o + 3) x) (hm : w.cell? ⟨T, o + 1, none⟩ = some (.int .i64 x.t.most)) (hok : TOk x.t) (hk : x.t.kind = 4) (hA : Reads w w.heap.size 1 A na (ints args)) (hal : args.length = 1) (hna : na = 1) (hbase : base ≤ w.heap.size) :
    Calls Try.prog 48 #[.pointer (some ⟨T, o, none⟩), .slice A na ca] w (MPost (addF x.t (args.getD 0 0)) base T (o + 2) (o + 3) x w) := by
  subst hna
  obtain ⟨ab, aoff, rfl, hab, hac⟩ := arg_cell hA 0 (by omega)
  have ca0 := hac 0 (by omega)
  generalize args.getD 0 0 = k at *
  simp only [Nat.add_zero] at ca0
  have HV := value_any x T o base k w h hok.lv (hok.chn hk)
  have hlow := low_le (key := idv) (l := x.t.values) (k := k)
  unfold addF
  have H := Lib.hid h
  rcases hat : isAt idv x.t.values k with _ | _
  · rw [hat] at HV
    obtain ⟨V, vc, hvv, hvc, hV⟩ := own_shapes h.th.vs
    have hlv := hok.lv
    have hm1 := hok.m1
    simp only [if_neg (show ¬ (false = true) by decide)]
    generalize low idv x.t.values k = lw at *
    have HT : Hid (∀ W, Below w.heap.size w W → W.cell? ⟨T, o + 2, none⟩ = some (.slice V x.t.values.length vc) ∧ W.cell? ⟨T, o + 1, none⟩ = some (.int .i64 x.t.most) ∧ W.cell? ⟨ab, aoff, none⟩ = some (.int .i64 k) ∧ W.frozen? ⟨T, o + 2, none⟩ = false ∧ T < W.heap.size ∧ ab < W.heap.size) :=
      Lib.hid fun W hW => by
        have hC := h.below hW
        have := hW.size
        exact ⟨by rw [hC.cv, hvv], (hW.cell (p := ⟨T, o + 1, none⟩) h.lt).trans hm, (hW.cell (p := ⟨ab, aoff, none⟩) hab).trans ca0, hC.fv, hC.lt, by omega⟩
    by_cases hfull : x.t.most ≤ x.t.values.length
    · rw [if_pos hfull]
      have e1 : decide (x.t.most ≤ (x.t.values.length : Int)) = true := by simp [hfull]
      clear hat h hac hA hok hk hal hvv hV
      go_enter Try.func48, Try.ntmps48
      go_wp2_with fail
      refine HV.mono ?_
      rintro e w1 ⟨rfl, hb⟩
      obtain ⟨c2, c1, c0, f2, hTl, hal⟩ := HT.out w1 hb
      go_wp2_with fail
      go_quiet (fail)
      go_wp2
      go_ret2
      exact MPost.read H.out (below_drewN hb _) rfl
    · rw [if_neg hfull]
      have e1 : decide (x.t.most ≤ (x.t.values.length : Int)) = false := by simp; omega
      have HI : Hid (∀ W n, Below w.heap.size w W → T < W.heap.size ∧ (Value.slice V x.t.values.length vc).ownBlock ≠ some T ∧ ((W.drewN n).alloc (.cells #[.int .i64 k] 2)).cell? ⟨T, o + 2, none⟩ = some (.slice V x.t.values.length vc) ∧ ((W.drewN n).alloc (.cells #[.int .i64 k] 2)).frozen? ⟨T, o + 2, none⟩ = false ∧
          Calls Try.prog 70 #[.slice V x.t.values.length vc, .int .i64 lw, .slice (some ⟨W.heap.size, 0, none⟩) 1 1] ((W.drewN n).alloc (.cells #[.int .i64 k] 2)) (InsPostV base (.slice V x.t.values.length vc) x.t.values.length ((ints x.t.values).take (lw * 1) ++ [.int .i64 k] ++ (ints x.t.values).drop (lw * 1)) ((W.drewN n).alloc (.cells #[.int .i64 k] 2)))) :=
        Lib.hid fun W n hW => by
          have hC := (h.below hW)
          have hbel : Below W.heap.size W ((W.drewN n).alloc (.cells #[.int .i64 k] 2)) := (below_drewN (Below.refl _ _) n).alloc (Nat.le_refl _) _
          have hC2 := hC.below hbel
          refine ⟨hC.lt, by rw [← hvv]; exact hC.nv, by rw [hC2.cv, hvv], hC2.fv, ?_⟩
          exact insert_anyV base x.t.values.length lw vc W.heap.size V (ints x.t.values) [.int .i64 k] _ (by omega) hlow (by rw [← hvv]; exact hC2.th.vs) (by have := hW.size; simp; omega) (by exact Blk.new (W.drewN n) _ _) rfl (by simp [Value.oneCell']) (ints_one _) (fun e => by rw [← hvv] at e; have := (hC.th.vs.lt _ e).2; omega)
      have HVV := Lib.hid hvv
      have HLW := Lib.hid hlow
      clear hat h hac hA hok hk hal hvv hV hlow
      go_enter Try.func48, Try.ntmps48
      go_wp2_with fail
      refine HV.mono ?_
      rintro e w1 ⟨rfl, hb⟩
      obtain ⟨c2, c1, c0, f2, hTl, hal⟩ := HT.out w1 hb
      have HB := Lib.hid hb
      have c2a : ∀ n, ((w1.drewN n).alloc (.cells #[.int .i64 k] 2)).cell? ⟨T, o + 2, none⟩ = some (.slice V x.t.values.length vc) := fun n => (HI.out w1 n HB.out).2.2.1
      clear hb
      go_wp2_with fail
      go_quiet (fail)
      go_wp2_with fail
      go_region_with (go_at_call 70; refine ((HI.out w1 _ HB.out).2.2.2.2).mono ?_; rintro e w2 ⟨vv', rfl, hown1, hg, hd⟩; obtain ⟨gg, cap, rfl, -, -⟩ := hown1.form (Nat.succ_pos _); have fl2 : w2.frozen? ⟨T, o + 2, none⟩ = false := (hg.frozen_far ⟨T, o + 2, none⟩ (by simp; omega) (Ne.symm (HI.out w1 0 HB.out).2.1)).trans (HI.out w1 _ HB.out).2.2.2.1; have cl2 : w2.cell? ⟨T, o + 2, none⟩ = some (.slice V x.t.values.length vc) := (hg.cell_far ⟨T, o + 2, none⟩ (by simp; omega) (Ne.symm (HI.out w1 0 HB.out).2.1)).trans (c2a _))
      all_goals
        have HP := Lib.hid (row_end (vs' := put1 x.t.values lw k) H.out (HB.out.trans (Below.mono (B' := w.heap.size) ((below_drewN (Below.refl _ _) _).alloc (Nat.le_refl _) _) HB.out.size)) hown1 (put1_length HLW.out).symm (ints_put1 _ _ _) (by rw [HVV.out]; exact hg) (by rw [HVV.out]; exact hd.imp id fun e b hb => by rw [e] at hb; injection hb with hb; omega))
        clear hown1 hg hd
        go_wp2_with fail
        go_ret2
        exact ⟨rfl, HP.out⟩
  · rw [hat] at HV
    generalize low idv x.t.values k = lw at *
    clear hat h hac hA hok hk hal
    go_enter Try.func48, Try.ntmps48
    go_wp2_with fail
    refine HV.mono ?_
    rintro e w1 ⟨rfl, hb⟩
    go_wp2_with fail
    go_ret2
    exact MPost.read H.out hb rfl
theorem put_end {w w1 : World} {base T iv ip g vc lw n1 : Nat} {x : TM} {k v : Int} (h : Cel w base T iv ip x) (hvv : x.pv = .slice (some ⟨g, 0, none⟩) x.t.pairs.length vc) (hb : Below w.heap.size w w1)
    (hset : prs (x.t.pairs.set lw (k, v)) = (prs x.t.pairs).set (lw * 2 + 1) (.int .i64 v)) : XPost w ((w1.drewN n1).setCell ⟨g, lw * 2 + 1, none⟩ (.int .i64 v)) base T iv ip x { x.t with pairs := x.t.pairs.set lw (k, v) } := by
  have hC := h.below hb
  have hown := hC.th.ps
  rw [hvv] at hown
  have h1 := ((own_drewN (k := n1) hown).stored (lw * 2 + 1) (.int .i64 v)).1
  rw [← hset] at h1
  refine XPost.after h hb (XPost.pairsIn hC ?_ ?_)
  · rw [hvv, List.length_set]
    exact h1
  · rw [hvv]
    exact only_setCell (p := ⟨g, lw * 2 + 1, none⟩) (only_drewN (World.grownBy.refl _ _) _) (.inl rfl) _
set_option maxHeartbeats 2000000 in
theorem put_any (x : TM) (T o base : Nat) (A : Option Addr) (na ca : Nat) (args : List Int) (w : World) (h : Cel w base T (o + 2) (o + 3) x) (hm : w.cell? ⟨T, o + 1, none⟩ = some (.int .i64 x.t.most)) (hok : TOk x.t) (hk : x.t.kind = 3) (hA : Reads w w.heap.size 1 A na (ints args)) (hal : args.length = 2) (hna : na = 2) (hbase : base ≤ w.heap.size) :
    Calls Try.prog 45 #[.pointer (some ⟨T, o, none⟩), .slice A na ca] w (MPost (putF x.t (args.getD 0 0) (args.getD 1 0)) base T (o + 2) (o + 3) x w) := by
  subst hna
  obtain ⟨ab, aoff, rfl, hab, hac⟩ := arg_cell hA 0 (by omega)
  have ca0 := hac 0 (by omega)
  have ca1 := hac 1 (by omega)
  generalize args.getD 0 0 = k at *
  generalize args.getD 1 0 = v at *
  simp only [Nat.add_zero] at ca0
  have HV := pair_any x T o base k w h hok.lp (hok.dct hk)
  have hlow := low_le (key := Prod.fst) (l := x.t.pairs) (k := k)
  unfold putF
  have H := Lib.hid h
  rcases hat : isAt Prod.fst x.t.pairs k with _ | _
  · rw [hat] at HV
    obtain ⟨V, vc, hvv, hvc, hV⟩ := own_shapes h.th.ps
    have hlv := hok.lp
    have hm1 := hok.m1
    simp only [if_neg (show ¬ (false = true) by decide)]
    generalize low Prod.fst x.t.pairs k = lw at *
    have HT : Hid (∀ W, Below w.heap.size w W → W.cell? ⟨T, o + 3, none⟩ = some (.slice V x.t.pairs.length vc) ∧ W.cell? ⟨T, o + 1, none⟩ = some (.int .i64 x.t.most) ∧ W.cell? ⟨ab, aoff, none⟩ = some (.int .i64 k) ∧ W.cell? ⟨ab, aoff + 1, none⟩ = some (.int .i64 v) ∧ W.frozen? ⟨T, o + 3, none⟩ = false ∧ T < W.heap.size ∧ ab < W.heap.size) :=
      Lib.hid fun W hW => by
        have hC := h.below hW
        have := hW.size
        exact ⟨by rw [hC.cp, hvv], (hW.cell (p := ⟨T, o + 1, none⟩) h.lt).trans hm, (hW.cell (p := ⟨ab, aoff, none⟩) hab).trans ca0, (hW.cell (p := ⟨ab, aoff + 1, none⟩) hab).trans ca1, hC.fp, hC.lt, by omega⟩
    by_cases hfull : x.t.most ≤ x.t.pairs.length
    · rw [if_pos hfull]
      have e1 : decide (x.t.most ≤ (x.t.pairs.length : Int)) = true := by simp [hfull]
      clear hat h hac hA hok hk hal hvv hV
      go_enter Try.func45, Try.ntmps45
      go_wp2_with fail
      refine HV.mono ?_
      rintro e w1 ⟨rfl, hb⟩
      obtain ⟨c2, c1, c0, c01, f2, hTl, hal⟩ := HT.out w1 hb
      go_wp2_with fail
      go_quiet (fail)
      go_wp2
      go_ret2
      exact MPost.read H.out (below_drewN hb _) rfl
    · rw [if_neg hfull]
      have e1 : decide (x.t.most ≤ (x.t.pairs.length : Int)) = false := by simp; omega
      have HI : Hid (∀ W n, Below w.heap.size w W → T < W.heap.size ∧ (Value.slice V x.t.pairs.length vc).ownBlock ≠ some T ∧ ((W.drewN n).alloc (.cells #[.int .i64 k, .int .i64 v] 54)).cell? ⟨T, o + 3, none⟩ = some (.slice V x.t.pairs.length vc) ∧ ((W.drewN n).alloc (.cells #[.int .i64 k, .int .i64 v] 54)).frozen? ⟨T, o + 3, none⟩ = false ∧
          Calls Try.prog 67 #[.slice V x.t.pairs.length vc, .int .i64 lw, .slice (some ⟨W.heap.size, 0, none⟩) 1 1] ((W.drewN n).alloc (.cells #[.int .i64 k, .int .i64 v] 54)) (InsPostP base (.slice V x.t.pairs.length vc) x.t.pairs.length ((prs x.t.pairs).take (lw * 2) ++ [.int .i64 k, .int .i64 v] ++ (prs x.t.pairs).drop (lw * 2)) ((W.drewN n).alloc (.cells #[.int .i64 k, .int .i64 v] 54)))) :=
        Lib.hid fun W n hW => by
          have hC := (h.below hW)
          have hbel : Below W.heap.size W ((W.drewN n).alloc (.cells #[.int .i64 k, .int .i64 v] 54)) := (below_drewN (Below.refl _ _) n).alloc (Nat.le_refl _) _
          have hC2 := hC.below hbel
          refine ⟨hC.lt, by rw [← hvv]; exact hC.np, by rw [hC2.cp, hvv], hC2.fp, ?_⟩
          exact insert_anyP base x.t.pairs.length lw vc W.heap.size V (prs x.t.pairs) [.int .i64 k, .int .i64 v] _ (by omega) hlow (by rw [← hvv]; exact hC2.th.ps) (by have := hW.size; simp; omega) (by exact Blk.new (W.drewN n) _ _) rfl (by simp [Value.oneCell']) (prs_one _) (fun e => by rw [← hvv] at e; have := (hC.th.ps.lt _ e).2; omega)
      have HVV := Lib.hid hvv
      have HLW := Lib.hid hlow
      clear hat h hac hA hok hk hal hvv hV hlow
      go_enter Try.func45, Try.ntmps45
      go_wp2_with fail
      refine HV.mono ?_
      rintro e w1 ⟨rfl, hb⟩
      obtain ⟨c2, c1, c0, c01, f2, hTl, hal⟩ := HT.out w1 hb
      have HB := Lib.hid hb
      have c2a : ∀ n, ((w1.drewN n).alloc (.cells #[.int .i64 k, .int .i64 v] 54)).cell? ⟨T, o + 3, none⟩ = some (.slice V x.t.pairs.length vc) := fun n => (HI.out w1 n HB.out).2.2.1
      clear hb
      go_wp2_with fail
      go_quiet (fail)
      go_wp2_with fail
      go_region_with (go_at_call 67; refine ((HI.out w1 _ HB.out).2.2.2.2).mono ?_; rintro e w2 ⟨vv', rfl, hown1, hg, hd⟩; obtain ⟨gg, cap, rfl, -, -⟩ := hown1.form (Nat.succ_pos _); have fl2 : w2.frozen? ⟨T, o + 3, none⟩ = false := (hg.frozen_far ⟨T, o + 3, none⟩ (by simp; omega) (Ne.symm (HI.out w1 0 HB.out).2.1)).trans (HI.out w1 _ HB.out).2.2.2.1; have cl2 : w2.cell? ⟨T, o + 3, none⟩ = some (.slice V x.t.pairs.length vc) := (hg.cell_far ⟨T, o + 3, none⟩ (by simp; omega) (Ne.symm (HI.out w1 0 HB.out).2.1)).trans (c2a _))
      all_goals
        have HP := Lib.hid (rowp_end (ps' := put1 x.t.pairs lw (k, v)) H.out (HB.out.trans (Below.mono (B' := w.heap.size) ((below_drewN (Below.refl _ _) _).alloc (Nat.le_refl _) _) HB.out.size)) hown1 (put1_length HLW.out).symm (prs_put1 _ _ _ _) (by rw [HVV.out]; exact hg) (by rw [HVV.out]; exact hd.imp id fun e b hb => by rw [e] at hb; injection hb with hb; omega))
        clear hown1 hg hd
        go_wp2_with fail
        go_ret2
        exact ⟨rfl, HP.out⟩
  · rw [hat] at HV
    obtain ⟨hl1, hl2⟩ := isAt_iff.1 hat
    have hown := h.th.ps
    obtain ⟨V, vc, hvv, hvc, hV⟩ := own_shapes h.th.ps
    obtain ⟨g, cap, hv, hbg, hgl⟩ := hown.form (by omega)
    rw [hvv] at hv
    injection hv with e1 e2 e3
    subst e1 e3
    have hlv := hok.lp
    simp only [if_true]
    have HSET : Hid (prs (x.t.pairs.set (low Prod.fst x.t.pairs k) (k, v)) = (prs x.t.pairs).set (low Prod.fst x.t.pairs k * 2 + 1) (.int .i64 v)) := Lib.hid (prs_setv _ _ _ _ hl1 hl2).symm
    clear hl2
    have cy : ∃ u, w.cell? ⟨g, low Prod.fst x.t.pairs k * 2 + 1, none⟩ = some u := by
      have hp := prs_at x.t.pairs _ 1 hl1 (by omega)
      have := hown.cells (g := g) (by rw [hvv]; rfl) _ _ hp
      rw [show ((⟨g, 0, none⟩ : Addr).add (low Prod.fst x.t.pairs k * 2 + 1)) = ⟨g, low Prod.fst x.t.pairs k * 2 + 1, none⟩ by unfold Addr.add; split <;> simp_all] at this
      exact ⟨_, this⟩
    generalize low Prod.fst x.t.pairs k = lw at *
    obtain ⟨u, cy⟩ := cy
    have fy : w.frozen? ⟨g, lw * 2 + 1, none⟩ = false := by
      obtain ⟨cs, hc⟩ := own_blk hown (b := g) (by rw [hvv]; rfl)
      exact hc.frozen _
    have HT : Hid (∀ W, Below w.heap.size w W → W.cell? ⟨T, o + 3, none⟩ = some (.slice (some ⟨g, 0, none⟩) x.t.pairs.length vc) ∧ W.cell? ⟨ab, aoff + 1, none⟩ = some (.int .i64 v) ∧ W.cell? ⟨g, lw * 2 + 1, none⟩ = some u ∧ W.frozen? ⟨g, lw * 2 + 1, none⟩ = false ∧ g < W.heap.size) :=
      Lib.hid fun W hW => by
        have hC := h.below hW
        have := hW.size
        exact ⟨by rw [hC.cp, hvv], (hW.cell (p := ⟨ab, aoff + 1, none⟩) hab).trans ca1, (hW.cell (p := ⟨g, lw * 2 + 1, none⟩) hgl).trans cy, (hW.frozen (p := ⟨g, lw * 2 + 1, none⟩) hgl).trans fy, by omega⟩
    have HVV := Lib.hid hvv
    have hii : (lw : Int) < (x.t.pairs.length : Int) := by omega
    clear hat h hac hA hok hk hal hvv hV hown cy fy ca1
    go_enter Try.func45, Try.ntmps45
    go_wp2_with fail
    refine HV.mono ?_
    rintro e w1 ⟨rfl, hb⟩
    obtain ⟨c2, c01, cy, fy, hgl1⟩ := HT.out w1 hb
    have HB := Lib.hid hb
    clear hb
    go_wp2_with fail
    go_region_law (fail)
    all_goals
      go_wp2_with fail
      go_ret2
      exact ⟨rfl, put_end H.out HVV.out HB.out HSET.out⟩
end Go.Proofs.Ytpmpgnhbpneloaa
