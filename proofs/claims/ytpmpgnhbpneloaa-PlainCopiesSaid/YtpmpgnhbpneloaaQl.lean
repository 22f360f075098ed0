/- What the calls of a collection do to its cells: those that take and put. -/
import Derived.Test.YtpmpgnhbpneloaaQk
namespace Go.Proofs.Ytpmpgnhbpneloaa
open Go.RowKit Go.Joins Go.ChangeShapes Go.WideShapes Go.Deep
set_option linter.unusedVariables false
set_option maxRecDepth 100000

theorem counted_any (x : TM) (T o base : Nat) (A : Option Addr) (na ca : Nat) (args : List Int) (w : World) (h : Cel w base T (o + 2) (o + 3) x) (hok : TOk x.t) (hA : Reads w w.heap.size 1 A na (ints args)) (hal : args.length = 1) (hna : na = 1) :
    Calls Try.prog 40 #[.pointer (some ⟨T, o, none⟩), .slice A na ca] w (MPost (countF x.t (args.getD 0 0) 0) base T (o + 2) (o + 3) x w) := by
  subst hna
  obtain ⟨ab, aoff, rfl, hab, hac⟩ := arg_cell hA 0 (by omega)
  have ca0 := hac 0 (by omega)
  generalize args.getD 0 0 = k at *
  simp only [Nat.add_zero] at ca0
  have hbel : Below w.heap.size w (w.alloc (.cells #[.int .i64 k, .int .i64 0] 2)) := (Below.refl _ _).alloc (Nat.le_refl _) _
  have HC : Calls Try.prog 39 #[.pointer (some ⟨T, o, none⟩), .slice (some ⟨w.heap.size, 0, none⟩) 2 2] (w.alloc (.cells #[.int .i64 k, .int .i64 0] 2)) (MPost (countF x.t k 0) base T (o + 2) (o + 3) x (w.alloc (.cells #[.int .i64 k, .int .i64 0] 2))) := by
    by_cases hin : 0 ≤ k ∧ k < x.t.values.length
    · obtain ⟨i, rfl⟩ := Int.eq_ofNat_of_zero_le hin.1
      exact count_yes x T o base w.heap.size 0 2 2 i 0 _ (h.below hbel) (by omega) (by simp) (by simp) (by omega) (fun e => by have := (h.th.vs.lt _ e).2; omega) hok.lv
    · exact count_no x T o base w.heap.size 0 2 2 k 0 _ (h.below hbel) (by omega) (by simp) hin
  obtain ⟨r, hr⟩ : ∃ r, r = countF x.t k 0 := ⟨_, rfl⟩
  rw [← hr] at HC ⊢
  have H := Lib.hid h
  have HB := Lib.hid hbel
  clear h hac hA hok hal hr hbel
  go_enter Try.func40, Try.ntmps40
  go_wp2_with fail
  refine HC.mono ?_
  rintro e w1 ⟨rfl, hp⟩
  have HP := Lib.hid (XPost.after H.out HB.out hp)
  clear hp
  go_wp2_with fail
  go_ret2
  exact ⟨rfl, HP.out⟩

theorem count_any (x : TM) (T o base : Nat) (A : Option Addr) (na ca : Nat) (args : List Int) (w : World) (h : Cel w base T (o + 2) (o + 3) x) (hok : TOk x.t) (hA : Reads w w.heap.size 1 A na (ints args)) (hal : args.length = 2) (hna : na = 2) (hsep : ∀ ad, A = some ad → x.vv.ownBlock ≠ some ad.block) :
    Calls Try.prog 39 #[.pointer (some ⟨T, o, none⟩), .slice A na ca] w (MPost (countF x.t (args.getD 0 0) (args.getD 1 0)) base T (o + 2) (o + 3) x w) := by
  subst hna
  obtain ⟨ab, aoff, rfl, hab, hac⟩ := arg_cell hA 0 (by omega)
  have ca0 := hac 0 (by omega)
  have ca1 := hac 1 (by omega)
  have hs := hsep _ rfl
  generalize args.getD 0 0 = k at *
  generalize args.getD 1 0 = d at *
  simp only [Nat.add_zero] at ca0
  by_cases hin : 0 ≤ k ∧ k < x.t.values.length
  · obtain ⟨i, rfl⟩ := Int.eq_ofNat_of_zero_le hin.1
    exact count_yes x T o base ab aoff 2 ca i d w h (by omega) ca0 ca1 (by omega) hs hok.lv
  · exact count_no x T o base ab aoff 2 ca k d w h (by omega) ca0 hin

theorem own_slice (V : Option Addr) (a b c d : Nat) : (Value.slice V a b).ownBlock = (Value.slice V c d).ownBlock := by cases V <;> rfl
/-- What is left behind Delete and Insert, once stored. -/
theorem row_end {w w1 w2 : World} {base T iv ip : Nat} {x : TM} {vv' : Value} {vs' : List Int} {xs' : List Value} {n' : Nat} (h : Cel w base T iv ip x) (hb : Below w.heap.size w w1) (hown : w2.ownsRow base 2 1 vv' n' xs') (hn : n' = vs'.length) (hxs : xs' = ints vs') (hg : w1.grownBy w2 x.vv.ownBlock)
    (hat : vv'.ownBlock = x.vv.ownBlock ∨ ∀ b, vv'.ownBlock = some b → w1.heap.size ≤ b) : XPost w (w2.setCell ⟨T, iv, none⟩ vv') base T iv ip x { x.t with values := vs' } := by
  subst hxs hn
  exact XPost.values h hown (grown_after hb hg) (hat.imp id fun e b hb' => by have := e b hb'; have := hb.size; omega)
theorem rowp_end {w w1 w2 : World} {base T iv ip : Nat} {x : TM} {pv' : Value} {ps' : List (Int × Int)} {xs' : List Value} {n' : Nat} (h : Cel w base T iv ip x) (hb : Below w.heap.size w w1) (hown : w2.ownsRow base 54 2 pv' n' xs') (hn : n' = ps'.length) (hxs : xs' = prs ps') (hg : w1.grownBy w2 x.pv.ownBlock)
    (hat : pv'.ownBlock = x.pv.ownBlock ∨ ∀ b, pv'.ownBlock = some b → w1.heap.size ≤ b) : XPost w (w2.setCell ⟨T, ip, none⟩ pv') base T iv ip x { x.t with pairs := ps' } := by
  subst hxs hn
  exact XPost.pairs h hown (grown_after hb hg) (hat.imp id fun e b hb' => by have := e b hb'; have := hb.size; omega)

theorem pull_any (x : TM) (T o base : Nat) (a : Value) (w : World) (h : Cel w base T (o + 2) (o + 3) x) (hok : TOk x.t) :
    Calls Try.prog 42 #[.pointer (some ⟨T, o, none⟩), a] w (MPost (pullF x.t) base T (o + 2) (o + 3) x w) := by
  have hown := h.th.vs
  obtain ⟨V, vc, hvv, hvc, hV⟩ := own_shapes h.th.vs
  have c2 := h.cv
  rw [hvv] at c2 hown
  have f2 := h.fv
  have hTl := h.lt
  have hlv := hok.lv
  have H := Lib.hid h
  have hnT : (Value.slice V x.t.values.length vc).ownBlock ≠ some T := by rw [← hvv]; exact h.nv
  have HV := Lib.hid hvv
  unfold pullF
  rcases hvs : x.t.values with _ | ⟨v, r⟩
  · rw [hvs] at c2
    clear h hvv hV hown hok
    simp only [List.length_nil] at c2
    go_enter Try.func42, Try.ntmps42
    go_wp2
    go_ret2
    exact MPost.read H.out (Below.refl _ _) rfl
  · have hD := delete_anyV base x.t.values.length 0 vc 0 1 V (ints x.t.values) w (by omega) (by rw [hvs]; simp) rfl (by omega) hown (ints_one _)
    obtain ⟨b, off, rfl, hb, hc⟩ := hV.flat (by rw [hvs]; simp)
    have cx : w.cell? ⟨b, off, none⟩ = some (.int .i64 v) := by
      have := hc 0 (.int .i64 v) (by rw [hvs]; simp [ints])
      simpa using this
    obtain ⟨N, hN⟩ : ∃ N, N = x.t.values.length := ⟨_, rfl⟩
    have hNr : N = r.length + 1 := by rw [hN, hvs]; simp
    have e1 : ((N : Int) == 0) = false := by simp; omega
    have hNi : (0 : Int) < (N : Int) := by omega
    have hN0 : 0 < N := by omega
    rw [← hN] at c2 hD hnT
    have HN := Lib.hid hN
    have HNR := Lib.hid hNr
    have HVS := Lib.hid hvs
    simp only
    clear h hvv hV hown hok hc hvs hN hNr
    go_enter Try.func42, Try.ntmps42
    go_wp2_with fail
    refine hD.mono ?_
    rintro e w1 ⟨rfl, hown1, hg⟩
    have fl2 : w1.frozen? ⟨T, o + 2, none⟩ = false := (hg.frozen_far ⟨T, o + 2, none⟩ hTl (Ne.symm hnT)).trans f2
    have cl2 : w1.cell? ⟨T, o + 2, none⟩ = some (.slice (some ⟨b, off, none⟩) N vc) := (hg.cell_far ⟨T, o + 2, none⟩ hTl (Ne.symm hnT)).trans c2
    have HP := Lib.hid (row_end (vs' := r) H.out (Below.refl _ _) hown1 (by rw [HNR.out]; simp) (by rw [HVS.out]; simp [ints]) (by rw [HV.out, ← HN.out]; exact hg) (.inl (by rw [HV.out]; rfl)))
    clear hown1 hg hD
    go_wp2_with fail
    go_ret2
    exact ⟨rfl, HP.out⟩

set_option maxHeartbeats 1000000 in
theorem cut_any (x : TM) (T o base : Nat) (A : Option Addr) (na ca : Nat) (args : List Int) (w : World) (h : Cel w base T (o + 2) (o + 3) x) (hok : TOk x.t) (hk : x.t.kind = 4) (hA : Reads w w.heap.size 1 A na (ints args)) (hal : args.length = 1) (hna : na = 1) :
    Calls Try.prog 49 #[.pointer (some ⟨T, o, none⟩), .slice A na ca] w (MPost (cutF x.t (args.getD 0 0)) base T (o + 2) (o + 3) x w) := by
  subst hna
  obtain ⟨ab, aoff, rfl, hab, hac⟩ := arg_cell hA 0 (by omega)
  have ca0 := hac 0 (by omega)
  generalize args.getD 0 0 = k at *
  simp only [Nat.add_zero] at ca0
  have HV := value_any x T o base k w h hok.lv (hok.chn hk)
  unfold cutF
  have H := Lib.hid h
  rcases hat : isAt idv x.t.values k with _ | _
  · rw [hat] at HV
    generalize low idv x.t.values k = lw at *
    clear hat h hac hA hok hk hal
    go_enter Try.func49, Try.ntmps49
    go_wp2_with fail
    refine HV.mono ?_
    rintro e w1 ⟨rfl, hb⟩
    go_wp2_with fail
    go_ret2
    exact MPost.read H.out hb rfl
  · rw [hat] at HV
    obtain ⟨hl1, hl2⟩ := isAt_iff.1 hat
    clear hl2
    obtain ⟨V, vc, hvv, hvc, hV⟩ := own_shapes h.th.vs
    have hlv := hok.lv
    simp only [if_true]
    generalize low idv x.t.values k = lw at *
    have HW : Hid (∀ W, Below w.heap.size w W → W.cell? ⟨T, o + 2, none⟩ = some (.slice V x.t.values.length vc) ∧ W.frozen? ⟨T, o + 2, none⟩ = false ∧ T < W.heap.size ∧ (Value.slice V x.t.values.length vc).ownBlock ≠ some T ∧
        Calls Try.prog 65 #[.slice V x.t.values.length vc, .int .i64 lw, .int .i64 ((lw : Int) + 1)] W fun e w' => e = .returned (.slice V (x.t.values.length - 1) vc) ∧ w'.ownsRow base 2 1 (.slice V (x.t.values.length - 1) vc) (x.t.values.length - 1) ((ints x.t.values).take (lw * 1) ++ (ints x.t.values).drop ((lw + 1) * 1)) ∧ W.grownBy w' (Value.slice V x.t.values.length vc).ownBlock) :=
      Lib.hid fun W hW => by
        have hC := h.below hW
        refine ⟨by rw [hC.cv, hvv], hC.fv, hC.lt, by rw [← hvv]; exact hC.nv, ?_⟩
        exact delete_anyV base x.t.values.length lw vc _ _ V (ints x.t.values) W (by omega) hl1 rfl rfl (by rw [← hvv]; exact hC.th.vs) (ints_one _)
    have HVV := Lib.hid hvv
    obtain ⟨N, hN⟩ : ∃ N, N = x.t.values.length := ⟨_, rfl⟩
    have hlN : lw < N := by omega
    have hN16 : N ≤ 16 := by omega
    rw [← hN] at HW
    have HN := Lib.hid hN
    clear hat h hac hA hok hk hal hvv hV hlv hN hl1 hvc
    go_enter Try.func49, Try.ntmps49
    go_wp2_with fail
    refine HV.mono ?_
    rintro e w1 ⟨rfl, hb⟩
    obtain ⟨c2, f2, hTl, hnT, hD⟩ := HW.out w1 hb
    go_wp2_with fail
    refine hD.mono ?_
    rintro e w2 ⟨rfl, hown1, hg⟩
    have fl2 : w2.frozen? ⟨T, o + 2, none⟩ = false := (hg.frozen_far ⟨T, o + 2, none⟩ hTl (Ne.symm hnT)).trans f2
    have cl2 : w2.cell? ⟨T, o + 2, none⟩ = some (.slice V N vc) := (hg.cell_far ⟨T, o + 2, none⟩ hTl (Ne.symm hnT)).trans c2
    have HP := Lib.hid (row_end (vs' := del1 x.t.values lw) H.out hb hown1 (by rw [del1_length (by rw [← HN.out]; exact hlN), HN.out]) (ints_del1 _ _) (by rw [HVV.out, ← HN.out]; exact hg) (.inl (by rw [HVV.out]; exact own_slice _ _ _ _ _)))
    clear hown1 hg hD c2 f2
    go_wp2_with fail
    go_ret2
    exact ⟨rfl, HP.out⟩

set_option maxHeartbeats 1000000 in
theorem del_any (x : TM) (T o base : Nat) (A : Option Addr) (na ca : Nat) (args : List Int) (w : World) (h : Cel w base T (o + 2) (o + 3) x) (hok : TOk x.t) (hk : x.t.kind = 3) (hA : Reads w w.heap.size 1 A na (ints args)) (hal : args.length = 1) (hna : na = 1) :
    Calls Try.prog 46 #[.pointer (some ⟨T, o, none⟩), .slice A na ca] w (MPost (delF x.t (args.getD 0 0)) base T (o + 2) (o + 3) x w) := by
  subst hna
  obtain ⟨ab, aoff, rfl, hab, hac⟩ := arg_cell hA 0 (by omega)
  have ca0 := hac 0 (by omega)
  generalize args.getD 0 0 = k at *
  simp only [Nat.add_zero] at ca0
  have HV := pair_any x T o base k w h hok.lp (hok.dct hk)
  unfold delF
  have H := Lib.hid h
  rcases hat : isAt Prod.fst x.t.pairs k with _ | _
  · rw [hat] at HV
    generalize low Prod.fst x.t.pairs k = lw at *
    clear hat h hac hA hok hk hal
    go_enter Try.func46, Try.ntmps46
    go_wp2_with fail
    refine HV.mono ?_
    rintro e w1 ⟨rfl, hb⟩
    go_wp2_with fail
    go_ret2
    exact MPost.read H.out hb rfl
  · rw [hat] at HV
    obtain ⟨hl1, hl2⟩ := isAt_iff.1 hat
    clear hl2
    obtain ⟨V, vc, hvv, hvc, hV⟩ := own_shapes h.th.ps
    have hlv := hok.lp
    simp only [if_true]
    generalize low Prod.fst x.t.pairs k = lw at *
    have HW : Hid (∀ W, Below w.heap.size w W → W.cell? ⟨T, o + 3, none⟩ = some (.slice V x.t.pairs.length vc) ∧ W.frozen? ⟨T, o + 3, none⟩ = false ∧ T < W.heap.size ∧ (Value.slice V x.t.pairs.length vc).ownBlock ≠ some T ∧
        Calls Try.prog 68 #[.slice V x.t.pairs.length vc, .int .i64 lw, .int .i64 ((lw : Int) + 1)] W fun e w' => e = .returned (.slice V (x.t.pairs.length - 1) vc) ∧ w'.ownsRow base 54 2 (.slice V (x.t.pairs.length - 1) vc) (x.t.pairs.length - 1) ((prs x.t.pairs).take (lw * 2) ++ (prs x.t.pairs).drop ((lw + 1) * 2)) ∧ W.grownBy w' (Value.slice V x.t.pairs.length vc).ownBlock) :=
      Lib.hid fun W hW => by
        have hC := h.below hW
        refine ⟨by rw [hC.cp, hvv], hC.fp, hC.lt, by rw [← hvv]; exact hC.np, ?_⟩
        exact delete_anyP base x.t.pairs.length lw vc _ _ V (prs x.t.pairs) W (by omega) hl1 rfl rfl (by rw [← hvv]; exact hC.th.ps) (prs_one _)
    have HVV := Lib.hid hvv
    obtain ⟨N, hN⟩ : ∃ N, N = x.t.pairs.length := ⟨_, rfl⟩
    have hlN : lw < N := by omega
    have hN16 : N ≤ 16 := by omega
    rw [← hN] at HW
    have HN := Lib.hid hN
    clear hat h hac hA hok hk hal hvv hV hlv hN hl1 hvc
    go_enter Try.func46, Try.ntmps46
    go_wp2_with fail
    refine HV.mono ?_
    rintro e w1 ⟨rfl, hb⟩
    obtain ⟨c2, f2, hTl, hnT, hD⟩ := HW.out w1 hb
    go_wp2_with fail
    refine hD.mono ?_
    rintro e w2 ⟨rfl, hown1, hg⟩
    have fl2 : w2.frozen? ⟨T, o + 3, none⟩ = false := (hg.frozen_far ⟨T, o + 3, none⟩ hTl (Ne.symm hnT)).trans f2
    have cl2 : w2.cell? ⟨T, o + 3, none⟩ = some (.slice V N vc) := (hg.cell_far ⟨T, o + 3, none⟩ hTl (Ne.symm hnT)).trans c2
    have HP := Lib.hid (rowp_end (ps' := del1 x.t.pairs lw) H.out hb hown1 (by rw [del1_length (by rw [← HN.out]; exact hlN), HN.out]) (prs_del1 _ _) (by rw [HVV.out, ← HN.out]; exact hg) (.inl (by rw [HVV.out]; exact own_slice _ _ _ _ _)))
    clear hown1 hg hD c2 f2
    go_wp2_with fail
    go_ret2
    exact ⟨rfl, HP.out⟩
end Go.Proofs.Ytpmpgnhbpneloaa
