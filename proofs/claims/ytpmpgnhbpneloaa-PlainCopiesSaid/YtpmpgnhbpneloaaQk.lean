/- What the calls of a collection do to its cells: those that write. -/
import Derived.Test.YtpmpgnhbpneloaaQj
namespace Go.Proofs.Ytpmpgnhbpneloaa
open Go.RowKit Go.Joins Go.ChangeShapes Go.WideShapes Go.Deep
set_option linter.unusedVariables false
set_option maxRecDepth 100000

theorem grown_after {w w1 w2 : World} {row : Option Nat} (hb : Below w.heap.size w w1) (h : w1.grownBy w2 row) : w.grownBy w2 row :=
  ⟨h.os.trans hb.os, h.tape.trans hb.tape, h.output.trans hb.output, by have := hb.size; have := h.size; omega, fun k hk hn => (h.block k (by have := hb.size; omega) hn).trans (hb.block k hk)⟩
theorem ints_one (l : List Int) : ∀ v ∈ ints l, v.oneCell' = true := by
  intro v hv
  simp [ints] at hv
  obtain ⟨a, _, rfl⟩ := hv
  rfl
theorem prs_one (l : List (Int × Int)) : ∀ v ∈ prs l, v.oneCell' = true := by
  intro v hv
  simp [prs, rows, prc] at hv
  obtain ⟨a, b, _, rfl | rfl⟩ := hv <;> rfl
theorem ints_put1 (l : List Int) (i : Nat) (v : Int) : (ints l).take (i * 1) ++ [.int .i64 v] ++ (ints l).drop (i * 1) = ints (put1 l i v) := by
  simp [ints, put1, List.map_take, List.map_drop]
theorem ints_del1 (l : List Int) (i : Nat) : (ints l).take (i * 1) ++ (ints l).drop ((i + 1) * 1) = ints (del1 l i) := by
  simp [ints, del1, List.map_take, List.map_drop]
theorem prs_app (l m : List (Int × Int)) : prs (l ++ m) = prs l ++ prs m := by simp [prs, rows]
theorem prs_take2 (l : List (Int × Int)) (i : Nat) : (prs l).take (i * 2) = prs (l.take i) := by
  induction l generalizing i with
  | nil => simp [prs, rows]
  | cons a l ih =>
    cases i with
    | zero => simp [prs, rows]
    | succ i =>
      have := ih i
      simp only [prs, rows, List.flatMap_cons, prc, List.take_succ_cons] at this ⊢
      rw [show (i + 1) * 2 = i * 2 + 2 by omega]
      simp only [List.cons_append, List.nil_append, List.take_succ_cons]
      rw [this]
theorem prs_drop2 (l : List (Int × Int)) (i : Nat) : (prs l).drop (i * 2) = prs (l.drop i) := by
  induction l generalizing i with
  | nil => simp [prs, rows]
  | cons a l ih =>
    cases i with
    | zero => simp [prs, rows]
    | succ i =>
      have := ih i
      simp only [prs, rows, List.flatMap_cons, prc, List.drop_succ_cons] at this ⊢
      rw [show (i + 1) * 2 = i * 2 + 2 by omega]
      simp only [List.cons_append, List.nil_append, List.drop_succ_cons]
      rw [this]
theorem prs_put1 (l : List (Int × Int)) (i : Nat) (k v : Int) : (prs l).take (i * 2) ++ [.int .i64 k, .int .i64 v] ++ (prs l).drop (i * 2) = prs (put1 l i (k, v)) := by
  rw [prs_take2, prs_drop2, put1, prs_app, show prs ((k, v) :: l.drop i) = [.int .i64 k, .int .i64 v] ++ prs (l.drop i) by simp [prs, rows, prc]]
  simp
theorem prs_del1 (l : List (Int × Int)) (i : Nat) : (prs l).take (i * 2) ++ (prs l).drop ((i + 1) * 2) = prs (del1 l i) := by
  rw [prs_take2, prs_drop2, del1, prs_app]
theorem prs_setv (l : List (Int × Int)) (t : Nat) (k v : Int) (h : t < l.length) (hk : l[t].1 = k) : (prs l).set (t * 2 + 1) (.int .i64 v) = prs (l.set t (k, v)) := by
  induction l generalizing t with
  | nil => simp at h
  | cons a l ih =>
    cases t with
    | zero =>
      simp at hk
      simp [prs, rows, prc, hk]
    | succ t =>
      have := ih t (by simpa using h) (by simpa using hk)
      simp only [prs, rows, List.flatMap_cons, prc, List.set_cons_succ] at this ⊢
      rw [show (t + 1) * 2 + 1 = t * 2 + 1 + 2 by omega]
      simp only [List.cons_append, List.nil_append, List.set_cons_succ]
      rw [this]

theorem count_end {w : World} {base T iv ip g vc i n1 n2 : Nat} {x : TM} {z : Int} (h : Cel w base T iv ip x) (hvv : x.vv = .slice (some ⟨g, 0, none⟩) x.t.values.length vc) :
    XPost w (((w.drewN n1).setCell ⟨g, i, none⟩ (.int .i64 z)).drewN n2) base T iv ip x { x.t with values := x.t.values.set i z } := by
  have hown := h.th.vs
  rw [hvv] at hown
  have h1 := ((own_drewN (k := n1) hown).stored i (.int .i64 z)).1
  rw [show (ints x.t.values).set i (.int .i64 z) = ints (x.t.values.set i z) by simp [ints, List.map_set]] at h1
  refine XPost.drewN (XPost.valuesIn h ?_ ?_)
  · rw [hvv, List.length_set]
    exact h1
  · rw [hvv]
    exact only_setCell (p := ⟨g, i, none⟩) (only_drewN (World.grownBy.refl _ _) _) (.inl rfl) _
theorem push_end {w w2 : World} {base T iv ip gg cap n : Nat} {x : TM} {V : Option Addr} {vc : Nat} {o : Obj} {vs' : List Int} {xs' : List Value} (h : Cel w base T iv ip x) (hvv : x.vv = .slice V x.t.values.length vc)
    (hown : w2.ownsRow base 2 1 (.slice (some ⟨gg, 0, none⟩) vs'.length cap) vs'.length xs') (hxs : xs' = ints vs') (hg : ((w.drewN n).alloc o).grownBy w2 (Value.slice V x.t.values.length vc).ownBlock) (hat : (Value.slice V x.t.values.length vc).ownBlock = some gg ∨ gg = w.heap.size + 1) :
    XPost w (w2.setCell ⟨T, iv, none⟩ (.slice (some ⟨gg, 0, none⟩) vs'.length cap)) base T iv ip x { x.t with values := vs' } := by
  subst hxs
  rw [← hvv] at hg hat
  refine XPost.values h hown (grown_after ((below_drewN (Below.refl _ _) n).alloc (Nat.le_refl _) o) hg) ?_
  rcases hat with e | e
  · exact .inl e.symm
  · refine .inr fun b hb => ?_
    have : gg = b := by simpa [Value.ownBlock] using hb
    omega

/-! ### counters -/
theorem count_no (x : TM) (T o base ab aoff na ca : Nat) (i d : Int) (w : World) (h : Cel w base T (o + 2) (o + 3) x) (hna : 1 ≤ na) (c0 : w.cell? ⟨ab, aoff, none⟩ = some (.int .i64 i)) (hno : ¬ (0 ≤ i ∧ i < x.t.values.length)) :
    Calls Try.prog 39 #[.pointer (some ⟨T, o, none⟩), .slice (some ⟨ab, aoff, none⟩) na ca] w (MPost (countF x.t i d) base T (o + 2) (o + 3) x w) := by
  obtain ⟨V, vc, hvv, hvc, hV⟩ := own_shapes h.th.vs
  have c2 := h.cv
  rw [hvv] at c2
  unfold countF
  rw [if_neg hno]
  have H := Lib.hid h
  clear h hvv hV
  by_cases h0 : i < 0
  · have e0 : decide (i < 0) = true := by simp [h0]
    clear hno
    go_enter Try.func39, Try.ntmps39
    go_wp2_with fail
    go_quiet (fail)
    go_wp2
    go_ret2
    exact MPost.read H.out (below_drewN (Below.refl _ _) _) rfl
  · have e0 : decide (i < 0) = false := by simp; omega
    have e1 : decide ((x.t.values.length : Int) ≤ i) = true := by simp; omega
    clear hno
    go_enter Try.func39, Try.ntmps39
    go_wp2_with fail
    go_quiet (fail)
    go_wp2
    go_ret2
    exact MPost.read H.out (below_drewN (Below.refl _ _) _) rfl
set_option maxHeartbeats 1000000 in
theorem count_yes (x : TM) (T o base ab aoff na ca i : Nat) (d : Int) (w : World) (h : Cel w base T (o + 2) (o + 3) x) (hna : 2 ≤ na) (c0 : w.cell? ⟨ab, aoff, none⟩ = some (.int .i64 i)) (c1 : w.cell? ⟨ab, aoff + 1, none⟩ = some (.int .i64 d)) (hi : i < x.t.values.length) (hne : x.vv.ownBlock ≠ some ab) (hl16 : x.t.values.length ≤ 16) :
    Calls Try.prog 39 #[.pointer (some ⟨T, o, none⟩), .slice (some ⟨ab, aoff, none⟩) na ca] w (MPost (countF x.t i d) base T (o + 2) (o + 3) x w) := by
  have hown := h.th.vs
  obtain ⟨V, vc, hvv, hvc, hV⟩ := own_shapes h.th.vs
  obtain ⟨g, cap, hv, hbg, hgl⟩ := hown.form (by omega)
  rw [hvv] at hv
  injection hv with e1 e2 e3
  subst e1 e3
  have c2 := h.cv
  rw [hvv] at c2
  have hTg : T ≠ g := fun e => h.nv (by rw [hvv, e]; rfl)
  have hag : ab ≠ g := fun e => hne (by rw [hvv, e]; rfl)
  obtain ⟨v, hv⟩ : ∃ v, v = x.t.values.getD i 0 := ⟨_, rfl⟩
  have cx : w.cell? ⟨g, i, none⟩ = some (.int .i64 v) := by
    rw [hv, List.getD_eq_getElem?_getD, List.getElem?_eq_getElem hi]
    have := hown.cells (g := g) (by rw [hvv]; rfl) i _ (ints_at _ i hi)
    rw [show ((⟨g, 0, none⟩ : Addr).add i) = ⟨g, i, none⟩ by unfold Addr.add; split <;> simp_all] at this
    exact this
  have fx : w.frozen? ⟨g, i, none⟩ = false := by
    obtain ⟨cs, hc⟩ := own_blk hown (b := g) (by rw [hvv]; rfl)
    exact hc.frozen i
  unfold countF
  rw [if_pos ⟨by omega, by omega⟩, Int.toNat_natCast, ← hv]
  have H := Lib.hid h
  have HV := Lib.hid hvv
  have e0 : decide ((i : Int) < 0) = false := by simp
  have e1 : decide ((x.t.values.length : Int) ≤ (i : Int)) = false := by simp; omega
  have hii : (i : Int) < (x.t.values.length : Int) := by omega
  have hTl := h.lt
  have hal : ab < w.heap.size := World.block_lt_of_cell? w _ c0
  have hna0 : 0 < na := by omega
  have hna1 : (1 : Int) < (na : Int) := by omega
  obtain ⟨z, hz⟩ : ∃ z, z = wrap64 (v + d) := ⟨_, rfl⟩
  have hzw : IntKind.i64.wrap (v + d) = z := by rw [hz, IntKind.wrap_i64]; unfold wrap64; rfl
  have hzw2 : wrap64 (v + d) = z := hz.symm
  rw [← hz]
  have HZ := Lib.hid hz
  clear h hvv hV hown hv hz
  go_enter Try.func39, Try.ntmps39
  go_wp2_with fail
  go_quiet (fail)
  go_wp2_with fail
  go_region_law (fail)
  all_goals
    go_wp2_with fail
    go_quiet (fail)
    go_wp2
    go_ret2
    exact ⟨rfl, count_end H.out HV.out⟩

/-! ### queues -/
theorem info_i64q : (Try.prog.info? 2).map (fun i => (i.zero, i.size, i.bytes)) = some (some (.int .i64 0), 1, 8) := by kernel_rfl
set_option maxHeartbeats 1000000 in
theorem push_any (x : TM) (T o base : Nat) (A : Option Addr) (na ca : Nat) (args : List Int) (w : World) (h : Cel w base T (o + 2) (o + 3) x) (hm : w.cell? ⟨T, o + 1, none⟩ = some (.int .i64 x.t.most)) (hok : TOk x.t) (hA : Reads w w.heap.size 1 A na (ints args)) (hal : args.length = 1) (hna : na = 1) (hbase : base ≤ w.heap.size) :
    Calls Try.prog 41 #[.pointer (some ⟨T, o, none⟩), .slice A na ca] w (MPost (pushF x.t (args.getD 0 0)) base T (o + 2) (o + 3) x w) := by
  subst hna
  obtain ⟨ab, aoff, rfl, hab, hac⟩ := arg_cell hA 0 (by omega)
  have ca0 := hac 0 (by omega)
  generalize args.getD 0 0 = k at *
  simp only [Nat.add_zero] at ca0
  have hown := h.th.vs
  obtain ⟨V, vc, hvv, hvc, hV⟩ := own_shapes h.th.vs
  have c2 := h.cv
  rw [hvv] at c2
  have f2 := h.fv
  have hTl := h.lt
  have hlv := hok.lv
  have hm1 := hok.m1
  unfold pushF
  by_cases hfull : x.t.most ≤ x.t.values.length
  · rw [if_pos hfull]
    have e1 : decide (x.t.most ≤ (x.t.values.length : Int)) = true := by simp [hfull]
    have H := Lib.hid h
    clear h hac hA hok hal hown hvv hV
    go_enter Try.func41, Try.ntmps41
    go_wp2_with fail
    go_quiet (fail)
    go_wp2
    go_ret2
    exact MPost.read H.out (below_drewN (Below.refl _ _) _) rfl
  · rw [if_neg hfull]
    have e1 : decide (x.t.most ≤ (x.t.values.length : Int)) = false := by simp; omega
    have HV := Lib.hid hvv
    have hn1 : x.t.values.length + 1 ≤ maxLen := by unfold maxLen; omega
    have hnb : (x.t.values.length + 1) * 8 ≤ 140737488355328 := by omega
    have hbase2 : base ≤ w.heap.size + 1 := by omega
    have hone : ∀ u ∈ ([.int .i64 k] : List Value), u.oneCell' = true := by simp [Value.oneCell']
    obtain ⟨i0, hi0, hz0, hz1, hz2⟩ := info_parts info_i64q
    have H := Lib.hid h
    have hnT : (Value.slice V x.t.values.length vc).ownBlock ≠ some T := by rw [← hvv]; exact h.nv
    rw [hvv] at hown
    have c2a : ∀ n, ((w.drewN n).alloc (.cells #[.int .i64 k] 2)).cell? ⟨T, o + 2, none⟩ = some (.slice V x.t.values.length vc) := fun n => (World.cell?_alloc_lt _ _ ⟨T, o + 2, none⟩ hTl).trans c2
    clear h hac hA hok hal hvv hV
    go_enter Try.func41, Try.ntmps41
    go_wp2_with fail
    go_quiet (fail)
    go_wp2_with fail
    go_region_law
      (refine step_append_lies _ (by rfl) _ _ _ (by rfl) base 2 i0 _ 1 8 Try.underlying34 hi0 hz0 hz1 hz2 rfl (by omega) (.slice V x.t.values.length vc) x.t.values.length (ints x.t.values) (by rfl) (show _ from (own_drewN hown).alloc _)
          ⟨w.heap.size, 0, none⟩ 1 1 [.int .i64 k] (by rfl) (by rfl) (World.news_of_block (cs := #[.int .i64 k]) (t := 2) (fr := (0, 0)) (heap_alloc_new (w.drewN _) _)) hone
          (by omega) hn1 hnb (by simp; omega) (w.heap.size + 1) (by simp) ?_; intro gg cap w2 hown1 hgrow hat hlt2; have fl2 : w2.frozen? ⟨T, o + 2, none⟩ = false := (hgrow.frozen_far ⟨T, o + 2, none⟩ (by simp; omega) (Ne.symm hnT)).trans ((frozen?_alloc_cells _ _ _ ⟨T, o + 2, none⟩).trans f2); have cl2 : w2.cell? ⟨T, o + 2, none⟩ = some (.slice V x.t.values.length vc) := (hgrow.cell_far ⟨T, o + 2, none⟩ (by simp; omega) (Ne.symm hnT)).trans ((World.cell?_alloc_lt _ _ ⟨T, o + 2, none⟩ hTl).trans c2))
    all_goals
      have HP := Lib.hid (push_end (vs' := x.t.values ++ [k]) H.out HV.out (by rw [List.length_append]; exact hown1) (by simp [ints]) hgrow hat)
      rw [List.length_append] at HP
      clear hown1 hgrow hat
      go_wp2_with fail
      go_ret2
      exact ⟨rfl, HP.out⟩
end Go.Proofs.Ytpmpgnhbpneloaa
