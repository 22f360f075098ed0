/- The document's queues and counts. -/
import Derived.Test.YtpmpgnhbpneloaaQs
namespace Go.Proofs.Ytpmpgnhbpneloaa
open Go.RowKit Go.Joins Go.ChangeShapes Go.WideShapes Go.Deep
set_option linter.unusedVariables false
set_option maxRecDepth 100000

def queueF (t : TS) (call v : Int) : TS × Int × Int := if call = 3 then pushF t v else if call = 2 then pullF t else longF t

theorem pushr_end {w W w2 : World} {base T iv ip gg cap : Nat} {x : TM} {V : Option Addr} {vc : Nat} {vs' : List Int} {xs' : List Value} (h : Cel w base T iv ip x) (hvv : x.vv = .slice V x.t.values.length vc) (hW : Below w.heap.size w W)
    (hown : w2.ownsRow base 2 1 (.slice (some ⟨gg, 0, none⟩) vs'.length cap) vs'.length xs') (hxs : xs' = ints vs') (hg : W.grownBy w2 (Value.slice V x.t.values.length vc).ownBlock) (hat : (Value.slice V x.t.values.length vc).ownBlock = some gg ∨ gg = w.heap.size + 1) :
    XPost w (w2.setCell ⟨T, iv, none⟩ (.slice (some ⟨gg, 0, none⟩) vs'.length cap)) base T iv ip x { x.t with values := vs' } := by
  subst hxs
  rw [← hvv] at hg hat
  refine XPost.values h hown (grown_after hW hg) ?_
  rcases hat with e | e
  · exact .inl e.symm
  · refine .inr fun b hb => ?_
    have : gg = b := by simpa [Value.ownBlock] using hb
    omega

theorem queues_len (x : TM) (T o base : Nat) (most : Int) (a : Value) (w : World) (h : Cel w base T (o + 1) (o + 2) x) :
    Calls Try.prog 29 #[.pointer (some ⟨T, o, none⟩), .int .i64 most, .int .i64 5, a] w (MPost (longF x.t) base T (o + 1) (o + 2) x w) := by
  obtain ⟨V, vc, hvv, hvc, hV⟩ := own_shapes h.th.vs
  have c1 := h.cv
  rw [hvv] at c1
  have H := Lib.hid h
  clear h hV hvv
  go_enter Try.func29, Try.ntmps29
  go_wp2
  go_ret2
  exact MPost.read H.out (Below.refl _ _) rfl
set_option maxHeartbeats 1000000 in
theorem queues_push (x : TM) (T o base : Nat) (A : Option Addr) (ca : Nat) (args : List Int) (w : World) (h : Cel w base T (o + 1) (o + 2) x) (hok : TOk x.t) (hA : Reads w w.heap.size 1 A 1 (ints args)) (hal : args.length = 1) (hbase : base ≤ w.heap.size) :
    Calls Try.prog 29 #[.pointer (some ⟨T, o, none⟩), .int .i64 x.t.most, .int .i64 3, .slice A 1 ca] w (MPost (pushF x.t (args.getD 0 0)) base T (o + 1) (o + 2) x w) := by
  obtain ⟨ab, aoff, rfl, hab, hac⟩ := arg_cell hA 0 (by omega)
  have ca0 := hac 0 (by omega)
  generalize args.getD 0 0 = k at *
  simp only [Nat.add_zero] at ca0
  have hown := h.th.vs
  obtain ⟨V, vc, hvv, hvc, hV⟩ := own_shapes h.th.vs
  have c2 := h.cv
  rw [hvv] at c2
  have f2 := h.fv
  have hTl := h.lt
  have hlv := hok.lv
  have hm1 := hok.m1
  unfold pushF
  by_cases hfull : x.t.most ≤ x.t.values.length
  · rw [if_pos hfull]
    have e1 : decide (x.t.most ≤ (x.t.values.length : Int)) = true := by simp [hfull]
    have H := Lib.hid h
    clear h hac hA hok hal hown hvv hV
    go_enter Try.func29, Try.ntmps29
    go_wp2
    go_ret2
    exact MPost.read H.out (Below.refl _ _) rfl
  · rw [if_neg hfull]
    have e1 : decide (x.t.most ≤ (x.t.values.length : Int)) = false := by simp; omega
    have HV := Lib.hid hvv
    have hn1 : x.t.values.length + 1 ≤ maxLen := by unfold maxLen; omega
    have hnb : (x.t.values.length + 1) * 8 ≤ 140737488355328 := by omega
    have hbase2 : base ≤ w.heap.size + 1 := by omega
    have hone : ∀ u ∈ ([.int .i64 k] : List Value), u.oneCell' = true := by simp [Value.oneCell']
    obtain ⟨i0, hi0, hz0, hz1, hz2⟩ := info_parts info_i64q
    have H := Lib.hid h
    have hnT : (Value.slice V x.t.values.length vc).ownBlock ≠ some T := by rw [← hvv]; exact h.nv
    rw [hvv] at hown
    clear h hac hA hok hal hvv hV
    go_enter Try.func29, Try.ntmps29
    go_wp2_with fail
    go_region_law
      (refine step_append_lies _ (by rfl) _ _ _ (by rfl) base 2 i0 _ 1 8 Try.underlying34 hi0 hz0 hz1 hz2 rfl (by omega) (.slice V x.t.values.length vc) x.t.values.length (ints x.t.values) (by rfl) (show _ from hown.alloc _)
          ⟨w.heap.size, 0, none⟩ 1 1 [.int .i64 k] (by rfl) (by rfl) (World.news_of_block (cs := #[.int .i64 k]) (t := 2) (fr := (0, 0)) (heap_alloc_new w _)) hone
          (by omega) hn1 hnb (by simp; omega) (w.heap.size + 1) (by simp) ?_; intro gg cap w2 hown1 hgrow hat hlt2; have fl2 : w2.frozen? ⟨T, o + 1, none⟩ = false := (hgrow.frozen_far ⟨T, o + 1, none⟩ (by simp; omega) (Ne.symm hnT)).trans ((frozen?_alloc_cells _ _ _ ⟨T, o + 1, none⟩).trans f2); have cl2 : w2.cell? ⟨T, o + 1, none⟩ = some (.slice V x.t.values.length vc) := (hgrow.cell_far ⟨T, o + 1, none⟩ (by simp; omega) (Ne.symm hnT)).trans ((World.cell?_alloc_lt _ _ ⟨T, o + 1, none⟩ hTl).trans c2))
    all_goals
      have HP := Lib.hid (pushr_end (vs' := x.t.values ++ [k]) H.out HV.out (by exact Below.drew ((Below.refl _ w).alloc (Nat.le_refl _) (.cells #[.int .i64 k] 2))) (by rw [List.length_append]; exact hown1) (by simp [ints]) hgrow hat)
      rw [List.length_append] at HP
      clear hown1 hgrow hat
      go_wp2_with fail
      go_ret2
      exact ⟨rfl, HP.out⟩
set_option maxHeartbeats 1000000 in
theorem queues_pull (x : TM) (T o base : Nat) (most : Int) (a : Value) (w : World) (h : Cel w base T (o + 1) (o + 2) x) (hok : TOk x.t) (hbase : base ≤ w.heap.size) :
    Calls Try.prog 29 #[.pointer (some ⟨T, o, none⟩), .int .i64 most, .int .i64 2, a] w (MPost (pullF x.t) base T (o + 1) (o + 2) x w) := by
  have hown := h.th.vs
  obtain ⟨V, vc, hvv, hvc, hV⟩ := own_shapes h.th.vs
  have c1 := h.cv
  rw [hvv] at c1 hown
  have f1 := h.fv
  have hTl := h.lt
  have hlv := hok.lv
  have H := Lib.hid h
  unfold pullF
  rcases hvs : x.t.values with _ | ⟨v, r⟩
  · rw [hvs] at c1
    clear h hvv hV hown hok
    simp only [List.length_nil] at c1
    go_enter Try.func29, Try.ntmps29
    go_wp2
    go_ret2
    exact MPost.read H.out (Below.refl _ _) rfl
  · have hl1 : 0 + 1 ≤ x.t.values.length := by rw [hvs]; simp
    have HSH := Lib.hid (own_form3 hown hl1)
    obtain ⟨N, hN⟩ : ∃ N, N = x.t.values.length := ⟨_, rfl⟩
    obtain ⟨i0, hi0, hz0, hz1, hz2⟩ := info_parts info_i64q
    have cx : ∀ b off, V = some ⟨b, off, none⟩ → w.cell? ⟨b, off, none⟩ = some (.int .i64 v) := by
      intro b off e
      obtain ⟨b', off', e', hb, hc⟩ := hV.flat (by rw [hvs]; simp)
      rw [e] at e'
      injection e' with e'
      injection e' with e1 e2
      subst e1 e2
      have := hc 0 (.int .i64 v) (by rw [hvs]; simp [ints])
      simpa using this
    have r1' : Reads w w.heap.size 1 (if vc = 1 then V else V.map (·.add (1 * 1))) (x.t.values.length - 1) (ints r) := by
      have := hV.cut (k := 1) (cap := vc) (by omega) hvc
      rw [hvs] at this ⊢
      simpa [ints] using this
    have hrl : r.length = N - 1 := by rw [hN, hvs]; simp
    have o1 : ∀ u ∈ ints r, u.oneCell' = true := ints_one _
    rw [← hN] at c1 hlv hvc HSH r1'
    have m1 : 0 + (N - 1) ≤ maxLen := by unfold maxLen; omega
    have b1 : (0 + (N - 1)) * 8 ≤ 140737488355328 := by omega
    have hsz := Nat.le_refl w.heap.size
    have HN := Lib.hid hN
    have HRL := Lib.hid hrl
    have e1 : ((N : Int) == 0) = false := by simp; omega
    have hN0 : 0 < N := by omega
    have hN1 : (1 : Int) ≤ (N : Int) := by omega
    have HR2 : Hid (∀ W, Below w.heap.size w W → True) := Lib.hid fun _ _ => trivial
    clear h hvv hV hown hok hvs hN hrl
    rcases HSH.out with ⟨-, -, -, h0⟩ | ⟨g, rfl, hv1, hn1⟩ | ⟨g, rfl, hvl⟩
    · omega
    · obtain rfl : vc = 1 := by omega
      obtain rfl : N = 1 := by omega
      clear hv1 hn1 hl1
      have cx0 := cx _ _ rfl
      have r1 : Reads w w.heap.size 1 (some ⟨g, 0, none⟩) 0 (ints r) := by simpa using r1'
      simp only [Nat.sub_self] at m1 b1
      clear cx r1'
      go_enter Try.func29, Try.ntmps29
      go_wp2_with ((at_builtin; refine wpList_append_any _ rfl (.tmp 54) (.tmp 59) 34 rfl w.heap.size 2 i0 _ 1 8 Try.underlying34 hi0 hz0 hz1 hz2 rfl (by decide) _ _ _ rfl (World.ownsRow_nil _ _ _ _) w.heap.size _ _ _ _ rfl r1 o1 m1 b1 hsz ?_; intro v1 w1 hown1 hg1 hd1; have hb1 := below_none hg1; have c1b := (hb1.cell (p := ⟨T, o + 1, none⟩) hTl).trans c1; have f1b : w1.frozen? ⟨T, o + 1, none⟩ = false := (hb1.frozen (p := ⟨T, o + 1, none⟩) hTl).trans f1; have HB1 := Lib.hid hb1; have hTl1 : T < w1.heap.size := Nat.lt_of_lt_of_le hTl hb1.size; have hsz2 := Nat.le_trans hb1.size (Nat.le_succ w1.heap.size); have hsz1 := hb1.size; have r2 := HR2.out w1 hb1; clear hd1 hg1 hb1); obtain ⟨R1, rc1, rfl, -, -⟩ := own_shapes hown1; have HO1 := Lib.hid hown1; clear hown1)
      go_ret2
      have hh := HO1.out
      simp only [Nat.zero_add, Nat.add_zero] at hh
      exact ⟨rfl, new_end H.out hbase HB1.out hh (by have := HRL.out; omega) (List.nil_append _)⟩
    · clear hl1
      have cx0 := cx _ _ rfl
      have r1 : Reads w w.heap.size 1 (some ⟨g, 1, none⟩) (N - 1) (ints r) := by
        rw [if_neg (by omega), Option.map_some, Addr.add_lit] at r1'
        exact r1'
      have hv1 : ¬ (vc = 1) := by omega
      clear cx r1'
      go_enter Try.func29, Try.ntmps29
      go_wp2_with ((at_builtin; refine wpList_append_any _ rfl (.tmp 54) (.tmp 59) 34 rfl w.heap.size 2 i0 _ 1 8 Try.underlying34 hi0 hz0 hz1 hz2 rfl (by decide) _ _ _ rfl (World.ownsRow_nil _ _ _ _) w.heap.size _ _ _ _ rfl r1 o1 m1 b1 hsz ?_; intro v1 w1 hown1 hg1 hd1; have hb1 := below_none hg1; have c1b := (hb1.cell (p := ⟨T, o + 1, none⟩) hTl).trans c1; have f1b : w1.frozen? ⟨T, o + 1, none⟩ = false := (hb1.frozen (p := ⟨T, o + 1, none⟩) hTl).trans f1; have HB1 := Lib.hid hb1; have hTl1 : T < w1.heap.size := Nat.lt_of_lt_of_le hTl hb1.size; have hsz2 := Nat.le_trans hb1.size (Nat.le_succ w1.heap.size); have hsz1 := hb1.size; have r2 := HR2.out w1 hb1; clear hd1 hg1 hb1); obtain ⟨R1, rc1, rfl, -, -⟩ := own_shapes hown1; have HO1 := Lib.hid hown1; clear hown1)
      go_ret2
      have hh := HO1.out
      simp only [Nat.zero_add, Nat.add_zero] at hh
      exact ⟨rfl, new_end H.out hbase HB1.out hh (by have := HRL.out; omega) (List.nil_append _)⟩
end Go.Proofs.Ytpmpgnhbpneloaa
