/- What 'logs' and 'touched' say of both memories. -/
import Derived.Test.YtnpeldbnnneijaaMu2
namespace Go.Proofs.Ytnpeldbnnneijaa
open Go.RowKit Go.Joins Go.ChangeShapes Go.WideShapes Go.Deep
set_option linter.unusedVariables false
set_option maxRecDepth 100000

theorem isW_wf {C R : Nat} {a b c : Int} (hC : C ≤ 1024) (hR : R ≤ 16) (h : isW C R a b c) : wfK (a, b, c) := by
  unfold isW at h
  exact ⟨WalkArith.wf_i64 (by simp only; omega), WalkArith.wf_i64 (by simp only; omega), WalkArith.wf_i64 (by simp only; omega)⟩
def WRel (w : World) (T : TypeId) (sz N : Nat) (V : Option Addr) (vc : Nat) (gk : Nat) (i : Value) (wr : World) : Prop :=
  ∃ k : Nat, i = .int .i64 k ∧ k ≤ N ∧ gk = N - k ∧ (∃ xs, wr.ownsRow w.heap.size T sz (.slice V N vc) N xs) ∧ Below w.heap.size w wr

set_option maxHeartbeats 4000000 in
theorem logs_any {w : World} {base b gh gs gc rb C R : Nat} {lv rlv : Value} {m : MS} (h : MIs w base b gh gs gc lv m) (hr : RIs w base rb rlv C R m.log) (z : Int) (hlog : m.log.length ≤ 2199023255550) :
    Calls Try.prog 17 #[.pointer (some ⟨b, 0, none⟩), .pointer (some ⟨rb, 0, none⟩), .int .i64 z] w fun e w' => e = .returned (.bool true) ∧ Below w.heap.size w w' := by
  have HP := fun W (hW : Below w.heap.size w W) => logz_any (h.below hW) z (by omega)
  have HR := fun W (hW : Below w.heap.size w W) => rlog_any (hr.below hW) z (by omega)
  obtain ⟨l, hl⟩ : ∃ l, l = m.log.drop (clN z m.log.length) := ⟨_, rfl⟩
  obtain ⟨N, hN⟩ : ∃ N, N = m.log.length - clN z m.log.length := ⟨_, rfl⟩
  have hlen : l.length = N := by rw [hl, hN, List.length_drop]
  have hNb : N ≤ 2199023255550 := by omega
  rw [← hl, ← hN] at HP HR
  obtain ⟨i0, hi0, hz0, hz1, hz2⟩ := info_parts info_acc
  have HL := Lib.hid hlen
  have hm1 : N + 1 ≤ maxLen := by unfold maxLen; omega
  have hnb : (N + 1) * 64 ≤ 140737488355328 := by omega
  clear h hr hl hN hlen hlog
  go_enter Try.func17, Try.ntmps17
  go_wp2_with fail
  refine (HP _ (Below.refl _ _)).mono ?_
  rintro e w1 ⟨v1, rfl, hown1, hb1⟩
  obtain ⟨V, vc, rfl, -, hR1⟩ := own_shapes hown1
  have hs1 := hb1.size
  go_wp2_with fail
  refine (HR _ hb1).mono ?_
  rintro e w2 ⟨v2, rfl, hown2, hb2⟩
  obtain ⟨V2, vc2, rfl, -, hR2⟩ := own_shapes hown2
  have hb12 := hb1.trans (hb2.mono hs1)
  have hown1' := own_below hown1 hb2
  go_wp2_with fail
  refine (accesses_yes V V2 N vc vc2 l _ HL.out (by omega) (by exact Reads.of_own hown1') (by exact hR2)).mono ?_
  rintro e w3 ⟨rfl, j, rfl⟩
  have HO : Hid (w2.ownsRow w.heap.size 44 8 (.slice V N vc) N (accs l)) := Lib.hid hown1'
  have HB := Lib.hid hb12
  clear HP HR hown1 hb1 hR1 hs1 hown2 hb2 hR2 hb12 hown1'
  go_wp2_with fail
  go_loopg [10] N (fun gk i wr => WRel w 44 8 N V vc gk i wr)
  case atStart => exact ⟨0, rfl, Nat.zero_le _, rfl, ⟨_, HO.out⟩, below_drewN HB.out _⟩
  case round =>
    obtain ⟨k, rfl, hk, hgk, hxs, hbel⟩ := hrel
    have HG := Lib.hid hgk
    clear hgk
    by_cases hkn : k < N
    · obtain ⟨xs, hown2⟩ := hxs
      have hxl : xs.length = N * 8 := hown2.1
      obtain ⟨g, cap, hv, hg, hgl⟩ := hown2.form (by omega)
      injection hv with e1 e2 e3
      subst e1 e3
      clear e2
      have hce : ∀ t, t < 8 → ∃ u, wr.cell? ⟨g, k * 8 + t, none⟩ = some u := fun t ht => ⟨_, (hown2.cellAt (k * 8 + t) (by omega)).trans (List.getElem?_eq_getElem (by omega))⟩
      have hfr := fun t => hown2.frozenAt (k * 8 + t)
      obtain ⟨u0, d0⟩ := hce 0 (by omega)
      obtain ⟨u1, d1⟩ := hce 1 (by omega)
      obtain ⟨u2, d2⟩ := hce 2 (by omega)
      obtain ⟨u3, d3⟩ := hce 3 (by omega)
      obtain ⟨u4, d4⟩ := hce 4 (by omega)
      obtain ⟨u5, d5⟩ := hce 5 (by omega)
      obtain ⟨u6, d6⟩ := hce 6 (by omega)
      obtain ⟨u7, d7⟩ := hce 7 (by omega)
      have f0 := hfr 0
      have f1 := hfr 1
      have f2 := hfr 2
      have f3 := hfr 3
      have f4 := hfr 4
      have f5 := hfr 5
      have f6 := hfr 6
      have f7 := hfr 7
      simp only [Nat.add_zero] at d0 f0
      have hki : (k : Int) < (N : Int) := by omega
      have HO2 := Lib.hid hown2
      have HBE := Lib.hid hbel
      clear hce hfr hown2 hbel hxl
      go_wp2_with fail
      go_roundg (N - (k + 1))
      case measure => have := HG.out; omega
      case rel =>
        have h0 := (HO2.out.stored (k * 8) (.int .i64 (-(k : Int)))).1
        have h1 := (h0.stored (k * 8 + 1) (.int .i64 0)).1
        have h2 := (h1.stored (k * 8 + 2) (.int .i64 0)).1
        have h3 := (h2.stored (k * 8 + 3) (.int .i64 0)).1
        have h4 := (h3.stored (k * 8 + 4) (.int .i64 0)).1
        have h5 := (h4.stored (k * 8 + 5) (.int .i64 0)).1
        have h6 := (h5.stored (k * 8 + 6) (.int .i64 0)).1
        have h9 := (h6.stored (k * 8 + 7) (.bool false)).1
        exact ⟨k + 1, by go_num, by omega, rfl, ⟨_, h9⟩, (((((((HBE.out.setCell (p := ⟨g, k * 8, none⟩) hg _).setCell (p := ⟨g, k * 8 + 1, none⟩) hg _).setCell (p := ⟨g, k * 8 + 2, none⟩) hg _).setCell (p := ⟨g, k * 8 + 3, none⟩) hg _).setCell (p := ⟨g, k * 8 + 4, none⟩) hg _).setCell (p := ⟨g, k * 8 + 5, none⟩) hg _).setCell (p := ⟨g, k * 8 + 6, none⟩) hg _).setCell (p := ⟨g, k * 8 + 7, none⟩) hg _⟩
    · obtain rfl : k = N := by omega
      obtain ⟨xs, hown2⟩ := hxs
      have hki : decide ((k : Int) < (k : Int)) = false := by simp
      have hbase : w.heap.size ≤ wr.heap.size := hbel.size
      go_wp2_with (at_builtin; go_must (refine wpList_append_lies _ rfl _ _ 41 rfl w.heap.size 44 i0 _ 8 64 Try.underlying41 hi0 hz0 hz1 hz2 rfl (by omega) (.slice V k vc) k xs (by rfl) (show _ from hown2.alloc _) ⟨wr.heap.size, 0, none⟩ 1 1 [.int .i64 0, .int .i64 0, .int .i64 0, .int .i64 0, .int .i64 0, .int .i64 0, .int .i64 0, .bool false] (by rfl) (by rfl) (World.news_of_block (cs := #[.int .i64 0, .int .i64 0, .int .i64 0, .int .i64 0, .int .i64 0, .int .i64 0, .int .i64 0, .bool false]) (t := 44) (fr := (0, 0)) (heap_alloc_new wr _)) (by simp [Value.oneCell']) (by omega) hm1 hnb (by simp; omega) (wr.heap.size + 1) (by simp) ?_; intro gg cap w3 hown3 hgrow hat hlt; have hbel3 := (hbel.alloc hbase (.cells #[.int .i64 0, .int .i64 0, .int .i64 0, .int .i64 0, .int .i64 0, .int .i64 0, .int .i64 0, .bool false] 44)).grown hgrow (by simp; omega) (fun j hj => (hown2.lt j hj).1); have HB3 := Lib.hid hbel3; clear hbel3 hown3 hgrow hat))
      go_ret
      exact ⟨rfl, HB3.out⟩

set_option maxHeartbeats 4000000 in
theorem ltouched_any {w : World} {base b gh gs gc rb C R : Nat} {lv rlv : Value} {m : MS} (h : MIs w base b gh gs gc lv m) (hr : RIs w base rb rlv C R m.log) (hkeys : ∀ x ∈ m.log, wfK x.key) (hlog : m.log.length ≤ 2199023255550) :
    Calls Try.prog 19 #[.pointer (some ⟨b, 0, none⟩), .pointer (some ⟨rb, 0, none⟩)] w fun e w' => e = .returned (.bool true) ∧ Below w.heap.size w w' := by
  obtain ⟨l, hl⟩ : ∃ l, l = m.log.foldl ins [] := ⟨_, rfl⟩
  have HP : ∀ W, Below w.heap.size w W → Calls Try.prog 27 #[.pointer (some ⟨b, 0, none⟩)] W fun e w' => ∃ v, e = .returned v ∧ w'.ownsRow W.heap.size 75 6 v l.length (tchs l) ∧ Below W.heap.size W w' := fun W hW => by rw [hl]; exact touched_any (h.below hW) hkeys (by omega)
  have HR : ∀ W, Below w.heap.size w W → Calls Try.prog 28 #[.pointer (some ⟨rb, 0, none⟩)] W fun e w' => ∃ v, e = .returned v ∧ w'.ownsRow W.heap.size 75 6 v l.length (tchs l) ∧ Below W.heap.size W w' := fun W hW => by rw [hl]; exact rtouched_any (hr.below hW) (by omega)
  have hNb0 := (ins_small m.log).1
  rw [← hl] at hNb0
  obtain ⟨N, hN⟩ : ∃ N, N = l.length := ⟨_, rfl⟩
  have hNb : N ≤ 2199023255550 := by omega
  rw [← hN] at HP HR
  obtain ⟨i0, hi0, hz0, hz1, hz2⟩ := info_parts info_touch
  have HL := Lib.hid hN
  have hm1 : N + 1 ≤ maxLen := by unfold maxLen; omega
  have hnb : (N + 1) * 48 ≤ 140737488355328 := by omega
  clear h hr hl hN hkeys hlog hNb0
  go_enter Try.func19, Try.ntmps19
  go_wp2_with fail
  refine (HP _ (Below.refl _ _)).mono ?_
  rintro e w1 ⟨v1, rfl, hown1, hb1⟩
  obtain ⟨V, vc, rfl, -, hR1⟩ := own_shapes hown1
  have hs1 := hb1.size
  go_wp2_with fail
  refine (HR _ hb1).mono ?_
  rintro e w2 ⟨v2, rfl, hown2, hb2⟩
  obtain ⟨V2, vc2, rfl, -, hR2⟩ := own_shapes hown2
  have hb12 := hb1.trans (hb2.mono hs1)
  have hown1' := own_below hown1 hb2
  go_wp2_with fail
  refine (touches_yes V V2 N vc vc2 l _ HL.out.symm (by omega) (by exact Reads.of_own hown1') (by exact hR2)).mono ?_
  rintro e w3 ⟨rfl, j, rfl⟩
  have HO : Hid (w2.ownsRow w.heap.size 75 6 (.slice V N vc) N (tchs l)) := Lib.hid hown1'
  have HB := Lib.hid hb12
  clear HP HR hown1 hb1 hR1 hs1 hown2 hb2 hR2 hb12 hown1'
  go_wp2_with fail
  go_loopg [8] N (fun gk i wr => WRel w 75 6 N V vc gk i wr)
  case atStart => exact ⟨0, rfl, Nat.zero_le _, rfl, ⟨_, HO.out⟩, below_drewN HB.out _⟩
  case round =>
    obtain ⟨k, rfl, hk, hgk, hxs, hbel⟩ := hrel
    have HG := Lib.hid hgk
    clear hgk
    by_cases hkn : k < N
    · obtain ⟨xs, hown2⟩ := hxs
      have hxl : xs.length = N * 6 := hown2.1
      obtain ⟨g, cap, hv, hg, hgl⟩ := hown2.form (by omega)
      injection hv with e1 e2 e3
      subst e1 e3
      clear e2
      have hce : ∀ t, t < 6 → ∃ u, wr.cell? ⟨g, k * 6 + t, none⟩ = some u := fun t ht => ⟨_, (hown2.cellAt (k * 6 + t) (by omega)).trans (List.getElem?_eq_getElem (by omega))⟩
      have hfr := fun t => hown2.frozenAt (k * 6 + t)
      obtain ⟨u0, d0⟩ := hce 0 (by omega)
      obtain ⟨u1, d1⟩ := hce 1 (by omega)
      obtain ⟨u2, d2⟩ := hce 2 (by omega)
      obtain ⟨u3, d3⟩ := hce 3 (by omega)
      obtain ⟨u4, d4⟩ := hce 4 (by omega)
      obtain ⟨u5, d5⟩ := hce 5 (by omega)
      have f0 := hfr 0
      have f1 := hfr 1
      have f2 := hfr 2
      have f3 := hfr 3
      have f4 := hfr 4
      have f5 := hfr 5
      simp only [Nat.add_zero] at d0 f0
      have hki : (k : Int) < (N : Int) := by omega
      have HO2 := Lib.hid hown2
      have HBE := Lib.hid hbel
      clear hce hfr hown2 hbel hxl
      go_wp2_with fail
      go_roundg (N - (k + 1))
      case measure => have := HG.out; omega
      case rel =>
        have h0 := (HO2.out.stored (k * 6) (.int .i64 0)).1
        have h1 := (h0.stored (k * 6 + 1) (.int .i64 0)).1
        have h2 := (h1.stored (k * 6 + 2) (.int .i64 0)).1
        have h3 := (h2.stored (k * 6 + 3) (.int .i64 (-(k : Int)))).1
        have h4 := (h3.stored (k * 6 + 4) (.int .i64 0)).1
        have h9 := (h4.stored (k * 6 + 5) (.int .i64 0)).1
        exact ⟨k + 1, by go_num, by omega, rfl, ⟨_, h9⟩, (((((HBE.out.setCell (p := ⟨g, k * 6, none⟩) hg _).setCell (p := ⟨g, k * 6 + 1, none⟩) hg _).setCell (p := ⟨g, k * 6 + 2, none⟩) hg _).setCell (p := ⟨g, k * 6 + 3, none⟩) hg _).setCell (p := ⟨g, k * 6 + 4, none⟩) hg _).setCell (p := ⟨g, k * 6 + 5, none⟩) hg _⟩
    · obtain rfl : k = N := by omega
      obtain ⟨xs, hown2⟩ := hxs
      have hki : decide ((k : Int) < (k : Int)) = false := by simp
      have hbase : w.heap.size ≤ wr.heap.size := hbel.size
      go_wp2_with (at_builtin; go_must (refine wpList_append_lies _ rfl _ _ 71 rfl w.heap.size 75 i0 _ 6 48 Try.underlying71 hi0 hz0 hz1 hz2 rfl (by omega) (.slice V k vc) k xs (by rfl) (show _ from hown2.alloc _) ⟨wr.heap.size, 0, none⟩ 1 1 [.int .i64 0, .int .i64 0, .int .i64 0, .int .i64 0, .int .i64 0, .int .i64 0] (by rfl) (by rfl) (World.news_of_block (cs := #[.int .i64 0, .int .i64 0, .int .i64 0, .int .i64 0, .int .i64 0, .int .i64 0]) (t := 75) (fr := (0, 0)) (heap_alloc_new wr _)) (by simp [Value.oneCell']) (by omega) hm1 hnb (by simp; omega) (wr.heap.size + 1) (by simp) ?_; intro gg cap w3 hown3 hgrow hat hlt; have hbel3 := (hbel.alloc hbase (.cells #[.int .i64 0, .int .i64 0, .int .i64 0, .int .i64 0, .int .i64 0, .int .i64 0] 75)).grown hgrow (by simp; omega) (fun j hj => (hown2.lt j hj).1); have HB3 := Lib.hid hbel3; clear hbel3 hown3 hgrow hat))
      go_ret
      exact ⟨rfl, HB3.out⟩
end Go.Proofs.Ytnpeldbnnneijaa
