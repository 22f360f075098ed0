/- What a memory's Store and Swap do. -/
import Derived.Test.YtnpeldbnnneijaaMw2
namespace Go.Proofs.Ytnpeldbnnneijaa
open Go.RowKit Go.Joins Go.ChangeShapes Go.WideShapes Go.Deep
set_option linter.unusedVariables false
set_option maxRecDepth 100000

theorem store_no {w : World} {base b gh gs gc : Nat} {lv : Value} {m : MS} (h : MIs w base b gh gs gc lv m) (t k i j v : Int) (hw : wordAt m k i j = none) :
    Calls Try.prog 11 #[.pointer (some ⟨b, 0, none⟩), .int .i64 t, .agg #[.int .i64 k, .int .i64 i, .int .i64 j], .int .i64 v] w fun e w' => e = .returned (.int .i64 1) ∧ Below w.heap.size w w' := by
  have H := Lib.hid h
  have HW := Lib.hid hw
  clear h hw
  go_enter Try.func11, Try.ntmps11
  go_wp2_with fail
  refine (word_any (H.out.alloc _) k i j).mono ?_
  rintro e w1 ⟨hno, _, hb⟩
  obtain rfl := hno HW.out
  clear hno
  go_wp2_with fail
  go_ret
  exact ⟨rfl, ((Below.refl _ _).alloc (Nat.le_refl _) _).trans (hb.mono (by simp))⟩
theorem swap_no {w : World} {base b gh gs gc : Nat} {lv : Value} {m : MS} (h : MIs w base b gh gs gc lv m) (t k i j o v : Int) (hw : wordAt m k i j = none) :
    Calls Try.prog 12 #[.pointer (some ⟨b, 0, none⟩), .int .i64 t, .agg #[.int .i64 k, .int .i64 i, .int .i64 j], .int .i64 o, .int .i64 v] w fun e w' => e = .returned (.tuple #[.bool false, .int .i64 1]) ∧ Below w.heap.size w w' := by
  have H := Lib.hid h
  have HW := Lib.hid hw
  clear h hw
  go_enter Try.func12, Try.ntmps12
  go_wp2_with fail
  refine (word_any (H.out.alloc _) k i j).mono ?_
  rintro e w1 ⟨hno, _, hb⟩
  obtain rfl := hno HW.out
  clear hno
  go_wp2_with fail
  go_ret2
  exact ⟨rfl, ((Below.refl _ _).alloc (Nat.le_refl _) _).trans (hb.mono (by simp))⟩

set_option maxHeartbeats 4000000 in
theorem store_yes {w : World} {base b gh gs gc : Nat} {lv : Value} {m : MS} (h : MIs w base b gh gs gc lv m) (t k i j v V : Int) (hw : wordAt m k i j = some V) (hlog : m.log.length ≤ 2199023255550) :
    Calls Try.prog 11 #[.pointer (some ⟨b, 0, none⟩), .int .i64 t, .agg #[.int .i64 k, .int .i64 i, .int .i64 j], .int .i64 v] w
      (AccPost base b gh gs gc lv (withLog (setAt m k i j v) ⟨t, 2, k, i, j, 0, v, false⟩) (.int .i64 0) w) := by
  obtain ⟨i0, hi0, hz0, hz1, hz2⟩ := info_parts info_acc
  have H := Lib.hid h
  have HW := Lib.hid hw
  clear h hw
  go_enter Try.func11, Try.ntmps11
  go_wp2_with fail
  refine (word_any (H.out.alloc _) k i j).mono ?_
  rintro e w1 ⟨_, hyes, hb⟩
  obtain ⟨g, off, hp, rfl⟩ := hyes V HW.out
  have hM1 := (H.out.alloc (.cells #[.int .i64 k, .int .i64 i, .int .i64 j] 24)).below hb
  obtain ⟨hc, hf, hbg, hgl, hgb, ng, hset⟩ := hM1.word HW.out hp
  have cl : w1.cell? ⟨b, 4, none⟩ = some lv := (hM1.blk.cell 4).trans rfl
  have fl : w1.frozen? ⟨b, 4, none⟩ = false := hM1.blk.frozen 4
  have hA : Blk w1 w.heap.size 24 #[.int .i64 k, .int .i64 i, .int .i64 j] := (Blk.new w _ _).below hb (by simp)
  have a0 : w1.cell? ⟨w.heap.size, 0, none⟩ = some (.int .i64 k) := (hA.cell 0).trans rfl
  have a1 : w1.cell? ⟨w.heap.size, 1, none⟩ = some (.int .i64 i) := (hA.cell 1).trans rfl
  have a2 : w1.cell? ⟨w.heap.size, 2, none⟩ = some (.int .i64 j) := (hA.cell 2).trans rfl
  have hbl := hM1.blk.lt
  have hal := hA.lt
  have hown := hM1.log
  have nb : lv.ownBlock ≠ some b := hM1.own_ne hM1.blk (by decide)
  have na : lv.ownBlock ≠ some w.heap.size := hM1.own_ne hA (by decide)
  have hag : w.heap.size ≠ g := hA.ne_word hM1 HW.out hp
  have hb0 := hM1.b0
  have hbel1 : MFrame w w1 b gh gs gc lv lv := MFrame.of_below (((Below.refl _ w).alloc (Nat.le_refl _) (.cells #[.int .i64 k, .int .i64 i, .int .i64 j] 24)).trans (hb.mono (by simp)))
  obtain ⟨n, hnn⟩ : ∃ n, n = m.log.length := ⟨_, rfl⟩
  rw [← hnn] at hown hlog
  have hn : n + 1 ≤ maxLen := by unfold maxLen; omega
  have hnb : (n + 1) * 64 ≤ 140737488355328 := by omega
  have HN := Lib.hid hnn
  have HP := Lib.hid hp
  have HM1 := Lib.hid hM1
  have HSET := Lib.hid hset
  have HBEL := Lib.hid hbel1
  clear hyes hp hM1 hnn hset hbel1
  go_wp2_with fail
  have M2 := HSET.out v
  have hA2 := hA.far (p := ⟨g, off, none⟩) hag (.int .i64 v)
  have hw2 : wordAt (setAt m k i j v) k i j = some v := by rw [setAt_word m k i j v V HW.out]; simp
  have hbW : MFrame w1 (w1.setCell ⟨g, off, none⟩ (.int .i64 v)) b gh gs gc lv lv := MFrame.store (base := base) HW.out HP.out _
  clear hc hf cl fl a0 a1 a2 hown hbl hal hgl nb na hgb ng hA hb
  have HHSET := HSET
  clear HSET HM1
  generalize w1.setCell ⟨g, off, none⟩ (.int .i64 v) = W at *
  obtain ⟨hc, hf, _, hgl, hgb, ng, _⟩ := M2.word hw2 HP.out
  have cl : W.cell? ⟨b, 4, none⟩ = some lv := (M2.blk.cell 4).trans rfl
  have fl : W.frozen? ⟨b, 4, none⟩ = false := M2.blk.frozen 4
  have a0 : W.cell? ⟨w.heap.size, 0, none⟩ = some (.int .i64 k) := (hA2.cell 0).trans rfl
  have a1 : W.cell? ⟨w.heap.size, 1, none⟩ = some (.int .i64 i) := (hA2.cell 1).trans rfl
  have a2 : W.cell? ⟨w.heap.size, 2, none⟩ = some (.int .i64 j) := (hA2.cell 2).trans rfl
  have hbl := M2.blk.lt
  have hal := hA2.lt
  have hown := M2.log
  rw [setAt_log, ← HN.out] at hown
  have nb : lv.ownBlock ≠ some b := M2.own_ne M2.blk (by decide)
  have na : lv.ownBlock ≠ some w.heap.size := M2.own_ne hA2 (by decide)
  have HM2 := Lib.hid M2
  have HW2 := Lib.hid hw2
  have HBW := Lib.hid hbW
  clear M2 hw2 hbW
  go_region_law
    ((refine step_append_lies _ (by rfl) _ _ _ (by rfl) base 44 i0 _ 8 64 Try.underlying41 hi0 hz0 hz1 hz2 rfl (by omega) lv n (accs m.log) (by rfl) (show _ from hown.alloc _)
        ⟨W.heap.size, 0, none⟩ 1 1 [.int .i64 t, .int .i64 2, .int .i64 k, .int .i64 i, .int .i64 j, .int .i64 0, .int .i64 v, .bool false] (by rfl) (by rfl) (World.news_of_block (cs := #[.int .i64 t, .int .i64 2, .int .i64 k, .int .i64 i, .int .i64 j, .int .i64 0, .int .i64 v, .bool false]) (t := 44) (fr := (0, 0)) (heap_alloc_new W _)) (by simp [Value.oneCell'])
        (by omega) hn hnb (by simp; omega) (W.heap.size + 1) (by simp) ?_; intro gg cap w2 hown1 hgrow hat hlt; have fl2 : w2.frozen? ⟨b, 4, none⟩ = false := (hgrow.frozen_far ⟨b, 4, none⟩ (by simp; omega) (Ne.symm nb)).trans ((frozen?_alloc_cells W _ _ ⟨b, 4, none⟩).trans fl); have cl2 : w2.cell? ⟨b, 4, none⟩ = some lv := (hgrow.cell_far ⟨b, 4, none⟩ (by simp; omega) (Ne.symm nb)).trans ((World.cell?_alloc_lt W _ ⟨b, 4, none⟩ hbl).trans cl); have cg2 : w2.cell? ⟨g, off, none⟩ = some (.int .i64 v) := (hgrow.cell_far ⟨g, off, none⟩ (by simp; omega) (Ne.symm ng)).trans ((World.cell?_alloc_lt W _ ⟨g, off, none⟩ (by simp; omega)).trans hc)))
  all_goals
    rw [← setAt_log m k i j v] at hown1
    have hfin := MIs.logged2 (x := ⟨t, 2, k, i, j, 0, v, false⟩) HM2.out (HN.out.trans (by rw [setAt_log])) (by first | exact below_new | exact below_new.drew | exact below_drewN below_new _) hgrow hown1 (own_of hat)
    have HFIN := Lib.hid hfin
    have hgl2 : g < w2.heap.size := by have := hgrow.size; simp at this; omega
    clear hfin hgrow hown1 hown
    rcases hgb with ⟨rfl, rfl⟩ | hgb
    · go_wp2_with fail
      go_ret
      exact ⟨_, rfl, HFIN.out.1, (HBEL.out.trans HBW.out).trans HFIN.out.2⟩
    · go_wp2_with fail
      go_ret
      exact ⟨_, rfl, HFIN.out.1, (HBEL.out.trans HBW.out).trans HFIN.out.2⟩

set_option maxHeartbeats 4000000 in
theorem swap_yes {w : World} {base b gh gs gc : Nat} {lv : Value} {m : MS} (h : MIs w base b gh gs gc lv m) (t k i j v V : Int) (hw : wordAt m k i j = some V) (hlog : m.log.length ≤ 2199023255550) :
    Calls Try.prog 12 #[.pointer (some ⟨b, 0, none⟩), .int .i64 t, .agg #[.int .i64 k, .int .i64 i, .int .i64 j], .int .i64 V, .int .i64 v] w
      (AccPost base b gh gs gc lv (withLog (setAt m k i j v) ⟨t, 3, k, i, j, V, v, true⟩) (.tuple #[.bool true, .int .i64 0]) w) := by
  obtain ⟨i0, hi0, hz0, hz1, hz2⟩ := info_parts info_acc
  have H := Lib.hid h
  have HW := Lib.hid hw
  clear h hw
  go_enter Try.func12, Try.ntmps12
  go_wp2_with fail
  refine (word_any (H.out.alloc _) k i j).mono ?_
  rintro e w1 ⟨_, hyes, hb⟩
  obtain ⟨g, off, hp, rfl⟩ := hyes V HW.out
  have hM1 := (H.out.alloc (.cells #[.int .i64 k, .int .i64 i, .int .i64 j] 24)).below hb
  obtain ⟨hc, hf, hbg, hgl, hgb, ng, hset⟩ := hM1.word HW.out hp
  have cl : w1.cell? ⟨b, 4, none⟩ = some lv := (hM1.blk.cell 4).trans rfl
  have fl : w1.frozen? ⟨b, 4, none⟩ = false := hM1.blk.frozen 4
  have hA : Blk w1 w.heap.size 24 #[.int .i64 k, .int .i64 i, .int .i64 j] := (Blk.new w _ _).below hb (by simp)
  have a0 : w1.cell? ⟨w.heap.size, 0, none⟩ = some (.int .i64 k) := (hA.cell 0).trans rfl
  have a1 : w1.cell? ⟨w.heap.size, 1, none⟩ = some (.int .i64 i) := (hA.cell 1).trans rfl
  have a2 : w1.cell? ⟨w.heap.size, 2, none⟩ = some (.int .i64 j) := (hA.cell 2).trans rfl
  have hbl := hM1.blk.lt
  have hal := hA.lt
  have hown := hM1.log
  have nb : lv.ownBlock ≠ some b := hM1.own_ne hM1.blk (by decide)
  have na : lv.ownBlock ≠ some w.heap.size := hM1.own_ne hA (by decide)
  have hag : w.heap.size ≠ g := hA.ne_word hM1 HW.out hp
  have hb0 := hM1.b0
  have hbel1 : MFrame w w1 b gh gs gc lv lv := MFrame.of_below (((Below.refl _ w).alloc (Nat.le_refl _) (.cells #[.int .i64 k, .int .i64 i, .int .i64 j] 24)).trans (hb.mono (by simp)))
  obtain ⟨n, hnn⟩ : ∃ n, n = m.log.length := ⟨_, rfl⟩
  rw [← hnn] at hown hlog
  have hn : n + 1 ≤ maxLen := by unfold maxLen; omega
  have hnb : (n + 1) * 64 ≤ 140737488355328 := by omega
  have HN := Lib.hid hnn
  have HP := Lib.hid hp
  have HM1 := Lib.hid hM1
  have HSET := Lib.hid hset
  have HBEL := Lib.hid hbel1
  clear hyes hp hM1 hnn hset hbel1
  go_wp2_with fail
  have M2 := HSET.out v
  have hA2 := hA.far (p := ⟨g, off, none⟩) hag (.int .i64 v)
  have hw2 : wordAt (setAt m k i j v) k i j = some v := by rw [setAt_word m k i j v V HW.out]; simp
  have hbW : MFrame w1 (w1.setCell ⟨g, off, none⟩ (.int .i64 v)) b gh gs gc lv lv := MFrame.store (base := base) HW.out HP.out _
  clear hc hf cl fl a0 a1 a2 hown hbl hal hgl nb na hgb ng hA hb
  have HHSET := HSET
  clear HSET HM1
  generalize w1.setCell ⟨g, off, none⟩ (.int .i64 v) = W at *
  obtain ⟨hc, hf, _, hgl, hgb, ng, _⟩ := M2.word hw2 HP.out
  have cl : W.cell? ⟨b, 4, none⟩ = some lv := (M2.blk.cell 4).trans rfl
  have fl : W.frozen? ⟨b, 4, none⟩ = false := M2.blk.frozen 4
  have a0 : W.cell? ⟨w.heap.size, 0, none⟩ = some (.int .i64 k) := (hA2.cell 0).trans rfl
  have a1 : W.cell? ⟨w.heap.size, 1, none⟩ = some (.int .i64 i) := (hA2.cell 1).trans rfl
  have a2 : W.cell? ⟨w.heap.size, 2, none⟩ = some (.int .i64 j) := (hA2.cell 2).trans rfl
  have hbl := M2.blk.lt
  have hal := hA2.lt
  have hown := M2.log
  rw [setAt_log, ← HN.out] at hown
  have nb : lv.ownBlock ≠ some b := M2.own_ne M2.blk (by decide)
  have na : lv.ownBlock ≠ some w.heap.size := M2.own_ne hA2 (by decide)
  have HM2 := Lib.hid M2
  have HW2 := Lib.hid hw2
  have HBW := Lib.hid hbW
  clear M2 hw2 hbW
  go_region_law
    ((refine step_append_lies _ (by rfl) _ _ _ (by rfl) base 44 i0 _ 8 64 Try.underlying41 hi0 hz0 hz1 hz2 rfl (by omega) lv n (accs m.log) (by rfl) (show _ from hown.alloc _)
        ⟨W.heap.size, 0, none⟩ 1 1 [.int .i64 t, .int .i64 3, .int .i64 k, .int .i64 i, .int .i64 j, .int .i64 V, .int .i64 v, .bool true] (by rfl) (by rfl) (World.news_of_block (cs := #[.int .i64 t, .int .i64 3, .int .i64 k, .int .i64 i, .int .i64 j, .int .i64 V, .int .i64 v, .bool true]) (t := 44) (fr := (0, 0)) (heap_alloc_new W _)) (by simp [Value.oneCell'])
        (by omega) hn hnb (by simp; omega) (W.heap.size + 1) (by simp) ?_; intro gg cap w2 hown1 hgrow hat hlt; have fl2 : w2.frozen? ⟨b, 4, none⟩ = false := (hgrow.frozen_far ⟨b, 4, none⟩ (by simp; omega) (Ne.symm nb)).trans ((frozen?_alloc_cells W _ _ ⟨b, 4, none⟩).trans fl); have cl2 : w2.cell? ⟨b, 4, none⟩ = some lv := (hgrow.cell_far ⟨b, 4, none⟩ (by simp; omega) (Ne.symm nb)).trans ((World.cell?_alloc_lt W _ ⟨b, 4, none⟩ hbl).trans cl); have cg2 : w2.cell? ⟨g, off, none⟩ = some (.int .i64 v) := (hgrow.cell_far ⟨g, off, none⟩ (by simp; omega) (Ne.symm ng)).trans ((World.cell?_alloc_lt W _ ⟨g, off, none⟩ (by simp; omega)).trans hc)))
  all_goals
    rw [← setAt_log m k i j v] at hown1
    have hfin := MIs.logged2 (x := ⟨t, 3, k, i, j, V, v, true⟩) HM2.out (HN.out.trans (by rw [setAt_log])) (by first | exact below_new | exact below_new.drew | exact below_drewN below_new _) hgrow hown1 (own_of hat)
    have HFIN := Lib.hid hfin
    have hgl2 : g < w2.heap.size := by have := hgrow.size; simp at this; omega
    clear hfin hgrow hown1 hown
    rcases hgb with ⟨rfl, rfl⟩ | hgb
    · go_wp2_with fail
      go_ret2
      exact ⟨_, rfl, HFIN.out.1, (HBEL.out.trans HBW.out).trans HFIN.out.2⟩
    · go_wp2_with fail
      go_ret2
      exact ⟨_, rfl, HFIN.out.1, (HBEL.out.trans HBW.out).trans HFIN.out.2⟩

set_option maxHeartbeats 4000000 in
theorem swap_keep {w : World} {base b gh gs gc : Nat} {lv : Value} {m : MS} (h : MIs w base b gh gs gc lv m) (t k i j o v V : Int) (hw : wordAt m k i j = some V) (hne : (V == o) = false) (hlog : m.log.length ≤ 2199023255550) :
    Calls Try.prog 12 #[.pointer (some ⟨b, 0, none⟩), .int .i64 t, .agg #[.int .i64 k, .int .i64 i, .int .i64 j], .int .i64 o, .int .i64 v] w
      (AccPost base b gh gs gc lv (withLog m ⟨t, 3, k, i, j, o, v, false⟩) (.tuple #[.bool false, .int .i64 0]) w) := by
  obtain ⟨i0, hi0, hz0, hz1, hz2⟩ := info_parts info_acc
  have H := Lib.hid h
  have HW := Lib.hid hw
  clear h hw
  go_enter Try.func12, Try.ntmps12
  go_wp2_with fail
  refine (word_any (H.out.alloc _) k i j).mono ?_
  rintro e w1 ⟨_, hyes, hb⟩
  obtain ⟨g, off, hp, rfl⟩ := hyes V HW.out
  have hM1 := (H.out.alloc (.cells #[.int .i64 k, .int .i64 i, .int .i64 j] 24)).below hb
  obtain ⟨hc, hf, hbg, hgl, hgb, ng, hset⟩ := hM1.word HW.out hp
  have cl : w1.cell? ⟨b, 4, none⟩ = some lv := (hM1.blk.cell 4).trans rfl
  have fl : w1.frozen? ⟨b, 4, none⟩ = false := hM1.blk.frozen 4
  have hA : Blk w1 w.heap.size 24 #[.int .i64 k, .int .i64 i, .int .i64 j] := (Blk.new w _ _).below hb (by simp)
  have a0 : w1.cell? ⟨w.heap.size, 0, none⟩ = some (.int .i64 k) := (hA.cell 0).trans rfl
  have a1 : w1.cell? ⟨w.heap.size, 1, none⟩ = some (.int .i64 i) := (hA.cell 1).trans rfl
  have a2 : w1.cell? ⟨w.heap.size, 2, none⟩ = some (.int .i64 j) := (hA.cell 2).trans rfl
  have hbl := hM1.blk.lt
  have hal := hA.lt
  have hown := hM1.log
  have nb : lv.ownBlock ≠ some b := hM1.own_ne hM1.blk (by decide)
  have na : lv.ownBlock ≠ some w.heap.size := hM1.own_ne hA (by decide)
  have hag : w.heap.size ≠ g := hA.ne_word hM1 HW.out hp
  have hb0 := hM1.b0
  have hbel1 : MFrame w w1 b gh gs gc lv lv := MFrame.of_below (((Below.refl _ w).alloc (Nat.le_refl _) (.cells #[.int .i64 k, .int .i64 i, .int .i64 j] 24)).trans (hb.mono (by simp)))
  obtain ⟨n, hnn⟩ : ∃ n, n = m.log.length := ⟨_, rfl⟩
  rw [← hnn] at hown hlog
  have hn : n + 1 ≤ maxLen := by unfold maxLen; omega
  have hnb : (n + 1) * 64 ≤ 140737488355328 := by omega
  have HN := Lib.hid hnn
  have HP := Lib.hid hp
  have HM1 := Lib.hid hM1
  have HSET := Lib.hid hset
  have HBEL := Lib.hid hbel1
  clear hyes hp hM1 hnn hset hbel1
  go_wp2_with fail
  go_region_law
    ((refine step_append_lies _ (by rfl) _ _ _ (by rfl) base 44 i0 _ 8 64 Try.underlying41 hi0 hz0 hz1 hz2 rfl (by omega) lv n (accs m.log) (by rfl) (show _ from hown.alloc _)
        ⟨w1.heap.size, 0, none⟩ 1 1 [.int .i64 t, .int .i64 3, .int .i64 k, .int .i64 i, .int .i64 j, .int .i64 o, .int .i64 v, .bool false] (by rfl) (by rfl) (World.news_of_block (cs := #[.int .i64 t, .int .i64 3, .int .i64 k, .int .i64 i, .int .i64 j, .int .i64 o, .int .i64 v, .bool false]) (t := 44) (fr := (0, 0)) (heap_alloc_new w1 _)) (by simp [Value.oneCell'])
        (by omega) hn hnb (by simp; omega) (w1.heap.size + 1) (by simp) ?_; intro gg cap w2 hown1 hgrow hat hlt; have fl2 : w2.frozen? ⟨b, 4, none⟩ = false := (hgrow.frozen_far ⟨b, 4, none⟩ (by simp; omega) (Ne.symm nb)).trans ((frozen?_alloc_cells w1 _ _ ⟨b, 4, none⟩).trans fl); have cl2 : w2.cell? ⟨b, 4, none⟩ = some lv := (hgrow.cell_far ⟨b, 4, none⟩ (by simp; omega) (Ne.symm nb)).trans ((World.cell?_alloc_lt w1 _ ⟨b, 4, none⟩ hbl).trans cl); have cg2 : w2.cell? ⟨g, off, none⟩ = some (.int .i64 V) := (hgrow.cell_far ⟨g, off, none⟩ (by simp; omega) (Ne.symm ng)).trans ((World.cell?_alloc_lt w1 _ ⟨g, off, none⟩ (by simp; omega)).trans hc)))
  all_goals
    skip
    have hfin := MIs.logged2 (x := ⟨t, 3, k, i, j, o, v, false⟩) HM1.out HN.out (by first | exact below_new | exact below_new.drew | exact below_drewN below_new _) hgrow hown1 (own_of hat)
    have HFIN := Lib.hid hfin
    have hgl2 : g < w2.heap.size := by have := hgrow.size; simp at this; omega
    clear hfin hgrow hown1 hown
    rcases hgb with ⟨rfl, rfl⟩ | hgb
    · go_wp2_with fail
      go_ret2
      exact ⟨_, rfl, HFIN.out.1, HBEL.out.trans HFIN.out.2⟩
    · go_wp2_with fail
      go_ret2
      exact ⟨_, rfl, HFIN.out.1, HBEL.out.trans HFIN.out.2⟩
end Go.Proofs.Ytnpeldbnnneijaa
