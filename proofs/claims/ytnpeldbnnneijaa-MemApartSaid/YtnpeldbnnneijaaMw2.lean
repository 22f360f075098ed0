/- What a memory's accesses do. -/
import Derived.Test.YtnpeldbnnneijaaMw1
import Derived.Deep.RegionLaw
import Derived.Deep.AppendLies
namespace Go.Proofs.Ytnpeldbnnneijaa
open Go.RowKit Go.Joins Go.ChangeShapes Go.WideShapes Go.Deep
set_option linter.unusedVariables false
set_option maxRecDepth 100000

theorem info_acc : (Try.prog.info? 44).map (fun i => (i.zero, i.size, i.bytes)) = some (some (.agg #[.int .i64 0, .int .i64 0, .int .i64 0, .int .i64 0, .int .i64 0, .int .i64 0, .int .i64 0, .bool false]), 8, 64) := by kernel_rfl

theorem peek_any {w : World} {base b gh gs gc : Nat} {lv : Value} {m : MS} (h : MIs w base b gh gs gc lv m) (k i j : Int) :
    Calls Try.prog 9 #[.pointer (some ⟨b, 0, none⟩), .agg #[.int .i64 k, .int .i64 i, .int .i64 j]] w fun e w' =>
      e = .returned (.tuple #[.int .i64 ((wordAt m k i j).getD 0), .int .i64 (if (wordAt m k i j).isSome then 0 else 1)]) ∧ Below w.heap.size w w' := by
  have H := Lib.hid h
  clear h
  cases hw : wordAt m k i j with
  | none =>
    have HW := Lib.hid hw
    clear hw
    go_enter Try.func9, Try.ntmps9
    go_wp2_with fail
    refine (word_any (H.out.alloc _) k i j).mono ?_
    rintro e w1 ⟨hno, _, hb⟩
    obtain rfl := hno HW.out
    clear hno
    go_wp2_with fail
    go_ret2
    exact ⟨rfl, ((Below.refl _ _).alloc (Nat.le_refl _) _).trans (hb.mono (by simp))⟩
  | some V =>
    have HW := Lib.hid hw
    clear hw
    go_enter Try.func9, Try.ntmps9
    go_wp2_with fail
    refine (word_any (H.out.alloc _) k i j).mono ?_
    rintro e w1 ⟨_, hyes, hb⟩
    obtain ⟨g, off, hp, rfl⟩ := hyes V HW.out
    have hM1 := (H.out.alloc _).below hb
    obtain ⟨hc, hf, _, hgl, _, _, _⟩ := hM1.word HW.out hp
    clear hyes hp hM1
    go_wp2_with fail
    go_ret2
    exact ⟨rfl, ((Below.refl _ _).alloc (Nat.le_refl _) _).trans (hb.mono (by simp))⟩

theorem load_no {w : World} {base b gh gs gc : Nat} {lv : Value} {m : MS} (h : MIs w base b gh gs gc lv m) (t k i j : Int) (hw : wordAt m k i j = none) :
    Calls Try.prog 10 #[.pointer (some ⟨b, 0, none⟩), .int .i64 t, .agg #[.int .i64 k, .int .i64 i, .int .i64 j]] w fun e w' => e = .returned (.tuple #[.int .i64 0, .int .i64 1]) ∧ Below w.heap.size w w' := by
  have H := Lib.hid h
  have HW := Lib.hid hw
  clear h hw
  go_enter Try.func10, Try.ntmps10
  go_wp2_with fail
  refine (word_any (H.out.alloc _) k i j).mono ?_
  rintro e w1 ⟨hno, _, hb⟩
  obtain rfl := hno HW.out
  clear hno
  go_wp2_with fail
  go_ret2
  exact ⟨rfl, ((Below.refl _ _).alloc (Nat.le_refl _) _).trans (hb.mono (by simp))⟩

/-- What an access leaves as it was. -/
structure MFrame (w w' : World) (b gh gs gc : Nat) (lv lv' : Value) : Prop where
  os : w'.os = w.os
  tape : w'.tape = w.tape
  output : w'.output = w.output
  size : w.heap.size ≤ w'.heap.size
  block : ∀ g, g < w.heap.size → g ≠ b → g ≠ gh → g ≠ gs → g ≠ gc → lv.ownBlock ≠ some g → w'.heap[g]? = w.heap[g]?
  own : lv'.ownBlock = lv.ownBlock ∨ ∃ q, lv'.ownBlock = some q ∧ w.heap.size ≤ q
theorem MFrame.trans {a b c : World} {mb gh gs gc : Nat} {l1 l2 l3 : Value} (h : MFrame a b mb gh gs gc l1 l2) (k : MFrame b c mb gh gs gc l2 l3) : MFrame a c mb gh gs gc l1 l3 :=
  ⟨k.os.trans h.os, k.tape.trans h.tape, k.output.trans h.output, Nat.le_trans h.size k.size, fun g h1 h2 h3 h4 h5 h6 => (k.block g (Nat.lt_of_lt_of_le h1 h.size) h2 h3 h4 h5 (by
      rcases h.own with e | ⟨q, e, hq⟩
      · rw [e]; exact h6
      · rw [e]; intro hh; injection hh with hh; omega)).trans (h.block g h1 h2 h3 h4 h5 h6), by
    rcases k.own with e | ⟨q, e, hq⟩
    · rw [e]; exact h.own
    · exact .inr ⟨q, e, Nat.le_trans h.size hq⟩⟩
theorem MFrame.of_below {a b : World} {mb gh gs gc : Nat} {l : Value} (h : Below a.heap.size a b) : MFrame a b mb gh gs gc l l :=
  ⟨h.os, h.tape, h.output, h.size, fun g hg _ _ _ _ _ => h.block g hg, .inl rfl⟩
theorem MFrame.below {w w' : World} {base b gh gs gc : Nat} {lv lv' : Value} {m : MS} (h : MFrame w w' b gh gs gc lv lv') (hM : MIs w base b gh gs gc lv m) : Below base w w' :=
  ⟨h.os, h.tape, h.output, h.size, fun g hg => h.block g (by have := hM.b0; have := hM.blk.lt; omega) (by have := hM.b0; omega) (by have := hM.b1; omega) (by have := hM.b2; omega) (by have := hM.b3; omega) (fun e => by have := (hM.log.lt g e).1; omega)⟩
theorem MFrame.addr {w w' : World} {base b gh gs gc : Nat} {lv lv' : Value} {m : MS} (h : MFrame w w' b gh gs gc lv lv') (hM : MIs w base b gh gs gc lv m) {g : Nat} {cs : Array Value} (hA : Blk w g 24 cs) : Blk w' g 24 cs :=
  (h.block g hA.lt (hA.ne_ hM.blk (by decide)) (hA.ne_ hM.heads (by decide)) (hA.ne_ hM.sigs (by decide)) (hA.ne_ hM.cells (by decide)) (hM.own_ne hA (by decide))).trans hA
/-- A store to a word. -/
theorem MFrame.store {w : World} {base b gh gs gc : Nat} {lv : Value} {m : MS} {k i j V : Int} {g off : Nat} (hw : wordAt m k i j = some V) (hp : ptrAt b gh gs gc k i j = (g, off)) (u : Value) : MFrame w (w.setCell ⟨g, off, none⟩ u) b gh gs gc lv lv := by
  refine ⟨rfl, rfl, rfl, by simp [World.setCell], fun q _ h1 h2 h3 h4 _ => Below.heap_setCell w ⟨g, off, none⟩ u q ?_, .inl rfl⟩
  show q ≠ g
  unfold ptrAt at hp
  split at hp
  · injection hp with hp; rw [← hp]; exact h1
  · split at hp
    · injection hp with hp; rw [← hp]; exact h2
    · split at hp
      · injection hp with hp; rw [← hp]; exact h3
      · injection hp with hp; rw [← hp]; exact h4

/-- The memory behind an access that was logged. -/
theorem MIs.logged2 {w1 W1 w2 : World} {base b gh gs gc : Nat} {lv lv' : Value} {m : MS} {x : Acc} {n : Nat} (h : MIs w1 base b gh gs gc lv m) (hn : n = m.log.length) (hb : Below w1.heap.size w1 W1) (hgrow : W1.grownBy w2 lv.ownBlock) (hown1 : w2.ownsRow base 44 8 lv' (n + 1) (accs m.log ++ x.cells))
    (hat : lv'.ownBlock = lv.ownBlock ∨ ∃ q, lv'.ownBlock = some q ∧ w1.heap.size ≤ q) :
    MIs (w2.setCell ⟨b, 4, none⟩ lv') base b gh gs gc lv' (withLog m x) ∧ MFrame w1 (w2.setCell ⟨b, 4, none⟩ lv') b gh gs gc lv lv' :=
  ⟨(h.logged hn hb hgrow hown1).1, hgrow.os.trans hb.os, hgrow.tape.trans hb.tape, hgrow.output.trans hb.output, by have h1 := hgrow.size; have h2 := hb.size; simp [World.setCell]; omega,
    fun g h1 h2 _ _ _ h6 => (Below.heap_setCell w2 ⟨b, 4, none⟩ lv' g h2).trans ((hgrow.block g (by have := hb.size; omega) (fun e => h6 e.symm)).trans (hb.block g h1)), hat⟩
theorem own_of {lv : Value} {gg n cap H : Nat} (h : lv.ownBlock = some gg ∨ gg = H + 1) : (Value.slice (some ⟨gg, 0, none⟩) n cap).ownBlock = lv.ownBlock ∨ ∃ q, (Value.slice (some ⟨gg, 0, none⟩) n cap).ownBlock = some q ∧ H ≤ q := by
  rcases h with h | h
  · left; rw [h]; rfl
  · right; exact ⟨gg, rfl, by omega⟩

def AccPost (base b gh gs gc : Nat) (lv : Value) (m : MS) (v : Value) (w : World) : Ending → World → Prop := fun e w' => ∃ lv', e = .returned v ∧ MIs w' base b gh gs gc lv' m ∧ MFrame w w' b gh gs gc lv lv'

theorem below_new {w : World} {o : Obj} : Below w.heap.size w (w.alloc o) := (Below.refl _ _).alloc (Nat.le_refl _) _

set_option maxHeartbeats 4000000 in
theorem load_yes {w : World} {base b gh gs gc : Nat} {lv : Value} {m : MS} (h : MIs w base b gh gs gc lv m) (t k i j V : Int) (hw : wordAt m k i j = some V) (hlog : m.log.length ≤ 2199023255550) :
    Calls Try.prog 10 #[.pointer (some ⟨b, 0, none⟩), .int .i64 t, .agg #[.int .i64 k, .int .i64 i, .int .i64 j]] w
      (AccPost base b gh gs gc lv (withLog m ⟨t, 1, k, i, j, 0, V, false⟩) (.tuple #[.int .i64 V, .int .i64 0]) w) := by
  obtain ⟨i0, hi0, hz0, hz1, hz2⟩ := info_parts info_acc
  have H := Lib.hid h
  have HW := Lib.hid hw
  clear h hw
  go_enter Try.func10, Try.ntmps10
  go_wp2_with fail
  refine (word_any (H.out.alloc _) k i j).mono ?_
  rintro e w1 ⟨_, hyes, hb⟩
  obtain ⟨g, off, hp, rfl⟩ := hyes V HW.out
  have hM1 := (H.out.alloc (.cells #[.int .i64 k, .int .i64 i, .int .i64 j] 24)).below hb
  obtain ⟨hc, hf, hbg, hgl, hgb, ng, hset⟩ := hM1.word HW.out hp
  have cl : w1.cell? ⟨b, 4, none⟩ = some lv := (hM1.blk.cell 4).trans rfl
  have fl : w1.frozen? ⟨b, 4, none⟩ = false := hM1.blk.frozen 4
  have hA : Blk w1 w.heap.size 24 #[.int .i64 k, .int .i64 i, .int .i64 j] := (Blk.new w _ _).below hb (by simp)
  have a0 : w1.cell? ⟨w.heap.size, 0, none⟩ = some (.int .i64 k) := (hA.cell 0).trans rfl
  have a1 : w1.cell? ⟨w.heap.size, 1, none⟩ = some (.int .i64 i) := (hA.cell 1).trans rfl
  have a2 : w1.cell? ⟨w.heap.size, 2, none⟩ = some (.int .i64 j) := (hA.cell 2).trans rfl
  have hbl := hM1.blk.lt
  have hal := hA.lt
  have hown := hM1.log
  have nb : lv.ownBlock ≠ some b := hM1.own_ne hM1.blk (by decide)
  have na : lv.ownBlock ≠ some w.heap.size := hM1.own_ne hA (by decide)
  have hag : w.heap.size ≠ g := hA.ne_word hM1 HW.out hp
  have hb0 := hM1.b0
  have hbel1 : MFrame w w1 b gh gs gc lv lv := MFrame.of_below (((Below.refl _ w).alloc (Nat.le_refl _) (.cells #[.int .i64 k, .int .i64 i, .int .i64 j] 24)).trans (hb.mono (by simp)))
  obtain ⟨n, hnn⟩ : ∃ n, n = m.log.length := ⟨_, rfl⟩
  rw [← hnn] at hown hlog
  have hn : n + 1 ≤ maxLen := by unfold maxLen; omega
  have hnb : (n + 1) * 64 ≤ 140737488355328 := by omega
  have HN := Lib.hid hnn
  have HP := Lib.hid hp
  have HM1 := Lib.hid hM1
  have HSET := Lib.hid hset
  have HBEL := Lib.hid hbel1
  clear hyes hp hM1 hnn hset hbel1
  go_wp2_with fail
  go_region_law
    ((refine step_append_lies _ (by rfl) _ _ _ (by rfl) base 44 i0 _ 8 64 Try.underlying41 hi0 hz0 hz1 hz2 rfl (by omega) lv n (accs m.log) (by rfl) (show _ from hown.alloc _)
        ⟨w1.heap.size, 0, none⟩ 1 1 [.int .i64 t, .int .i64 1, .int .i64 k, .int .i64 i, .int .i64 j, .int .i64 0, .int .i64 V, .bool false] (by rfl) (by rfl) (World.news_of_block (cs := #[.int .i64 t, .int .i64 1, .int .i64 k, .int .i64 i, .int .i64 j, .int .i64 0, .int .i64 V, .bool false]) (t := 44) (fr := (0, 0)) (heap_alloc_new w1 _)) (by simp [Value.oneCell'])
        (by omega) hn hnb (by simp; omega) (w1.heap.size + 1) (by simp) ?_; intro gg cap w2 hown1 hgrow hat hlt; have fl2 : w2.frozen? ⟨b, 4, none⟩ = false := (hgrow.frozen_far ⟨b, 4, none⟩ (by simp; omega) (Ne.symm nb)).trans ((frozen?_alloc_cells w1 _ _ ⟨b, 4, none⟩).trans fl); have cl2 : w2.cell? ⟨b, 4, none⟩ = some lv := (hgrow.cell_far ⟨b, 4, none⟩ (by simp; omega) (Ne.symm nb)).trans ((World.cell?_alloc_lt w1 _ ⟨b, 4, none⟩ hbl).trans cl); have cg2 : w2.cell? ⟨g, off, none⟩ = some (.int .i64 V) := (hgrow.cell_far ⟨g, off, none⟩ (by simp; omega) (Ne.symm ng)).trans ((World.cell?_alloc_lt w1 _ ⟨g, off, none⟩ (by simp; omega)).trans hc)))
  all_goals
    skip
    have hfin := MIs.logged2 (x := ⟨t, 1, k, i, j, 0, V, false⟩) HM1.out HN.out (by first | exact below_new | exact below_new.drew | exact below_drewN below_new _) hgrow hown1 (own_of hat)
    have HFIN := Lib.hid hfin
    have hgl2 : g < w2.heap.size := by have := hgrow.size; simp at this; omega
    clear hfin hgrow hown1 hown
    rcases hgb with ⟨rfl, rfl⟩ | hgb
    · go_wp2_with fail
      go_ret2
      exact ⟨_, rfl, HFIN.out.1, HBEL.out.trans HFIN.out.2⟩
    · go_wp2_with fail
      go_ret2
      exact ⟨_, rfl, HFIN.out.1, HBEL.out.trans HFIN.out.2⟩
end Go.Proofs.Ytnpeldbnnneijaa
