/- The document's accesses, its log. -/
import Derived.Test.YtnpeldbnnneijaaMr1
namespace Go.Proofs.Ytnpeldbnnneijaa
open Go.RowKit Go.Joins Go.ChangeShapes Go.WideShapes Go.Deep
set_option linter.unusedVariables false
set_option maxRecDepth 100000

def RPost (base b C R : Nat) (lv : Value) (L : List Acc) (v : Value) (x : Acc) (w : World) : Ending → World → Prop := fun e w' =>
  ∃ lv2, e = .returned v ∧ RIs w' base b lv2 C R (L ++ [x]) ∧ Frm w w' (RBlk b lv) ∧ ∀ q, RBlk b lv2 q → RBlk b lv q ∨ w.heap.size ≤ q
theorem RIs.logged {w W w2 : World} {base b C R n : Nat} {lv lv2 : Value} {L : List Acc} {x : Acc} (h : RIs w base b lv C R L) (hn : n = L.length) (hb : Below w.heap.size w W) (hgrow : W.grownBy w2 lv.ownBlock) (hown : w2.ownsRow base 44 8 lv2 (n + 1) (accs L ++ x.cells))
    (hat : lv2.ownBlock = lv.ownBlock ∨ ∃ q, lv2.ownBlock = some q ∧ w.heap.size ≤ q) :
    RIs (w2.setCell ⟨b, 2, none⟩ lv2) base b lv2 C R (L ++ [x]) ∧ Frm w (w2.setCell ⟨b, 2, none⟩ lv2) (RBlk b lv) ∧ ∀ q, RBlk b lv2 q → RBlk b lv q ∨ w.heap.size ≤ q := by
  subst hn
  have hW := h.below hb
  have hb2 := hW.blk.grown hgrow (fun e => own_blk_ne hW.log hW.blk (by decide) e.symm)
  refine ⟨⟨hb2.set_ 2 lv2, ?_, h.b0⟩, ⟨hgrow.os.trans hb.os, hgrow.tape.trans hb.tape, hgrow.output.trans hb.output, by have h1 := hgrow.size; have h2 := hb.size; simp [World.setCell]; omega, fun q hq hn => ?_⟩, fun q hq => ?_⟩
  · have := ownsRow_setCell_other hown (a := ⟨b, 2, none⟩) (own_blk_ne hown hb2 (by decide)) lv2
    show World.ownsRow _ base _ 8 lv2 (L ++ [x]).length (accs (L ++ [x]))
    rw [accs_snoc, List.length_append]
    exact this
  · exact (Below.heap_setCell w2 ⟨b, 2, none⟩ lv2 q (fun e => hn (.inl e))).trans ((hgrow.block q (by have := hb.size; omega) (fun e => hn (.inr e.symm))).trans (hb.block q hq))
  · rcases hq with rfl | hq
    · exact .inl (.inl rfl)
    · rcases hat with e | ⟨g, e, hg⟩
      · exact .inl (.inr (e ▸ hq))
      · rw [e] at hq
        injection hq with hq
        exact .inr (by omega)

theorem rload_no {w : World} {base b C R : Nat} {lv : Value} {L : List Acc} (h : RIs w base b lv C R L) (t k i j : Int) (hno : ¬ isW C R k i j) :
    Calls Try.prog 21 #[.pointer (some ⟨b, 0, none⟩), .int .i64 t, .agg #[.int .i64 k, .int .i64 i, .int .i64 j]] w fun e w' => e = .returned (.tuple #[.int .i64 0, .int .i64 1]) ∧ Below w.heap.size w w' := by
  have HIS := fun W (hW : Below w.heap.size w W) => is_any (h.below hW) k i j
  rw [show decide (isW C R k i j) = false by simp [hno]] at HIS
  clear h hno
  go_enter Try.func21, Try.ntmps21
  go_wp2_with fail
  refine (HIS _ (by exact below_new)).mono ?_
  rintro e w1 ⟨rfl, hb⟩
  go_wp2_with fail
  go_ret2
  exact ⟨rfl, below_new.trans (hb.mono (by simp))⟩
theorem rstore_no {w : World} {base b C R : Nat} {lv : Value} {L : List Acc} (h : RIs w base b lv C R L) (t k i j v : Int) (hno : ¬ isW C R k i j) :
    Calls Try.prog 22 #[.pointer (some ⟨b, 0, none⟩), .int .i64 t, .agg #[.int .i64 k, .int .i64 i, .int .i64 j], .int .i64 v] w fun e w' => e = .returned (.int .i64 1) ∧ Below w.heap.size w w' := by
  have HIS := fun W (hW : Below w.heap.size w W) => is_any (h.below hW) k i j
  rw [show decide (isW C R k i j) = false by simp [hno]] at HIS
  clear h hno
  go_enter Try.func22, Try.ntmps22
  go_wp2_with fail
  refine (HIS _ (by exact below_new)).mono ?_
  rintro e w1 ⟨rfl, hb⟩
  go_wp2_with fail
  go_ret
  exact ⟨rfl, below_new.trans (hb.mono (by simp))⟩
theorem rswap_no {w : World} {base b C R : Nat} {lv : Value} {L : List Acc} (h : RIs w base b lv C R L) (t k i j o v : Int) (hno : ¬ isW C R k i j) :
    Calls Try.prog 23 #[.pointer (some ⟨b, 0, none⟩), .int .i64 t, .agg #[.int .i64 k, .int .i64 i, .int .i64 j], .int .i64 o, .int .i64 v] w fun e w' => e = .returned (.tuple #[.bool false, .int .i64 1]) ∧ Below w.heap.size w w' := by
  have HIS := fun W (hW : Below w.heap.size w W) => is_any (h.below hW) k i j
  rw [show decide (isW C R k i j) = false by simp [hno]] at HIS
  clear h hno
  go_enter Try.func23, Try.ntmps23
  go_wp2_with fail
  refine (HIS _ (by exact below_new)).mono ?_
  rintro e w1 ⟨rfl, hb⟩
  go_wp2_with fail
  go_ret2
  exact ⟨rfl, below_new.trans (hb.mono (by simp))⟩
theorem rpeek_any {w : World} {base b C R : Nat} {lv : Value} {L : List Acc} (h : RIs w base b lv C R L) (k i j : Int) (hlog : L.length ≤ 2199023255550) :
    Calls Try.prog 24 #[.pointer (some ⟨b, 0, none⟩), .agg #[.int .i64 k, .int .i64 i, .int .i64 j]] w fun e w' =>
      e = .returned (.tuple #[.int .i64 (if isW C R k i j then lastW k i j L (begun k) else 0), .int .i64 (if isW C R k i j then 0 else 1)]) ∧ Below w.heap.size w w' := by
  have HIS := fun W (hW : Below w.heap.size w W) => is_any (h.below hW) k i j
  have HW := fun W (hW : Below w.heap.size w W) => rword_any (h.below hW) k i j hlog
  by_cases hi : isW C R k i j
  · rw [if_pos hi, if_pos hi]
    rw [show decide (isW C R k i j) = true by simp [hi]] at HIS
    generalize lastW k i j L (begun k) = z at HW ⊢
    have hbl := h.blk.lt
    clear h hi hlog
    go_enter Try.func24, Try.ntmps24
    go_wp2_with fail
    refine (HIS _ (by exact below_new)).mono ?_
    rintro e w1 ⟨rfl, hb⟩
    have hA : Blk w1 w.heap.size 24 #[.int .i64 k, .int .i64 i, .int .i64 j] := (Blk.new w _ _).below hb (by simp)
    have a0 : w1.cell? ⟨w.heap.size, 0, none⟩ = some (.int .i64 k) := (hA.cell 0).trans rfl
    have a1 : w1.cell? ⟨w.heap.size, 1, none⟩ = some (.int .i64 i) := (hA.cell 1).trans rfl
    have a2 : w1.cell? ⟨w.heap.size, 2, none⟩ = some (.int .i64 j) := (hA.cell 2).trans rfl
    have hbx : Below w.heap.size w w1 := below_new.trans (hb.mono (by simp))
    clear hA hb
    go_wp2_with fail
    refine (HW _ (by repeat (first | with_reducible exact hbx | with_reducible refine Below.drew ?_ | with_reducible refine below_drewN ?_ _ | ((with_reducible refine Below.alloc ?_ ?_ _); (rotate_left; focus (first | with_reducible exact Nat.le_refl _ | omega | (simp; done) | (simp; omega) | (simp [World.setCell]; done) | (simp [World.setCell]; omega)))) | ((with_reducible refine Below.setCell ?_ ?_ _); (rotate_left; focus (first | with_reducible exact Nat.le_refl _ | omega | (simp; done) | (simp; omega) | (simp [World.setCell]; done) | (simp [World.setCell]; omega))))))).mono ?_
    rintro e w2 ⟨rfl, hb2⟩
    go_wp2_with fail
    go_ret2
    exact ⟨rfl, hbx.trans (hb2.mono hbx.size)⟩
  · rw [if_neg hi, if_neg hi]
    rw [show decide (isW C R k i j) = false by simp [hi]] at HIS
    clear h hi HW hlog
    go_enter Try.func24, Try.ntmps24
    go_wp2_with fail
    refine (HIS _ (by exact below_new)).mono ?_
    rintro e w1 ⟨rfl, hb⟩
    go_wp2_with fail
    go_ret2
    exact ⟨rfl, below_new.trans (hb.mono (by simp))⟩

set_option maxHeartbeats 4000000 in
theorem rload_yes {w : World} {base b C R : Nat} {lv : Value} {L : List Acc} (h : RIs w base b lv C R L) (t k i j V : Int) (hi : isW C R k i j) (hlog : L.length ≤ 2199023255550) (hV : V = lastW k i j L (begun k)) :
    Calls Try.prog 21 #[.pointer (some ⟨b, 0, none⟩), .int .i64 t, .agg #[.int .i64 k, .int .i64 i, .int .i64 j]] w (RPost base b C R lv L (.tuple #[.int .i64 V, .int .i64 0]) ⟨t, 1, k, i, j, 0, V, false⟩ w) := by
  obtain ⟨i0, hi0, hz0, hz1, hz2⟩ := info_parts info_acc
  have HIS := fun W (hW : Below w.heap.size w W) => is_any (h.below hW) k i j
  have HWD := fun W (hW : Below w.heap.size w W) => rword_any (h.below hW) k i j hlog
  rw [show decide (isW C R k i j) = true by simp [hi]] at HIS
  rw [← hV] at HWD
  obtain ⟨n, hn⟩ : ∃ n, n = L.length := ⟨_, rfl⟩
  have HN := Lib.hid hn
  have hm1 : n + 1 ≤ maxLen := by unfold maxLen; omega
  have hnb : (n + 1) * 64 ≤ 140737488355328 := by omega
  have H := Lib.hid h
  have hbl := h.blk.lt
  have hbase : base ≤ w.heap.size := by have := h.b0; omega
  obtain ⟨Rl, rc, hlv, -, -⟩ := own_shapes h.log
  rw [← hn] at hlv
  clear h hi hV hn hlog
  go_enter Try.func21, Try.ntmps21
  go_wp2_with fail
  refine (HIS _ (by exact below_new)).mono ?_
  rintro e w1 ⟨rfl, hb⟩
  have hA : Blk w1 w.heap.size 24 #[.int .i64 k, .int .i64 i, .int .i64 j] := (Blk.new w _ _).below hb (by simp)
  have hal := hA.lt
  have a0 : w1.cell? ⟨w.heap.size, 0, none⟩ = some (.int .i64 k) := (hA.cell 0).trans rfl
  have a1 : w1.cell? ⟨w.heap.size, 1, none⟩ = some (.int .i64 i) := (hA.cell 1).trans rfl
  have a2 : w1.cell? ⟨w.heap.size, 2, none⟩ = some (.int .i64 j) := (hA.cell 2).trans rfl
  have hbx : Below w.heap.size w w1 := below_new.trans (hb.mono (by simp))
  have hR1 := H.out.below hbx
  have hown := hR1.log
  rw [← HN.out] at hown
  have cl : w1.cell? ⟨b, 2, none⟩ = some lv := (hR1.blk.cell 2).trans rfl
  have fl : w1.frozen? ⟨b, 2, none⟩ = false := hR1.blk.frozen 2
  have nb : lv.ownBlock ≠ some b := own_blk_ne hR1.log hR1.blk (by decide)
  have hbl1 : b < w1.heap.size := by have := hbx.size; omega
  have hbs1 : base ≤ w1.heap.size := by have := hbx.size; omega
  subst hlv
  clear hb hR1 HIS
  go_wp2_with fail
  refine (HWD _ (by repeat (first | with_reducible exact hbx | with_reducible refine Below.drew ?_ | with_reducible refine below_drewN ?_ _ | ((with_reducible refine Below.alloc ?_ ?_ _); (rotate_left; focus (first | with_reducible exact Nat.le_refl _ | omega | (simp; done) | (simp; omega) | (simp [World.setCell]; done) | (simp [World.setCell]; omega)))) | ((with_reducible refine Below.setCell ?_ ?_ _); (rotate_left; focus (first | with_reducible exact Nat.le_refl _ | omega | (simp; done) | (simp; omega) | (simp [World.setCell]; done) | (simp [World.setCell]; omega))))))).mono ?_
  rintro e w2 ⟨rfl, hb2⟩
  have hA2 := hA.below hb2 hal
  have a0' : w2.cell? ⟨w.heap.size, 0, none⟩ = some (.int .i64 k) := (hA2.cell 0).trans rfl
  have a1' : w2.cell? ⟨w.heap.size, 1, none⟩ = some (.int .i64 i) := (hA2.cell 1).trans rfl
  have a2' : w2.cell? ⟨w.heap.size, 2, none⟩ = some (.int .i64 j) := (hA2.cell 2).trans rfl
  have hbx2 := hbx.trans (hb2.mono hbx.size)
  have hR2 := H.out.below hbx2
  have hown2 := hR2.log
  rw [← HN.out] at hown2
  have cl2 := (hb2.cell (p := ⟨b, 2, none⟩) hbl1).trans cl
  have fl2 := (hb2.frozen (p := ⟨b, 2, none⟩) hbl1).trans fl
  have hal2 := hA2.lt
  have hbl2 : b < w2.heap.size := by have := hbx2.size; omega
  have hbs2 : base ≤ w2.heap.size := by have := hbx2.size; omega
  clear a0 a1 a2 hA hbx hown cl fl hal hbl1 hbs1 hb2 hR2
  have hA := hA2
  have a0 := a0'
  have a1 := a1'
  have a2 := a2'
  have hbx := hbx2
  have hown := hown2
  have cl := cl2
  have fl := fl2
  have hal := hal2
  have hbl1 := hbl2
  have hbs1 := hbs2
  clear hA2 a0' a1' a2' hbx2 hown2 cl2 fl2 hal2 hbl2 hbs2
  have HBX := Lib.hid hbx
  have HA := Lib.hid hA
  clear hA hbx HWD
  go_wp2_with fail
  go_region_law
    ((refine step_append_lies _ (by rfl) _ _ _ (by rfl) base 44 i0 _ 8 64 Try.underlying41 hi0 hz0 hz1 hz2 rfl (by omega) (.slice Rl n rc) n (accs L) (by rfl) (show _ from hown.alloc _)
        ⟨w2.heap.size, 0, none⟩ 1 1 [.int .i64 t, .int .i64 1, .int .i64 k, .int .i64 i, .int .i64 j, .int .i64 0, .int .i64 V, .bool false] (by rfl) (by rfl) (World.news_of_block (cs := #[.int .i64 t, .int .i64 1, .int .i64 k, .int .i64 i, .int .i64 j, .int .i64 0, .int .i64 V, .bool false]) (t := 44) (fr := (0, 0)) (heap_alloc_new w2 _)) (by simp [Value.oneCell'])
        (by omega) hm1 hnb (by simp; omega) (w2.heap.size + 1) (by simp) ?_; intro gg cap w3 hown3 hgrow hat hlt; have fl3 : w3.frozen? ⟨b, 2, none⟩ = false := (hgrow.frozen_far ⟨b, 2, none⟩ (by simp; omega) (Ne.symm nb)).trans ((frozen?_alloc_cells w2 _ _ ⟨b, 2, none⟩).trans fl); have cl3 : w3.cell? ⟨b, 2, none⟩ = some (.slice Rl n rc) := (hgrow.cell_far ⟨b, 2, none⟩ (by simp; omega) (Ne.symm nb)).trans ((World.cell?_alloc_lt w2 _ ⟨b, 2, none⟩ hbl1).trans cl)))
  all_goals
    have hfin := RIs.logged (x := ⟨t, 1, k, i, j, 0, V, false⟩) (H.out) HN.out (by first | exact (HBX.out.alloc (by have := HBX.out.size; omega) _).drew | exact HBX.out.alloc (by have := HBX.out.size; omega) _ | exact below_drewN (HBX.out.alloc (by have := HBX.out.size; omega) _) _) hgrow hown3 (by rcases hat with e | e; exact .inl e.symm; exact .inr ⟨gg, rfl, by have := HBX.out.size; omega⟩)
    have HFIN := Lib.hid hfin
    have hbl3 : b < w3.heap.size := by have := hgrow.size; simp at this; omega
    clear hfin hgrow hown3 hown
    go_wp2_with fail
    go_ret2
    exact ⟨_, rfl, HFIN.out⟩

set_option maxHeartbeats 4000000 in
theorem rstore_yes {w : World} {base b C R : Nat} {lv : Value} {L : List Acc} (h : RIs w base b lv C R L) (t k i j v : Int) (hi : isW C R k i j) (hlog : L.length ≤ 2199023255550) :
    Calls Try.prog 22 #[.pointer (some ⟨b, 0, none⟩), .int .i64 t, .agg #[.int .i64 k, .int .i64 i, .int .i64 j], .int .i64 v] w (RPost base b C R lv L (.int .i64 0) ⟨t, 2, k, i, j, 0, v, false⟩ w) := by
  obtain ⟨V, hV⟩ : ∃ V, V = lastW k i j L (begun k) := ⟨_, rfl⟩
  obtain ⟨i0, hi0, hz0, hz1, hz2⟩ := info_parts info_acc
  have HIS := fun W (hW : Below w.heap.size w W) => is_any (h.below hW) k i j
  have HWD := fun W (hW : Below w.heap.size w W) => rword_any (h.below hW) k i j hlog
  rw [show decide (isW C R k i j) = true by simp [hi]] at HIS
  rw [← hV] at HWD
  obtain ⟨n, hn⟩ : ∃ n, n = L.length := ⟨_, rfl⟩
  have HN := Lib.hid hn
  have hm1 : n + 1 ≤ maxLen := by unfold maxLen; omega
  have hnb : (n + 1) * 64 ≤ 140737488355328 := by omega
  have H := Lib.hid h
  have hbl := h.blk.lt
  have hbase : base ≤ w.heap.size := by have := h.b0; omega
  obtain ⟨Rl, rc, hlv, -, -⟩ := own_shapes h.log
  rw [← hn] at hlv
  clear h hi hV hn hlog
  go_enter Try.func22, Try.ntmps22
  go_wp2_with fail
  refine (HIS _ (by exact below_new)).mono ?_
  rintro e w1 ⟨rfl, hb⟩
  have hA : Blk w1 w.heap.size 24 #[.int .i64 k, .int .i64 i, .int .i64 j] := (Blk.new w _ _).below hb (by simp)
  have hal := hA.lt
  have a0 : w1.cell? ⟨w.heap.size, 0, none⟩ = some (.int .i64 k) := (hA.cell 0).trans rfl
  have a1 : w1.cell? ⟨w.heap.size, 1, none⟩ = some (.int .i64 i) := (hA.cell 1).trans rfl
  have a2 : w1.cell? ⟨w.heap.size, 2, none⟩ = some (.int .i64 j) := (hA.cell 2).trans rfl
  have hbx : Below w.heap.size w w1 := below_new.trans (hb.mono (by simp))
  have hR1 := H.out.below hbx
  have hown := hR1.log
  rw [← HN.out] at hown
  have cl : w1.cell? ⟨b, 2, none⟩ = some lv := (hR1.blk.cell 2).trans rfl
  have fl : w1.frozen? ⟨b, 2, none⟩ = false := hR1.blk.frozen 2
  have nb : lv.ownBlock ≠ some b := own_blk_ne hR1.log hR1.blk (by decide)
  have hbl1 : b < w1.heap.size := by have := hbx.size; omega
  have hbs1 : base ≤ w1.heap.size := by have := hbx.size; omega
  subst hlv
  clear hb hR1 HIS
  have HBX := Lib.hid hbx
  have HA := Lib.hid hA
  clear hA hbx HWD
  go_wp2_with fail
  go_region_law
    ((refine step_append_lies _ (by rfl) _ _ _ (by rfl) base 44 i0 _ 8 64 Try.underlying41 hi0 hz0 hz1 hz2 rfl (by omega) (.slice Rl n rc) n (accs L) (by rfl) (show _ from hown.alloc _)
        ⟨w1.heap.size, 0, none⟩ 1 1 [.int .i64 t, .int .i64 2, .int .i64 k, .int .i64 i, .int .i64 j, .int .i64 0, .int .i64 v, .bool false] (by rfl) (by rfl) (World.news_of_block (cs := #[.int .i64 t, .int .i64 2, .int .i64 k, .int .i64 i, .int .i64 j, .int .i64 0, .int .i64 v, .bool false]) (t := 44) (fr := (0, 0)) (heap_alloc_new w1 _)) (by simp [Value.oneCell'])
        (by omega) hm1 hnb (by simp; omega) (w1.heap.size + 1) (by simp) ?_; intro gg cap w3 hown3 hgrow hat hlt; have fl3 : w3.frozen? ⟨b, 2, none⟩ = false := (hgrow.frozen_far ⟨b, 2, none⟩ (by simp; omega) (Ne.symm nb)).trans ((frozen?_alloc_cells w1 _ _ ⟨b, 2, none⟩).trans fl); have cl3 : w3.cell? ⟨b, 2, none⟩ = some (.slice Rl n rc) := (hgrow.cell_far ⟨b, 2, none⟩ (by simp; omega) (Ne.symm nb)).trans ((World.cell?_alloc_lt w1 _ ⟨b, 2, none⟩ hbl1).trans cl)))
  all_goals
    have hfin := RIs.logged (x := ⟨t, 2, k, i, j, 0, v, false⟩) (H.out) HN.out (by first | exact (HBX.out.alloc (by have := HBX.out.size; omega) _).drew | exact HBX.out.alloc (by have := HBX.out.size; omega) _ | exact below_drewN (HBX.out.alloc (by have := HBX.out.size; omega) _) _) hgrow hown3 (by rcases hat with e | e; exact .inl e.symm; exact .inr ⟨gg, rfl, by have := HBX.out.size; omega⟩)
    have HFIN := Lib.hid hfin
    have hbl3 : b < w3.heap.size := by have := hgrow.size; simp at this; omega
    clear hfin hgrow hown3 hown
    go_wp2_with fail
    go_ret
    exact ⟨_, rfl, HFIN.out⟩

set_option maxHeartbeats 4000000 in
theorem rswap_yes {w : World} {base b C R : Nat} {lv : Value} {L : List Acc} (h : RIs w base b lv C R L) (t k i j o v V : Int) (y : Bool) (hi : isW C R k i j) (hlog : L.length ≤ 2199023255550) (hV : V = lastW k i j L (begun k)) (hy : (V == o) = y) :
    Calls Try.prog 23 #[.pointer (some ⟨b, 0, none⟩), .int .i64 t, .agg #[.int .i64 k, .int .i64 i, .int .i64 j], .int .i64 o, .int .i64 v] w (RPost base b C R lv L (.tuple #[.bool y, .int .i64 0]) ⟨t, 3, k, i, j, o, v, y⟩ w) := by
  obtain ⟨i0, hi0, hz0, hz1, hz2⟩ := info_parts info_acc
  have HIS := fun W (hW : Below w.heap.size w W) => is_any (h.below hW) k i j
  have HWD := fun W (hW : Below w.heap.size w W) => rword_any (h.below hW) k i j hlog
  rw [show decide (isW C R k i j) = true by simp [hi]] at HIS
  rw [← hV] at HWD
  obtain ⟨n, hn⟩ : ∃ n, n = L.length := ⟨_, rfl⟩
  have HN := Lib.hid hn
  have hm1 : n + 1 ≤ maxLen := by unfold maxLen; omega
  have hnb : (n + 1) * 64 ≤ 140737488355328 := by omega
  have H := Lib.hid h
  have hbl := h.blk.lt
  have hbase : base ≤ w.heap.size := by have := h.b0; omega
  obtain ⟨Rl, rc, hlv, -, -⟩ := own_shapes h.log
  rw [← hn] at hlv
  clear h hi hV hn hlog
  go_enter Try.func23, Try.ntmps23
  go_wp2_with fail
  refine (HIS _ (by exact below_new)).mono ?_
  rintro e w1 ⟨rfl, hb⟩
  have hA : Blk w1 w.heap.size 24 #[.int .i64 k, .int .i64 i, .int .i64 j] := (Blk.new w _ _).below hb (by simp)
  have hal := hA.lt
  have a0 : w1.cell? ⟨w.heap.size, 0, none⟩ = some (.int .i64 k) := (hA.cell 0).trans rfl
  have a1 : w1.cell? ⟨w.heap.size, 1, none⟩ = some (.int .i64 i) := (hA.cell 1).trans rfl
  have a2 : w1.cell? ⟨w.heap.size, 2, none⟩ = some (.int .i64 j) := (hA.cell 2).trans rfl
  have hbx : Below w.heap.size w w1 := below_new.trans (hb.mono (by simp))
  have hR1 := H.out.below hbx
  have hown := hR1.log
  rw [← HN.out] at hown
  have cl : w1.cell? ⟨b, 2, none⟩ = some lv := (hR1.blk.cell 2).trans rfl
  have fl : w1.frozen? ⟨b, 2, none⟩ = false := hR1.blk.frozen 2
  have nb : lv.ownBlock ≠ some b := own_blk_ne hR1.log hR1.blk (by decide)
  have hbl1 : b < w1.heap.size := by have := hbx.size; omega
  have hbs1 : base ≤ w1.heap.size := by have := hbx.size; omega
  subst hlv
  clear hb hR1 HIS
  go_wp2_with fail
  refine (HWD _ (by repeat (first | with_reducible exact hbx | with_reducible refine Below.drew ?_ | with_reducible refine below_drewN ?_ _ | ((with_reducible refine Below.alloc ?_ ?_ _); (rotate_left; focus (first | with_reducible exact Nat.le_refl _ | omega | (simp; done) | (simp; omega) | (simp [World.setCell]; done) | (simp [World.setCell]; omega)))) | ((with_reducible refine Below.setCell ?_ ?_ _); (rotate_left; focus (first | with_reducible exact Nat.le_refl _ | omega | (simp; done) | (simp; omega) | (simp [World.setCell]; done) | (simp [World.setCell]; omega))))))).mono ?_
  rintro e w2 ⟨rfl, hb2⟩
  have hA2 := hA.below hb2 hal
  have a0' : w2.cell? ⟨w.heap.size, 0, none⟩ = some (.int .i64 k) := (hA2.cell 0).trans rfl
  have a1' : w2.cell? ⟨w.heap.size, 1, none⟩ = some (.int .i64 i) := (hA2.cell 1).trans rfl
  have a2' : w2.cell? ⟨w.heap.size, 2, none⟩ = some (.int .i64 j) := (hA2.cell 2).trans rfl
  have hbx2 := hbx.trans (hb2.mono hbx.size)
  have hR2 := H.out.below hbx2
  have hown2 := hR2.log
  rw [← HN.out] at hown2
  have cl2 := (hb2.cell (p := ⟨b, 2, none⟩) hbl1).trans cl
  have fl2 := (hb2.frozen (p := ⟨b, 2, none⟩) hbl1).trans fl
  have hal2 := hA2.lt
  have hbl2 : b < w2.heap.size := by have := hbx2.size; omega
  have hbs2 : base ≤ w2.heap.size := by have := hbx2.size; omega
  clear a0 a1 a2 hA hbx hown cl fl hal hbl1 hbs1 hb2 hR2
  have hA := hA2
  have a0 := a0'
  have a1 := a1'
  have a2 := a2'
  have hbx := hbx2
  have hown := hown2
  have cl := cl2
  have fl := fl2
  have hal := hal2
  have hbl1 := hbl2
  have hbs1 := hbs2
  clear hA2 a0' a1' a2' hbx2 hown2 cl2 fl2 hal2 hbl2 hbs2
  have HBX := Lib.hid hbx
  have HA := Lib.hid hA
  clear hA hbx HWD
  go_wp2_with fail
  go_region_law
    ((refine step_append_lies _ (by rfl) _ _ _ (by rfl) base 44 i0 _ 8 64 Try.underlying41 hi0 hz0 hz1 hz2 rfl (by omega) (.slice Rl n rc) n (accs L) (by rfl) (show _ from hown.alloc _)
        ⟨w2.heap.size, 0, none⟩ 1 1 [.int .i64 t, .int .i64 3, .int .i64 k, .int .i64 i, .int .i64 j, .int .i64 o, .int .i64 v, .bool y] (by rfl) (by rfl) (World.news_of_block (cs := #[.int .i64 t, .int .i64 3, .int .i64 k, .int .i64 i, .int .i64 j, .int .i64 o, .int .i64 v, .bool y]) (t := 44) (fr := (0, 0)) (heap_alloc_new w2 _)) (by simp [Value.oneCell'])
        (by omega) hm1 hnb (by simp; omega) (w2.heap.size + 1) (by simp) ?_; intro gg cap w3 hown3 hgrow hat hlt; have fl3 : w3.frozen? ⟨b, 2, none⟩ = false := (hgrow.frozen_far ⟨b, 2, none⟩ (by simp; omega) (Ne.symm nb)).trans ((frozen?_alloc_cells w2 _ _ ⟨b, 2, none⟩).trans fl); have cl3 : w3.cell? ⟨b, 2, none⟩ = some (.slice Rl n rc) := (hgrow.cell_far ⟨b, 2, none⟩ (by simp; omega) (Ne.symm nb)).trans ((World.cell?_alloc_lt w2 _ ⟨b, 2, none⟩ hbl1).trans cl)))
  all_goals
    have hfin := RIs.logged (x := ⟨t, 3, k, i, j, o, v, y⟩) (H.out) HN.out (by first | exact (HBX.out.alloc (by have := HBX.out.size; omega) _).drew | exact HBX.out.alloc (by have := HBX.out.size; omega) _ | exact below_drewN (HBX.out.alloc (by have := HBX.out.size; omega) _) _) hgrow hown3 (by rcases hat with e | e; exact .inl e.symm; exact .inr ⟨gg, rfl, by have := HBX.out.size; omega⟩)
    have HFIN := Lib.hid hfin
    have hbl3 : b < w3.heap.size := by have := hgrow.size; simp at this; omega
    clear hfin hgrow hown3 hown
    go_wp2_with fail
    go_ret2
    exact ⟨_, rfl, HFIN.out⟩

theorem rnew_any (C R : Nat) (w : World) : Calls Try.prog 15 #[.int .i64 C, .int .i64 R] w fun e w' => ∃ b, e = .returned (.pointer (some ⟨b, 0, none⟩)) ∧ RIs w' w.heap.size b (.slice none 0 0) C R [] ∧ Below w.heap.size w w' := by
  go_enter Try.func15, Try.ntmps15
  go_wp2_with fail
  go_ret
  exact ⟨_, rfl, ⟨by first | exact Blk.new _ _ _ | exact (Blk.new _ _ _).drewN _, World.ownsRow_nil _ _ _ _, Nat.le_refl _⟩, by repeat (first | with_reducible exact Below.refl _ _ | with_reducible refine Below.drew ?_ | with_reducible refine below_drewN ?_ _ | ((with_reducible refine Below.alloc ?_ ?_ _); (rotate_left; focus (first | with_reducible exact Nat.le_refl _ | omega | (simp; done) | (simp; omega) | (simp [World.setCell]; done) | (simp [World.setCell]; omega)))) | ((with_reducible refine Below.setCell ?_ ?_ _); (rotate_left; focus (first | with_reducible exact Nat.le_refl _ | omega | (simp; done) | (simp; omega) | (simp [World.setCell]; done) | (simp [World.setCell]; omega)))))⟩
end Go.Proofs.Ytnpeldbnnneijaa
