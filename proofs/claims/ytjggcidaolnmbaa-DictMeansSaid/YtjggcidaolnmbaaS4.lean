/- What dict.Shape does. -/
import Derived.Test.YtjggcidaolnmbaaS3
import Derived.Test.YtjggcidaolnmbaaSort
import Derived.Test.YtjggcidaolnmbaaDr1
import Derived.Deep.RegionLaw
import Derived.Deep.AppendLies
import Derived.Deep.LoopGhost
import Derived.BigQuiet
import Derived.Deep.QuietTactic
namespace Go.Proofs.Ytjggcidaolnmbaa
open Go.RowKit Go.Joins Go.ChangeShapes Go.WideShapes Go.Deep
set_option linter.unusedVariables false
set_option maxRecDepth 100000

theorem info_pair : (Try.prog.info? 54).map (fun i => (i.zero, i.size, i.bytes)) = some (some (.agg #[.int .i64 0, .int .i64 0]), 2, 16) := by kernel_rfl
def ShapePost (r : Int × Int × List (Int × Int)) (w : World) : Ending → World → Prop := fun e w' =>
  ∃ pv, e = .returned (.tuple #[.agg #[.int .i64 r.1, .slice none 0 0, pv], .int .i64 r.2.1]) ∧ w'.ownsRow w.heap.size 54 2 pv r.2.2.length (prs r.2.2) ∧ Below w.heap.size w w'

theorem shapeR_no {most : Int} {cs : List Int} (h : ¬ (0 ≤ most ∧ most ≤ 16 ∧ (cs.length : Int) = 3 * most + 1)) : shapeR most cs = (0, 1, []) := by simp [shapeR, h]
theorem shapeR_none {m : Nat} {cs : List Int} (hm : m ≤ 16) (hl : cs.length = 3 * m + 1) (h : accF m cs m = none) : shapeR m cs = (0, 12, []) := by
  unfold shapeR
  rw [if_pos (by omega)]
  simp [h]
theorem shapeR_some {m : Nat} {cs : List Int} {l : List (Int × Int)} (hm : m ≤ 16) (hl : cs.length = 3 * m + 1) (h : accF m cs m = some l) : shapeR m cs = if cnt cs = (l.length : Int) then (3, 0, sortI l) else (0, 12, []) := by
  unfold shapeR
  rw [if_pos (by omega)]
  simp [h]

theorem dshape_no (most : Int) (cs : List Int) (A : Option Addr) (n nc : Nat) (w : World) (hl : cs.length = n) (hno : ¬ (0 ≤ most ∧ most ≤ 16 ∧ (cs.length : Int) = 3 * most + 1)) :
    Calls Try.prog 22 #[.int .i64 most, .slice A n nc] w (ShapePost (shapeR most cs) w) := by
  rw [shapeR_no hno]
  by_cases h1 : most < 0
  · have e1 : decide (most < 0) = true := by simp [h1]
    clear hno
    go_enter Try.func22, Try.ntmps22
    go_wp2_with fail
    refine bodyPost_ret (v := .tuple #[.agg #[.int .i64 0, .slice none 0 0, .slice none 0 0], .int .i64 1]) (by simp [results, Try.results22, go_sem]) rfl ?_
    exact ⟨_, rfl, World.ownsRow_nil _ _ _ _, by repeat (first | with_reducible exact Below.refl _ _ | with_reducible refine Below.drew ?_ | with_reducible refine below_drewN ?_ _ | ((with_reducible refine Below.alloc ?_ ?_ _); (rotate_left; focus (first | with_reducible exact Nat.le_refl _ | omega | (simp; done) | (simp; omega) | (simp [World.setCell]; done) | (simp [World.setCell]; omega)))) | ((with_reducible refine Below.setCell ?_ ?_ _); (rotate_left; focus (first | with_reducible exact Nat.le_refl _ | omega | (simp; done) | (simp; omega) | (simp [World.setCell]; done) | (simp [World.setCell]; omega)))))⟩
  · have e1 : decide (most < 0) = false := by simpa using h1
    by_cases h2 : 16 < most
    · have e2 : decide (16 < most) = true := by simp [h2]
      clear hno
      go_enter Try.func22, Try.ntmps22
      go_wp2_with fail
      refine bodyPost_ret (v := .tuple #[.agg #[.int .i64 0, .slice none 0 0, .slice none 0 0], .int .i64 1]) (by simp [results, Try.results22, go_sem]) rfl ?_
      exact ⟨_, rfl, World.ownsRow_nil _ _ _ _, by repeat (first | with_reducible exact Below.refl _ _ | with_reducible refine Below.drew ?_ | with_reducible refine below_drewN ?_ _ | ((with_reducible refine Below.alloc ?_ ?_ _); (rotate_left; focus (first | with_reducible exact Nat.le_refl _ | omega | (simp; done) | (simp; omega) | (simp [World.setCell]; done) | (simp [World.setCell]; omega)))) | ((with_reducible refine Below.setCell ?_ ?_ _); (rotate_left; focus (first | with_reducible exact Nat.le_refl _ | omega | (simp; done) | (simp; omega) | (simp [World.setCell]; done) | (simp [World.setCell]; omega)))))⟩
    · have e2 : decide (16 < most) = false := by simpa using h2
      have e3 : ((n : Int) != 3 * most + 1) = true := by simp; intro e; exact hno ⟨by omega, by omega, by omega⟩
      clear hno
      go_enter Try.func22, Try.ntmps22
      go_wp2_with fail
      refine (size_any most _ (by omega) (by omega)).mono ?_
      rintro e w1 ⟨rfl, rfl⟩
      go_wp2_with fail
      refine bodyPost_ret (v := .tuple #[.agg #[.int .i64 0, .slice none 0 0, .slice none 0 0], .int .i64 1]) (by simp [results, Try.results22, go_sem]) rfl ?_
      exact ⟨_, rfl, World.ownsRow_nil _ _ _ _, by repeat (first | with_reducible exact Below.refl _ _ | with_reducible refine Below.drew ?_ | with_reducible refine below_drewN ?_ _ | ((with_reducible refine Below.alloc ?_ ?_ _); (rotate_left; focus (first | with_reducible exact Nat.le_refl _ | omega | (simp; done) | (simp; omega) | (simp [World.setCell]; done) | (simp [World.setCell]; omega)))) | ((with_reducible refine Below.setCell ?_ ?_ _); (rotate_left; focus (first | with_reducible exact Nat.le_refl _ | omega | (simp; done) | (simp; omega) | (simp [World.setCell]; done) | (simp [World.setCell]; omega)))))⟩

theorem below_new {w : World} {o : Obj} : Below w.heap.size w (w.alloc o) := (Below.refl _ _).alloc (Nat.le_refl _) _
theorem own_drewN {w : World} {B e n size k : Nat} {v : Value} {xs : List Value} (h : w.ownsRow B e size v n xs) : (w.drewN k).ownsRow B e size v n xs := h
theorem own_base2 {w : World} {B B' e n size : Nat} {v : Value} {xs : List Value} (h : w.ownsRow B e size v n xs) (hB : B' ≤ B) : w.ownsRow B' e size v n xs :=
  ⟨h.1, h.2.imp id fun ⟨g, cap, cur, hv, hg, r⟩ => ⟨g, cap, cur, hv, Nat.le_trans hB hg, r⟩⟩
/-- An owned row as a slice that reads. -/
theorem own_shapes {w : World} {B e n size : Nat} {v : Value} {xs : List Value} (h : w.ownsRow B e size v n xs) : ∃ R c, v = .slice R n c ∧ n ≤ c ∧ Reads w w.heap.size size R n xs := by
  rcases h.2 with ⟨rfl, rfl⟩ | ⟨g, cap, cur, rfl, hg, hh, hn, _⟩
  · exact ⟨none, 0, rfl, Nat.le_refl _, Reads.of_own h⟩
  · exact ⟨_, cap, rfl, hn, Reads.of_own h⟩
theorem shape_snoc {w wr W4 w2 : World} {pv pv' : Value} {l : List (Int × Int)} {p : Int × Int} {z : Array Value} (hb : Below wr.heap.size wr W4) (hgrow : W4.grownBy w2 pv.ownBlock) (hown1 : w2.ownsRow (w.heap.size + 2) 54 2 pv' (l.length + 1) (prs l ++ [.int .i64 p.1, .int .i64 p.2]))
    (ho : ∀ q, pv.ownBlock = some q → w.heap.size + 2 ≤ q) (h0 : Blk wr w.heap.size 47 z) (h1 : Blk wr (w.heap.size + 1) 47 #[.int .i64 3, .slice none 0 0, pv]) (hbel : Below w.heap.size w wr) :
    (w2.setCell ⟨w.heap.size + 1, 2, none⟩ pv').ownsRow (w.heap.size + 2) 54 2 pv' (l ++ [p]).length (prs (l ++ [p])) ∧ Blk (w2.setCell ⟨w.heap.size + 1, 2, none⟩ pv') w.heap.size 47 z ∧
      Blk (w2.setCell ⟨w.heap.size + 1, 2, none⟩ pv') (w.heap.size + 1) 47 #[.int .i64 3, .slice none 0 0, pv'] ∧ Below w.heap.size w (w2.setCell ⟨w.heap.size + 1, 2, none⟩ pv') := by
  have h02 := (h0.below hb h0.lt).grown hgrow (fun e => by have := ho _ e.symm; omega)
  have h12 := (h1.below hb h1.lt).grown hgrow (fun e => by have := ho _ e.symm; omega)
  have hs := hbel.size
  refine ⟨?_, h02.far (p := ⟨w.heap.size + 1, 2, none⟩) (by simp) _, h12.set_ 2 pv', Below.setCell ?_ (by simp) _⟩
  · rw [List.length_append, show prs (l ++ [p]) = prs l ++ [.int .i64 p.1, .int .i64 p.2] from rows_snoc prc l p]
    exact ownsRow_setCell_below hown1 (by simp) _
  · exact (hbel.trans (hb.mono hs)).trans ⟨hgrow.os, hgrow.tape, hgrow.output, hgrow.size, fun q hq => hgrow.block q (by have := hb.size; omega) (fun e => by have := ho _ e.symm; omega)⟩

def RelS (m : Nat) (cs : List Int) (w : World) (gk : Nat) (i : Value) (wr : World) : Prop :=
  ∃ (k : Nat) (pv : Value) (l : List (Int × Int)), i = .int .i64 k ∧ k ≤ m ∧ gk = m - k ∧ accF m cs k = some l ∧ wr.ownsRow (w.heap.size + 2) 54 2 pv l.length (prs l) ∧
    Blk wr w.heap.size 47 #[.int .i64 0, .slice none 0 0, .slice none 0 0] ∧ Blk wr (w.heap.size + 1) 47 #[.int .i64 3, .slice none 0 0, pv] ∧ Below w.heap.size w wr

set_option maxHeartbeats 8000000 in
theorem dshape_yes (m : Nat) (cs : List Int) (A : Option Addr) (n nc : Nat) (w : World) (hm16 : m ≤ 16) (hl : cs.length = 3 * m + 1) (hn : n = 3 * m + 1) (hA : Reads w w.heap.size 1 A n (ints cs)) :
    Calls Try.prog 22 #[.int .i64 m, .slice A n nc] w (ShapePost (shapeR m cs) w) := by
  obtain ⟨b, off, rfl, hb, hc⟩ := hA.flat (by omega)
  obtain ⟨i0, hi0, hz0, hz1, hz2⟩ := info_parts info_pair
  have e1 : decide ((m : Int) < 0) = false := by simp
  have e2 : decide (16 < (m : Int)) = false := by simp; omega
  have e3 : ((n : Int) != 3 * (m : Int) + 1) = false := by simp; omega
  have HSZ := size_any (m : Int)
  have HL := Lib.hid hl
  have HN := Lib.hid hn
  have HC := Lib.hid hc
  have HA := Lib.hid hA
  have hn0 : (0 : Int) < (n : Int) := by omega
  clear hc hl hn hA
  go_enter Try.func22, Try.ntmps22
  go_wp2_with fail
  refine (HSZ _ (by omega) (by omega)).mono ?_
  rintro e w1 ⟨rfl, rfl⟩
  clear HSZ
  go_wp2_with fail
  clear e1 e2 e3
  go_loopg [24] m (fun gk i wr => RelS m cs w gk i wr)
  case atStart => exact ⟨0, .slice none 0 0, [], rfl, Nat.zero_le _, rfl, rfl, World.ownsRow_nil _ _ _ _, (Blk.new _ _ _).alloc _, Blk.new' (by simp), by repeat (first | with_reducible exact Below.refl _ _ | with_reducible refine Below.drew ?_ | with_reducible refine below_drewN ?_ _ | ((with_reducible refine Below.alloc ?_ ?_ _); (rotate_left; focus (first | with_reducible exact Nat.le_refl _ | omega | (simp; done) | (simp; omega) | (simp [World.setCell]; done) | (simp [World.setCell]; omega)))) | ((with_reducible refine Below.setCell ?_ ?_ _); (rotate_left; focus (first | with_reducible exact Nat.le_refl _ | omega | (simp; done) | (simp; omega) | (simp [World.setCell]; done) | (simp [World.setCell]; omega)))))⟩
  case round =>
    obtain ⟨k, pv, l, rfl, hk, hgk, hacc, hown, hB0, hB1, hbel⟩ := hrel
    have HG := Lib.hid hgk
    have HACC := Lib.hid hacc
    have p2 : wr.cell? ⟨w.heap.size + 1, 2, none⟩ = some pv := (hB1.cell 2).trans rfl
    have fp2 : wr.frozen? ⟨w.heap.size + 1, 2, none⟩ = false := hB1.frozen 2
    have hl1 := hB1.lt
    have hl0 := hB0.lt
    have hbl : b < wr.heap.size := by omega
    clear hgk hacc
    by_cases hkm : k < m
    · have HT := tab_cell HL.out HC.out hkm
      have HAT := at_any (k : Int)
      obtain ⟨Q, hQ⟩ : ∃ Q, Q = 1 + 3 * k := ⟨_, rfl⟩
      rw [← hQ] at HT
      rw [show (1 : Int) + 3 * (k : Int) = (Q : Int) by omega] at HAT
      obtain ⟨s0, s1, s2⟩ := HT
      have hq0 : (Q : Int) < (n : Int) := by have := HN.out; omega
      have hq1 : (Q : Int) + 1 < (n : Int) := by have := HN.out; omega
      have hq2 : (Q : Int) + 2 < (n : Int) := by have := HN.out; omega
      have g0 : wr.cell? ⟨b, off + Q, none⟩ = some (.int .i64 (st cs k)) := (hbel.cell (p := ⟨b, off + Q, none⟩) hb).trans s0
      have g1 : wr.cell? ⟨b, off + (Q + 1), none⟩ = some (.int .i64 (ky cs k)) := (hbel.cell (p := ⟨b, off + (Q + 1), none⟩) hb).trans s1
      have g2 : wr.cell? ⟨b, off + (Q + 2), none⟩ = some (.int .i64 (vl cs k)) := (hbel.cell (p := ⟨b, off + (Q + 2), none⟩) hb).trans s2
      obtain ⟨S, hS⟩ : ∃ S, S = st cs k := ⟨_, rfl⟩
      obtain ⟨Y, hY⟩ : ∃ Y, Y = ky cs k := ⟨_, rfl⟩
      obtain ⟨V, hV⟩ : ∃ V, V = vl cs k := ⟨_, rfl⟩
      rw [← hS] at g0
      rw [← hY] at g1
      rw [← hV] at g2
      have HS := Lib.hid hS
      have HY := Lib.hid hY
      have HV := Lib.hid hV
      have hQb : Q ≤ 46 := by omega
      clear s0 s1 s2 hQ hS hY hV
      go_wp2_with fail
      refine (HAT _ (by omega) (by omega)).mono ?_
      rintro e w1 ⟨rfl, rfl⟩
      by_cases h0 : S = 0
      · subst h0
        go_wp2_with fail
        go_roundg (m - (k + 1))
        case measure => have := HG.out; omega
        case rel =>
          refine ⟨k + 1, pv, l, by go_num, by omega, rfl, ?_, hown, hB0, hB1, hbel⟩
          unfold accF
          rw [HACC.out]
          simp only
          rw [if_neg (by rw [← HS.out]; decide), if_pos (.inl HS.out.symm)]
      · have e0 : (S == 0) = false := by simp [h0]
        by_cases h2 : S = 2
        · subst h2
          go_wp2_with fail
          go_roundg (m - (k + 1))
          case measure => have := HG.out; omega
          case rel =>
            refine ⟨k + 1, pv, l, by go_num, by omega, rfl, ?_, hown, hB0, hB1, hbel⟩
            unfold accF
            rw [HACC.out]
            simp only
            rw [if_neg (by rw [← HS.out]; decide), if_pos (.inr HS.out.symm)]
        · have e2 : (S == 2) = false := by simp [h2]
          by_cases h1 : S = 1
          · subst h1
            clear h0 h2
            go_wp2_with fail
            refine (reached_any m k cs (some ⟨b, off, none⟩) n nc w.heap.size _ (by omega) hm16 HL.out HN.out hkm (by exact HA.out.below hbel)).mono ?_
            rintro e w1 ⟨rfl, rfl⟩
            cases hr : reachF m cs k with
            | false =>
              have hnone : accF m cs (k + 1) = none := by
                unfold accF
                rw [HACC.out]
                simp only
                rw [if_pos HS.out.symm, if_neg (by rw [hr]; simp)]
              have HNONE := Lib.hid (shapeR_none hm16 HL.out (accF_none hnone m (by omega)))
              clear hnone hr
              have hn0 := hB0
              have n0 : wr.cell? ⟨w.heap.size, 0, none⟩ = some (.int .i64 0) := (hB0.cell 0).trans rfl
              have n1 : wr.cell? ⟨w.heap.size, 1, none⟩ = some (.slice none 0 0) := (hB0.cell 1).trans rfl
              have n2 : wr.cell? ⟨w.heap.size, 2, none⟩ = some (.slice none 0 0) := (hB0.cell 2).trans rfl
              have f0 : wr.frozen? ⟨w.heap.size, 0, none⟩ = false := hB0.frozen 0
              have f1 : wr.frozen? ⟨w.heap.size, 1, none⟩ = false := hB0.frozen 1
              have f2 : wr.frozen? ⟨w.heap.size, 2, none⟩ = false := hB0.frozen 2
              go_wp2_with fail
              refine bodyPost_ret (v := .tuple #[.agg #[.int .i64 0, .slice none 0 0, .slice none 0 0], .int .i64 12]) (by simp [results, Try.results22, go_sem, n0, n1, n2]) rfl ?_
              rw [HNONE.out]
              exact ⟨_, rfl, World.ownsRow_nil _ _ _ _, by repeat (first | with_reducible exact hbel | with_reducible refine Below.drew ?_ | with_reducible refine below_drewN ?_ _ | ((with_reducible refine Below.alloc ?_ ?_ _); (rotate_left; focus (first | with_reducible exact Nat.le_refl _ | omega | (simp; done) | (simp; omega) | (simp [World.setCell]; done) | (simp [World.setCell]; omega)))) | ((with_reducible refine Below.setCell ?_ ?_ _); (rotate_left; focus (first | with_reducible exact Nat.le_refl _ | omega | (simp; done) | (simp; omega) | (simp [World.setCell]; done) | (simp [World.setCell]; omega)))))⟩
            | true =>
              have hsome : accF m cs (k + 1) = some (l ++ [(Y, V)]) := by
                unfold accF
                rw [HACC.out]
                simp only
                rw [if_pos HS.out.symm, if_pos hr, HY.out, HV.out]
              have HSOME := Lib.hid hsome
              clear hr hsome
              have ns : pv.ownBlock ≠ some (w.heap.size + 1) := fun e => by have := (hown.lt _ e).1; omega
              have hll : l.length ≤ 16 := by have := (accF_keys m cs k l HACC.out).1; omega
              have hn1 : l.length + 1 ≤ maxLen := by unfold maxLen; omega
              have hnb : (l.length + 1) * 16 ≤ 140737488355328 := by omega
              have HB0 := Lib.hid hB0
              have HB1 := Lib.hid hB1
              have HBL := Lib.hid hbel
              have hwz := hbel.size
              have hw1 : IntKind.i64.wrap ((Q : Int) + 1) = (Q : Int) + 1 := IntWalk.i64_in _ ⟨by omega, by omega⟩
              have hw2 : IntKind.i64.wrap ((Q : Int) + 2) = (Q : Int) + 2 := IntWalk.i64_in _ ⟨by omega, by omega⟩
              have hw3 : (0 : Int) ≤ (Q : Int) + 1 := by omega
              have hw4 : (0 : Int) ≤ (Q : Int) + 2 := by omega
              have hw5 : ((Q : Int) + 1).toNat = Q + 1 := by omega
              have hw6 : ((Q : Int) + 2).toNat = Q + 2 := by omega
              clear hB0 hB1 hbel
              go_wp2_with fail
              go_region_law
                (first
                | (refine step_append_lies _ (by rfl) _ _ _ (by rfl) (w.heap.size + 2) 54 i0 _ 2 16 Try.underlying45 hi0 hz0 hz1 hz2 rfl (by omega) pv l.length (prs l) (by rfl) (show _ from hown.alloc _)
                    ⟨wr.heap.size, 0, none⟩ 1 1 [.int .i64 Y, .int .i64 V] (by rfl) (by rfl) (World.news_of_block (cs := #[.int .i64 Y, .int .i64 V]) (t := 54) (fr := (0, 0)) (heap_alloc_new wr _)) (by simp [Value.oneCell'])
                    (by omega) hn1 hnb (by simp; omega) (wr.heap.size + 1) (by simp) ?_; intro gg cap w2 hown1 hgrow hat hlt2; have fl2 : w2.frozen? ⟨w.heap.size + 1, 2, none⟩ = false := (hgrow.frozen_far ⟨w.heap.size + 1, 2, none⟩ (by simp; omega) (Ne.symm ns)).trans ((frozen?_alloc_cells wr _ _ ⟨w.heap.size + 1, 2, none⟩).trans fp2); have cl2 : w2.cell? ⟨w.heap.size + 1, 2, none⟩ = some pv := (hgrow.cell_far ⟨w.heap.size + 1, 2, none⟩ (by simp; omega) (Ne.symm ns)).trans ((World.cell?_alloc_lt wr _ ⟨w.heap.size + 1, 2, none⟩ hl1).trans p2))
                | (go_simp; go_at_call 34; refine (HAT _ (by omega) (by omega)).mono ?_; rintro e w1 ⟨rfl, rfl⟩))
              all_goals
                have ho := hown.alloc (.cells #[.int .i64 Y, .int .i64 V] 54)
                have hfin := shape_snoc (l := l) (p := (Y, V)) (by first | exact below_new | exact below_new.drew | exact below_drewN below_new _) hgrow hown1 (fun q hq => (ho.lt q hq).1) HB0.out HB1.out HBL.out
                have HFIN := Lib.hid hfin
                clear hfin hgrow hown1 hown ho
                go_wp2_with fail
                go_roundg (m - (k + 1))
                case measure => have := HG.out; omega
                case rel => exact ⟨k + 1, _, l ++ [(Y, V)], by go_num, by omega, rfl, HSOME.out, HFIN.out.1, HFIN.out.2.1, HFIN.out.2.2.1, HFIN.out.2.2.2⟩
          · have e1 : (S == 1) = false := by simp [h1]
            have hnone : accF m cs (k + 1) = none := by
              unfold accF
              rw [HACC.out]
              simp only
              rw [if_neg (by rw [← HS.out]; exact h1), if_neg (by rw [← HS.out]; omega)]
            have HNONE := Lib.hid (shapeR_none hm16 HL.out (accF_none hnone m (by omega)))
            clear hnone h0 h1 h2
            have hn0 := hB0
            have n0 : wr.cell? ⟨w.heap.size, 0, none⟩ = some (.int .i64 0) := (hB0.cell 0).trans rfl
            have n1 : wr.cell? ⟨w.heap.size, 1, none⟩ = some (.slice none 0 0) := (hB0.cell 1).trans rfl
            have n2 : wr.cell? ⟨w.heap.size, 2, none⟩ = some (.slice none 0 0) := (hB0.cell 2).trans rfl
            have f0 : wr.frozen? ⟨w.heap.size, 0, none⟩ = false := hB0.frozen 0
            have f1 : wr.frozen? ⟨w.heap.size, 1, none⟩ = false := hB0.frozen 1
            have f2 : wr.frozen? ⟨w.heap.size, 2, none⟩ = false := hB0.frozen 2
            go_wp2_with fail
            refine bodyPost_ret (v := .tuple #[.agg #[.int .i64 0, .slice none 0 0, .slice none 0 0], .int .i64 12]) (by simp [results, Try.results22, go_sem, n0, n1, n2]) rfl ?_
            rw [HNONE.out]
            exact ⟨_, rfl, World.ownsRow_nil _ _ _ _, by repeat (first | with_reducible exact hbel | with_reducible refine Below.drew ?_ | with_reducible refine below_drewN ?_ _ | ((with_reducible refine Below.alloc ?_ ?_ _); (rotate_left; focus (first | with_reducible exact Nat.le_refl _ | omega | (simp; done) | (simp; omega) | (simp [World.setCell]; done) | (simp [World.setCell]; omega)))) | ((with_reducible refine Below.setCell ?_ ?_ _); (rotate_left; focus (first | with_reducible exact Nat.le_refl _ | omega | (simp; done) | (simp; omega) | (simp [World.setCell]; done) | (simp [World.setCell]; omega)))))⟩
    · obtain rfl : k = m := by omega
      obtain ⟨P, pc, rfl, hpc, hRd⟩ := own_shapes hown
      have c0 : wr.cell? ⟨b, off, none⟩ = some (.int .i64 (cnt cs)) := (hbel.cell (p := ⟨b, off, none⟩) hb).trans (by
        have := HC.out 0 _ (ints_at cs 0 (by have := HL.out; omega))
        rw [Nat.add_zero] at this
        rw [this]
        simp [cnt, List.getD_eq_getElem?_getD, List.getElem?_eq_getElem (show 0 < cs.length by have := HL.out; omega)])
      have hll : l.length ≤ 16 := by have := (accF_keys k cs k l HACC.out).1; omega
      have hsr := shapeR_some hm16 HL.out HACC.out
      obtain ⟨c, hcc⟩ : ∃ c, c = cnt cs := ⟨_, rfl⟩
      rw [← hcc] at c0 hsr
      clear hRd hcc
      by_cases hcn : c = (l.length : Int)
      · have ec : (c != (l.length : Int)) = false := by simp [hcn]
        rw [if_pos hcn] at hsr
        have HSR := Lib.hid hsr
        have HB0 := Lib.hid hB0
        have HB1 := Lib.hid hB1
        clear hsr hcn hB0 hB1
        go_wp2_with fail
        go_quiet (fail)
        go_wp2_with fail
        refine (sort_own (w.heap.size + 2) l.length (.slice P l.length pc) l _ rfl (by omega) (by exact own_drewN hown)).mono ?_
        rintro e w3 ⟨rfl, l', hperm, hsort, hown3, hg3⟩
        obtain rfl := sorted_one HACC.out hperm hsort
        have hno : ∀ q, (Value.slice P l.length pc).ownBlock = some q → w.heap.size + 2 ≤ q := fun q hq => (hown.lt q hq).1
        have hB0' : Blk w3 w.heap.size 47 #[.int .i64 0, .slice none 0 0, .slice none 0 0] := Blk.grown (by exact HB0.out) hg3 (fun e => by have := hno _ e.symm; omega)
        have hB1' : Blk w3 (w.heap.size + 1) 47 #[.int .i64 3, .slice none 0 0, .slice P l.length pc] := Blk.grown (by exact HB1.out) hg3 (fun e => by have := hno _ e.symm; omega)
        have hbel3 : Below w.heap.size w w3 := (by refine Below.trans ?_ ⟨hg3.os, hg3.tape, hg3.output, hg3.size, fun q hq => hg3.block q (by have := hbel.size; simp; omega) (fun e => by have := hno _ e.symm; omega)⟩; repeat (first | with_reducible exact hbel | with_reducible refine Below.drew ?_ | with_reducible refine below_drewN ?_ _ | ((with_reducible refine Below.alloc ?_ ?_ _); (rotate_left; focus (first | with_reducible exact Nat.le_refl _ | omega | (simp; done) | (simp; omega) | (simp [World.setCell]; done) | (simp [World.setCell]; omega)))) | ((with_reducible refine Below.setCell ?_ ?_ _); (rotate_left; focus (first | with_reducible exact Nat.le_refl _ | omega | (simp; done) | (simp; omega) | (simp [World.setCell]; done) | (simp [World.setCell]; omega))))))
        have q0 : w3.cell? ⟨w.heap.size + 1, 0, none⟩ = some (.int .i64 3) := (hB1'.cell 0).trans rfl
        have q1 : w3.cell? ⟨w.heap.size + 1, 1, none⟩ = some (.slice none 0 0) := (hB1'.cell 1).trans rfl
        have q2 : w3.cell? ⟨w.heap.size + 1, 2, none⟩ = some (.slice P l.length pc) := (hB1'.cell 2).trans rfl
        have n0 : w3.cell? ⟨w.heap.size, 0, none⟩ = some (.int .i64 0) := (hB0'.cell 0).trans rfl
        have n1 : w3.cell? ⟨w.heap.size, 1, none⟩ = some (.slice none 0 0) := (hB0'.cell 1).trans rfl
        have n2 : w3.cell? ⟨w.heap.size, 2, none⟩ = some (.slice none 0 0) := (hB0'.cell 2).trans rfl
        have f0 : w3.frozen? ⟨w.heap.size, 0, none⟩ = false := hB0'.frozen 0
        have f1 : w3.frozen? ⟨w.heap.size, 1, none⟩ = false := hB0'.frozen 1
        have f2 : w3.frozen? ⟨w.heap.size, 2, none⟩ = false := hB0'.frozen 2
        have hs3 := hbel3.size
        have HO3 := Lib.hid hown3
        clear hown3 hg3 hown p2 fp2 hperm hsort hB0' hB1'
        go_wp2_with fail
        refine bodyPost_ret (v := .tuple #[.agg #[.int .i64 3, .slice none 0 0, .slice P l.length pc], .int .i64 0]) (by simp [results, Try.results22, go_sem, n0, n1, n2]) rfl ?_
        rw [HSR.out]
        refine ⟨_, rfl, ?_, by repeat (first | with_reducible exact hbel3 | with_reducible refine Below.drew ?_ | with_reducible refine below_drewN ?_ _ | ((with_reducible refine Below.alloc ?_ ?_ _); (rotate_left; focus (first | with_reducible exact Nat.le_refl _ | omega | (simp; done) | (simp; omega) | (simp [World.setCell]; done) | (simp [World.setCell]; omega)))) | ((with_reducible refine Below.setCell ?_ ?_ _); (rotate_left; focus (first | with_reducible exact Nat.le_refl _ | omega | (simp; done) | (simp; omega) | (simp [World.setCell]; done) | (simp [World.setCell]; omega)))))⟩
        simp only [sortI_length]
        refine own_base2 (B := w.heap.size + 2) ?_ (by omega)
        repeat (first | with_reducible exact HO3.out | ((with_reducible refine ownsRow_setCell_below ?_ ?_ _); (rotate_left; focus (first | (simp; done) | (simp; omega)))))
      · have ec : (c != (l.length : Int)) = true := by simp [hcn]
        rw [if_neg hcn] at hsr
        have HNONE := Lib.hid hsr
        clear hsr hcn hown
        have n0 : wr.cell? ⟨w.heap.size, 0, none⟩ = some (.int .i64 0) := (hB0.cell 0).trans rfl
        have n1 : wr.cell? ⟨w.heap.size, 1, none⟩ = some (.slice none 0 0) := (hB0.cell 1).trans rfl
        have n2 : wr.cell? ⟨w.heap.size, 2, none⟩ = some (.slice none 0 0) := (hB0.cell 2).trans rfl
        have f0 : wr.frozen? ⟨w.heap.size, 0, none⟩ = false := hB0.frozen 0
        have f1 : wr.frozen? ⟨w.heap.size, 1, none⟩ = false := hB0.frozen 1
        have f2 : wr.frozen? ⟨w.heap.size, 2, none⟩ = false := hB0.frozen 2
        go_wp2_with fail
        go_quiet (fail)
        go_wp2_with fail
        refine bodyPost_ret (v := .tuple #[.agg #[.int .i64 0, .slice none 0 0, .slice none 0 0], .int .i64 12]) (by simp [results, Try.results22, go_sem, n0, n1, n2]) rfl ?_
        rw [HNONE.out]
        exact ⟨_, rfl, World.ownsRow_nil _ _ _ _, by repeat (first | with_reducible exact hbel | with_reducible refine Below.drew ?_ | with_reducible refine below_drewN ?_ _ | ((with_reducible refine Below.alloc ?_ ?_ _); (rotate_left; focus (first | with_reducible exact Nat.le_refl _ | omega | (simp; done) | (simp; omega) | (simp [World.setCell]; done) | (simp [World.setCell]; omega)))) | ((with_reducible refine Below.setCell ?_ ?_ _); (rotate_left; focus (first | with_reducible exact Nat.le_refl _ | omega | (simp; done) | (simp; omega) | (simp [World.setCell]; done) | (simp [World.setCell]; omega)))))⟩
end Go.Proofs.Ytjggcidaolnmbaa
