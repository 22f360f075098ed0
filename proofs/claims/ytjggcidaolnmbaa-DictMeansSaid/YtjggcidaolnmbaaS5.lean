/- What the document's Shape does. -/
import Derived.Test.YtjggcidaolnmbaaS4
import Derived.Test.YtjggcidaolnmbaaS2
namespace Go.Proofs.Ytjggcidaolnmbaa
open Go.RowKit Go.Joins Go.ChangeShapes Go.WideShapes Go.Deep
set_option linter.unusedVariables false
set_option maxRecDepth 100000

theorem Reads.take {w : World} {B size n : Nat} {A : Option Addr} {xs : List Value} (h : Reads w B size A n xs) {k : Nat} (hk : k ≤ n) : Reads w B size A k (xs.take (k * size)) := by
  refine ⟨by rw [List.length_take, h.1]; exact Nat.min_eq_left (Nat.mul_le_mul_right size hk), fun hn => ?_⟩
  obtain ⟨ad, e, hb, hc⟩ := h.2 (by omega)
  refine ⟨ad, e, hb, fun j u hu => hc j u ?_⟩
  rw [List.getElem?_take] at hu
  split at hu
  · exact hu
  · cases hu
theorem prs_take (l : List (Int × Int)) (k : Nat) : (prs l).take (k * 2) = prs (l.take k) := by
  induction l generalizing k with
  | nil => simp [prs, rows]
  | cons x l ih =>
    cases k with
    | zero => simp [prs, rows]
    | succ k =>
      have := ih k
      simp only [prs, rows, List.flatMap_cons, prc, List.take_succ_cons] at this ⊢
      rw [show (k + 1) * 2 = k * 2 + 2 by omega]
      simp only [List.cons_append, List.nil_append, List.take_succ_cons]
      rw [this]
theorem prs_drop (l : List (Int × Int)) (k : Nat) : (prs l).drop (k * 2) = prs (l.drop k) := by
  induction l generalizing k with
  | nil => simp [prs, rows]
  | cons x l ih =>
    cases k with
    | zero => simp [prs, rows]
    | succ k =>
      have := ih k
      simp only [prs, rows, List.flatMap_cons, prc, List.drop_succ_cons] at this ⊢
      rw [show (k + 1) * 2 = k * 2 + 2 by omega]
      simp only [List.cons_append, List.nil_append, List.drop_succ_cons]
      rw [this]
theorem prs_append (l l' : List (Int × Int)) : prs (l ++ l') = prs l ++ prs l' := by simp [prs, rows]
theorem prs_one (l : List (Int × Int)) : ∀ u ∈ prs l, u.oneCell' = true := by
  intro u hu
  simp only [prs, rows, List.mem_flatMap] at hu
  obtain ⟨x, _, hx⟩ := hu
  simp only [prc, List.mem_cons, List.not_mem_nil, or_false] at hx
  rcases hx with rfl | rfl <;> rfl

theorem insP_at (p : Int × Int) : ∀ (l : List (Int × Int)) (t : Nat), t ≤ l.length → (∀ j (h : j < l.length), j < t → l[j].1 < p.1) → (∀ h : t < l.length, ¬ l[t].1 < p.1) → insP p l = l.take t ++ p :: l.drop t
  | [], t, ht, _, _ => by
    obtain rfl : t = 0 := by simpa using ht
    rfl
  | x :: l, 0, _, _, hn => by
    have h := hn (by simp)
    simp only [List.getElem_cons_zero] at h
    simp [insP, h]
  | x :: l, t + 1, ht, hlt, hn => by
    have hx : x.1 < p.1 := hlt 0 (by simp) (by omega)
    have e : insP p (x :: l) = x :: insP p l := by simp [insP, hx]
    rw [e, insP_at p l t (by simpa using ht) (fun j h hj => by have := hlt (j + 1) (by simp; omega) (by omega); simpa using this) (fun h => by have := hn (by simp; omega); simpa using this)]
    simp

theorem addr_add0 (g n : Nat) : (⟨g, 0, none⟩ : Addr).add n = ⟨g, n, none⟩ := by
  unfold Addr.add
  by_cases h : n = 0
  · subst h; rfl
  · rw [if_neg h, Nat.zero_add]
theorem rsize17_any (m : Int) (h : 0 ≤ m ∧ m ≤ 16) (w : World) : Calls Try.prog 13 #[.int .i64 m] w fun e w' => e = .returned (.int .i64 (3 * m + 1)) ∧ w = w' := by
  have HW := right15_any m
  rw [show decide (0 ≤ m ∧ m ≤ 16) = true from decide_eq_true h] at HW
  obtain ⟨h0, h1⟩ := h
  go_enter Try.func13, Try.ntmps13
  go_wp2_with fail
  refine (HW _).mono ?_
  rintro e w2 ⟨rfl, rfl⟩
  go_wp2_with fail
  go_ret
  exact ⟨rfl, rfl⟩

theorem rshape_no (most : Int) (cs : List Int) (A : Option Addr) (n nc : Nat) (w : World) (hl : cs.length = n) (hno : ¬ (0 ≤ most ∧ most ≤ 16 ∧ (cs.length : Int) = 3 * most + 1)) :
    Calls Try.prog 23 #[.int .i64 most, .slice A n nc] w (ShapePost (shapeR most cs) w) := by
  rw [shapeR_no hno]
  have HR := right15_any most
  by_cases h1 : 0 ≤ most ∧ most ≤ 16
  · rw [show decide (0 ≤ most ∧ most ≤ 16) = true from decide_eq_true h1] at HR
    have HZ := rsize17_any most h1
    have e3 : ((n : Int) != 3 * most + 1) = true := by simp; intro e; exact hno ⟨h1.1, h1.2, by omega⟩
    clear hno h1
    go_enter Try.func23, Try.ntmps23
    go_wp2_with fail
    refine (HR _).mono ?_
    rintro e w1 ⟨rfl, rfl⟩
    go_wp2_with fail
    refine (HZ _).mono ?_
    rintro e w1 ⟨rfl, rfl⟩
    go_wp2_with fail
    refine bodyPost_ret (v := .tuple #[.agg #[.int .i64 0, .slice none 0 0, .slice none 0 0], .int .i64 1]) (by simp [results, Try.results23, go_sem]) rfl ?_
    exact ⟨_, rfl, World.ownsRow_nil _ _ _ _, by repeat (first | with_reducible exact Below.refl _ _ | with_reducible refine Below.drew ?_ | with_reducible refine below_drewN ?_ _ | ((with_reducible refine Below.alloc ?_ ?_ _); (rotate_left; focus (first | with_reducible exact Nat.le_refl _ | omega | (simp; done) | (simp; omega) | (simp [World.setCell]; done) | (simp [World.setCell]; omega)))) | ((with_reducible refine Below.setCell ?_ ?_ _); (rotate_left; focus (first | with_reducible exact Nat.le_refl _ | omega | (simp; done) | (simp; omega) | (simp [World.setCell]; done) | (simp [World.setCell]; omega)))))⟩
  · rw [show decide (0 ≤ most ∧ most ≤ 16) = false from decide_eq_false h1] at HR
    clear hno h1
    go_enter Try.func23, Try.ntmps23
    go_wp2_with fail
    refine (HR _).mono ?_
    rintro e w1 ⟨rfl, rfl⟩
    go_wp2_with fail
    refine bodyPost_ret (v := .tuple #[.agg #[.int .i64 0, .slice none 0 0, .slice none 0 0], .int .i64 1]) (by simp [results, Try.results23, go_sem]) rfl ?_
    exact ⟨_, rfl, World.ownsRow_nil _ _ _ _, by repeat (first | with_reducible exact Below.refl _ _ | with_reducible refine Below.drew ?_ | with_reducible refine below_drewN ?_ _ | ((with_reducible refine Below.alloc ?_ ?_ _); (rotate_left; focus (first | with_reducible exact Nat.le_refl _ | omega | (simp; done) | (simp; omega) | (simp [World.setCell]; done) | (simp [World.setCell]; omega)))) | ((with_reducible refine Below.setCell ?_ ?_ _); (rotate_left; focus (first | with_reducible exact Nat.le_refl _ | omega | (simp; done) | (simp; omega) | (simp [World.setCell]; done) | (simp [World.setCell]; omega)))))⟩

theorem grown_below {a b : World} {q : Nat} {row : Option Nat} (h : (a.drewN q).grownBy b row) (hr : ∀ x, row = some x → a.heap.size ≤ x) : Below a.heap.size a b :=
  ⟨h.os, h.tape, h.output, h.size, fun i hi => h.block i hi (fun e => by have := hr i e.symm; omega)⟩
theorem grown_below2 {a b c : World} {o : Obj} {row : Option Nat} (hb : Below a.heap.size a b) (h : (b.alloc o).grownBy c row) (hr : ∀ x, row = some x → a.heap.size ≤ x) : Below a.heap.size a c :=
  (hb.alloc hb.size o).trans ⟨h.os, h.tape, h.output, h.size, fun i hi => h.block i (by have := hb.size; simp; omega) (fun e => by have := hr i e.symm; omega)⟩
def RelI (W1 : World) (N : Nat) (L0 : List (Int × Int)) (Y : Int) (gk : Nat) (i : Value) (wr : World) : Prop :=
  ∃ (t dn : Nat), i = .int .i64 t ∧ wr = W1.drewN dn ∧ t ≤ N ∧ gk = N - t ∧ ∀ j (h : j < L0.length), j < t → L0[j].1 < Y
def RelR (m : Nat) (cs : List Int) (w : World) (gk : Nat) (i : Value) (wr : World) : Prop :=
  ∃ (k : Nat) (pv : Value) (l : List (Int × Int)), i = .int .i64 k ∧ k ≤ m ∧ gk = m - k ∧ accF m cs k = some l ∧ wr.ownsRow (w.heap.size + 2) 54 2 pv l.length (prs (sortI l)) ∧
    Blk wr w.heap.size 47 #[.int .i64 0, .slice none 0 0, .slice none 0 0] ∧ Blk wr (w.heap.size + 1) 47 #[.int .i64 3, .slice none 0 0, pv] ∧ Below w.heap.size w wr

set_option maxHeartbeats 8000000 in
theorem rshape_yes (m : Nat) (cs : List Int) (A : Option Addr) (n nc : Nat) (w : World) (hm16 : m ≤ 16) (hl : cs.length = 3 * m + 1) (hn : n = 3 * m + 1) (hA : Reads w w.heap.size 1 A n (ints cs)) :
    Calls Try.prog 23 #[.int .i64 m, .slice A n nc] w (ShapePost (shapeR m cs) w) := by
  obtain ⟨b, off, rfl, hb, hc⟩ := hA.flat (by omega)
  obtain ⟨i0, hi0, hz0, hz1, hz2⟩ := info_parts info_pair
  have e3 : ((n : Int) != 3 * (m : Int) + 1) = false := by simp; omega
  have HR := right15_any (m : Int)
  rw [show decide ((0 : Int) ≤ (m : Int) ∧ (m : Int) ≤ 16) = true from by simp; omega] at HR
  have HZ := rsize17_any (m : Int) ⟨by omega, by omega⟩
  have HL := Lib.hid hl
  have HN := Lib.hid hn
  have HC := Lib.hid hc
  have HA := Lib.hid hA
  have hn0 : (0 : Int) < (n : Int) := by omega
  clear hc hl hn hA
  go_enter Try.func23, Try.ntmps23
  go_wp2_with fail
  refine (HR _).mono ?_
  rintro e w1 ⟨rfl, rfl⟩
  go_wp2_with fail
  refine (HZ _).mono ?_
  rintro e w1 ⟨rfl, rfl⟩
  clear HR HZ
  go_wp2_with fail
  clear e3
  go_loopg [8] m (fun gk i wr => RelR m cs w gk i wr)
  case atStart => exact ⟨0, .slice none 0 0, [], rfl, Nat.zero_le _, rfl, rfl, World.ownsRow_nil _ _ _ _, (Blk.new _ _ _).alloc _, Blk.new' (by simp), by repeat (first | with_reducible exact Below.refl _ _ | with_reducible refine Below.drew ?_ | with_reducible refine below_drewN ?_ _ | ((with_reducible refine Below.alloc ?_ ?_ _); (rotate_left; focus (first | with_reducible exact Nat.le_refl _ | omega | (simp; done) | (simp; omega) | (simp [World.setCell]; done) | (simp [World.setCell]; omega)))) | ((with_reducible refine Below.setCell ?_ ?_ _); (rotate_left; focus (first | with_reducible exact Nat.le_refl _ | omega | (simp; done) | (simp; omega) | (simp [World.setCell]; done) | (simp [World.setCell]; omega)))))⟩
  case round =>
    obtain ⟨k, pv, l, rfl, hk, hgk, hacc, hown, hB0, hB1, hbel⟩ := hrel
    have HG := Lib.hid hgk
    have HACC := Lib.hid hacc
    have p2 : wr.cell? ⟨w.heap.size + 1, 2, none⟩ = some pv := (hB1.cell 2).trans rfl
    have fp2 : wr.frozen? ⟨w.heap.size + 1, 2, none⟩ = false := hB1.frozen 2
    have hl1 := hB1.lt
    have hl0 := hB0.lt
    have hbl : b < wr.heap.size := by omega
    clear hgk hacc
    by_cases hkm : k < m
    · have HT := tab_cell HL.out HC.out hkm
      obtain ⟨Q, hQ⟩ : ∃ Q, Q = 1 + 3 * k := ⟨_, rfl⟩
      rw [← hQ] at HT
      obtain ⟨s0, s1, s2⟩ := HT
      have hQ1 : (1 : Int) + 3 * (k : Int) = (Q : Int) := by omega
      have hQ2 : (2 : Int) + 3 * (k : Int) = ((Q + 1 : Nat) : Int) := by omega
      have hQ3 : (3 : Int) + 3 * (k : Int) = ((Q + 2 : Nat) : Int) := by omega
      have hq0 : (Q : Int) < (n : Int) := by have := HN.out; omega
      have g0 : wr.cell? ⟨b, off + Q, none⟩ = some (.int .i64 (st cs k)) := (hbel.cell (p := ⟨b, off + Q, none⟩) hb).trans s0
      have g1 : wr.cell? ⟨b, off + (Q + 1), none⟩ = some (.int .i64 (ky cs k)) := (hbel.cell (p := ⟨b, off + (Q + 1), none⟩) hb).trans s1
      have g2 : wr.cell? ⟨b, off + (Q + 2), none⟩ = some (.int .i64 (vl cs k)) := (hbel.cell (p := ⟨b, off + (Q + 2), none⟩) hb).trans s2
      obtain ⟨S, hS⟩ : ∃ S, S = st cs k := ⟨_, rfl⟩
      obtain ⟨Y, hY⟩ : ∃ Y, Y = ky cs k := ⟨_, rfl⟩
      obtain ⟨V, hV⟩ : ∃ V, V = vl cs k := ⟨_, rfl⟩
      rw [← hS] at g0
      rw [← hY] at g1
      rw [← hV] at g2
      have HS := Lib.hid hS
      have HY := Lib.hid hY
      have HV := Lib.hid hV
      have hQb : Q ≤ 46 := by omega
      have hq1 : ((Q + 1 : Nat) : Int) < (n : Int) := by have := HN.out; omega
      have hq2 : ((Q + 2 : Nat) : Int) < (n : Int) := by have := HN.out; omega
      obtain ⟨Q1, hQQ1⟩ : ∃ z, z = Q + 1 := ⟨_, rfl⟩
      obtain ⟨Q2, hQQ2⟩ : ∃ z, z = Q + 2 := ⟨_, rfl⟩
      rw [← hQQ1] at g1 hQ2 hq1
      rw [← hQQ2] at g2 hQ3 hq2
      have hQ1b : Q1 ≤ 47 := by omega
      have hQ2b : Q2 ≤ 48 := by omega
      clear s0 s1 s2 hQ hS hY hV hQQ1 hQQ2
      by_cases hbad : S < 0 ∨ 2 < S
      · have hnone : accF m cs (k + 1) = none := by
          unfold accF
          rw [HACC.out]
          simp only
          rw [if_neg (by rw [← HS.out]; omega), if_neg (by rw [← HS.out]; omega)]
        have HNONE := Lib.hid (shapeR_none hm16 HL.out (accF_none hnone m (by omega)))
        clear hnone
        by_cases hneg : S < 0
        · have e1 : decide (S < 0) = true := by simp [hneg]
          clear hneg hbad
          have hn0 := hB0
          have n0 : wr.cell? ⟨w.heap.size, 0, none⟩ = some (.int .i64 0) := (hB0.cell 0).trans rfl
          have n1 : wr.cell? ⟨w.heap.size, 1, none⟩ = some (.slice none 0 0) := (hB0.cell 1).trans rfl
          have n2 : wr.cell? ⟨w.heap.size, 2, none⟩ = some (.slice none 0 0) := (hB0.cell 2).trans rfl
          have f0 : wr.frozen? ⟨w.heap.size, 0, none⟩ = false := hB0.frozen 0
          have f1 : wr.frozen? ⟨w.heap.size, 1, none⟩ = false := hB0.frozen 1
          have f2 : wr.frozen? ⟨w.heap.size, 2, none⟩ = false := hB0.frozen 2
          go_wp2_with fail
          refine bodyPost_ret (v := .tuple #[.agg #[.int .i64 0, .slice none 0 0, .slice none 0 0], .int .i64 12]) (by simp [results, Try.results23, go_sem, n0, n1, n2]) rfl ?_
          rw [HNONE.out]
          exact ⟨_, rfl, World.ownsRow_nil _ _ _ _, by repeat (first | with_reducible exact hbel | with_reducible refine Below.drew ?_ | with_reducible refine below_drewN ?_ _ | ((with_reducible refine Below.alloc ?_ ?_ _); (rotate_left; focus (first | with_reducible exact Nat.le_refl _ | omega | (simp; done) | (simp; omega) | (simp [World.setCell]; done) | (simp [World.setCell]; omega)))) | ((with_reducible refine Below.setCell ?_ ?_ _); (rotate_left; focus (first | with_reducible exact Nat.le_refl _ | omega | (simp; done) | (simp; omega) | (simp [World.setCell]; done) | (simp [World.setCell]; omega)))))⟩
        · have e1 : decide (S < 0) = false := by simpa using hneg
          have e2 : decide (2 < S) = true := by simp; omega
          clear hneg hbad
          have hn0 := hB0
          have n0 : wr.cell? ⟨w.heap.size, 0, none⟩ = some (.int .i64 0) := (hB0.cell 0).trans rfl
          have n1 : wr.cell? ⟨w.heap.size, 1, none⟩ = some (.slice none 0 0) := (hB0.cell 1).trans rfl
          have n2 : wr.cell? ⟨w.heap.size, 2, none⟩ = some (.slice none 0 0) := (hB0.cell 2).trans rfl
          have f0 : wr.frozen? ⟨w.heap.size, 0, none⟩ = false := hB0.frozen 0
          have f1 : wr.frozen? ⟨w.heap.size, 1, none⟩ = false := hB0.frozen 1
          have f2 : wr.frozen? ⟨w.heap.size, 2, none⟩ = false := hB0.frozen 2
          go_wp2_with fail
          refine bodyPost_ret (v := .tuple #[.agg #[.int .i64 0, .slice none 0 0, .slice none 0 0], .int .i64 12]) (by simp [results, Try.results23, go_sem, n0, n1, n2]) rfl ?_
          rw [HNONE.out]
          exact ⟨_, rfl, World.ownsRow_nil _ _ _ _, by repeat (first | with_reducible exact hbel | with_reducible refine Below.drew ?_ | with_reducible refine below_drewN ?_ _ | ((with_reducible refine Below.alloc ?_ ?_ _); (rotate_left; focus (first | with_reducible exact Nat.le_refl _ | omega | (simp; done) | (simp; omega) | (simp [World.setCell]; done) | (simp [World.setCell]; omega)))) | ((with_reducible refine Below.setCell ?_ ?_ _); (rotate_left; focus (first | with_reducible exact Nat.le_refl _ | omega | (simp; done) | (simp; omega) | (simp [World.setCell]; done) | (simp [World.setCell]; omega)))))⟩
      · have e1 : decide (S < 0) = false := by simp; omega
        have e2 : decide (2 < S) = false := by simp; omega
        by_cases h1 : S = 1
        · subst h1
          clear hbad e1 e2
          go_wp2_with fail
          refine (finds_any m k cs (some ⟨b, off, none⟩) n nc w.heap.size _ (by omega) hm16 HL.out HN.out hkm (by exact HA.out.below hbel)).mono ?_
          rintro e w1 ⟨rfl, rfl⟩
          cases hr : reachF m cs k with
          | false =>
            have hnone : accF m cs (k + 1) = none := by
              unfold accF
              rw [HACC.out]
              simp only
              rw [if_pos HS.out.symm, if_neg (by rw [hr]; simp)]
            have HNONE := Lib.hid (shapeR_none hm16 HL.out (accF_none hnone m (by omega)))
            clear hnone hr
            have hn0 := hB0
            have n0 : wr.cell? ⟨w.heap.size, 0, none⟩ = some (.int .i64 0) := (hB0.cell 0).trans rfl
            have n1 : wr.cell? ⟨w.heap.size, 1, none⟩ = some (.slice none 0 0) := (hB0.cell 1).trans rfl
            have n2 : wr.cell? ⟨w.heap.size, 2, none⟩ = some (.slice none 0 0) := (hB0.cell 2).trans rfl
            have f0 : wr.frozen? ⟨w.heap.size, 0, none⟩ = false := hB0.frozen 0
            have f1 : wr.frozen? ⟨w.heap.size, 1, none⟩ = false := hB0.frozen 1
            have f2 : wr.frozen? ⟨w.heap.size, 2, none⟩ = false := hB0.frozen 2
            go_wp2_with fail
            refine bodyPost_ret (v := .tuple #[.agg #[.int .i64 0, .slice none 0 0, .slice none 0 0], .int .i64 12]) (by simp [results, Try.results23, go_sem, n0, n1, n2]) rfl ?_
            rw [HNONE.out]
            exact ⟨_, rfl, World.ownsRow_nil _ _ _ _, by repeat (first | with_reducible exact hbel | with_reducible refine Below.drew ?_ | with_reducible refine below_drewN ?_ _ | ((with_reducible refine Below.alloc ?_ ?_ _); (rotate_left; focus (first | with_reducible exact Nat.le_refl _ | omega | (simp; done) | (simp; omega) | (simp [World.setCell]; done) | (simp [World.setCell]; omega)))) | ((with_reducible refine Below.setCell ?_ ?_ _); (rotate_left; focus (first | with_reducible exact Nat.le_refl _ | omega | (simp; done) | (simp; omega) | (simp [World.setCell]; done) | (simp [World.setCell]; omega)))))⟩
          | true =>
            have hsome : accF m cs (k + 1) = some (l ++ [(Y, V)]) := by
              unfold accF
              rw [HACC.out]
              simp only
              rw [if_pos HS.out.symm, if_pos hr, HY.out, HV.out]
            have HSOME := Lib.hid hsome
            clear hr hsome
            have hw0 : IntKind.i64.wrap (3 * (k : Int)) = 3 * (k : Int) := IntWalk.i64_in _ ⟨by omega, by omega⟩
            have hw1 : IntKind.i64.wrap (2 + 3 * (k : Int)) = (Q1 : Int) := by rw [hQ2]; exact IntWalk.i64_in _ ⟨by omega, by omega⟩
            have hw2 : IntKind.i64.wrap (3 + 3 * (k : Int)) = (Q2 : Int) := by rw [hQ3]; exact IntWalk.i64_in _ ⟨by omega, by omega⟩
            go_wp2_with fail
            go_region
            have hlen : (sortI l).length = l.length := sortI_length l
            obtain ⟨P, pc, rfl, hpc, -⟩ := own_shapes hown
            have hll : l.length ≤ 16 := by have := (accF_keys m cs k l HACC.out).1; omega
            have hwz := hbel.size
            have hOW : ((wr.alloc (.cells #[.int .i64 Y, .int .i64 V] 54)).drew).ownsRow (w.heap.size + 2) 54 2 (.slice P l.length pc) l.length (prs (sortI l)) := own_drewN (k := 1) (hown.alloc _)
            have hBP : Blk ((wr.alloc (.cells #[.int .i64 Y, .int .i64 V] 54)).drew) wr.heap.size 54 #[.int .i64 Y, .int .i64 V] := Blk.drew (Blk.new _ _ _)
            have hB0' : Blk ((wr.alloc (.cells #[.int .i64 Y, .int .i64 V] 54)).drew) w.heap.size 47 #[.int .i64 0, .slice none 0 0, .slice none 0 0] := Blk.drew (hB0.alloc _)
            have hB1' : Blk ((wr.alloc (.cells #[.int .i64 Y, .int .i64 V] 54)).drew) (w.heap.size + 1) 47 #[.int .i64 3, .slice none 0 0, .slice P l.length pc] := Blk.drew (hB1.alloc _)
            have hbel' : Below w.heap.size w ((wr.alloc (.cells #[.int .i64 Y, .int .i64 V] 54)).drew) := (hbel.alloc hwz _).drew
            have hpl : w.heap.size + 2 ≤ wr.heap.size := by omega
            clear hown hB0 hB1 hbel g0 g1 g2 p2 fp2 hw0 hw1 hw2 hQ1 hQ2 hQ3 hq0 hq1 hq2 hbl
            generalize (wr.alloc (.cells #[.int .i64 Y, .int .i64 V] 54)).drew = W1 at *
            obtain ⟨L0, hL0⟩ : ∃ L0, L0 = sortI l := ⟨_, rfl⟩
            rw [← hL0] at hlen hOW
            obtain ⟨N, hN⟩ : ∃ N, N = l.length := ⟨_, rfl⟩
            rw [← hN] at hlen hOW hB1' hll hpc
            have HL0 := Lib.hid hL0
            have HNN := Lib.hid hN
            have HLEN := Lib.hid hlen
            clear hL0 hN hlen
            go_wp2_with fail
            go_loopg [12] N (fun gk2 i2 wr2 => RelI W1 N L0 Y gk2 i2 wr2)
            case atStart => exact ⟨0, 0, rfl, rfl, Nat.zero_le _, rfl, fun j _ h => by omega⟩
            case round =>
              obtain ⟨t, dn, rfl, rfl, ht, hgk2, hlow⟩ := hrel
              have HG2 := Lib.hid hgk2
              have HLOW := Lib.hid hlow
              have c2 : W1.cell? ⟨w.heap.size + 1, 2, none⟩ = some (.slice P N pc) := (hB1'.cell 2).trans rfl
              have c3 : W1.cell? ⟨wr.heap.size, 0, none⟩ = some (.int .i64 Y) := (hBP.cell 0).trans rfl
              clear hgk2 hlow
              by_cases htN : t < N
              · have htL : t < L0.length := by rw [HLEN.out]; exact htN
                obtain ⟨g, cap, hv, hg, hgl⟩ := hOW.form (by omega)
                injection hv with ev1 ev2 ev3
                subst ev1 ev3
                obtain ⟨z, hz⟩ : ∃ z, z = L0[t].1 := ⟨_, rfl⟩
                have ck : W1.cell? ⟨g, t * 2, none⟩ = some (.int .i64 z) := by
                  have h1 := hOW.cellAt (t * 2) (by omega)
                  have h2 := prs_at L0 t 0 htL (by omega)
                  rw [Nat.add_zero] at h2
                  rw [h2] at h1
                  rw [hz]
                  exact h1
                have hti : (t : Int) < (N : Int) := by omega
                have et : decide ((t : Int) < (N : Int)) = true := by simp; omega
                have HZ := Lib.hid hz
                clear hz
                by_cases hzY : z < Y
                · have ez : decide (z < Y) = true := by simp [hzY]
                  go_wp2_with fail
                  go_quiet (fail)
                  go_wp2_with fail
                  go_roundg (N - (t + 1))
                  case measure => have := HG2.out; omega
                  case rel =>
                    refine ⟨t + 1, _, by go_num, rfl, by omega, rfl, fun j hj hjt => ?_⟩
                    by_cases hjt2 : j < t
                    · exact HLOW.out j hj hjt2
                    · obtain rfl : j = t := by omega
                      rw [← HZ.out]
                      exact hzY
                · have ez : decide (z < Y) = false := by simpa using hzY
                  have hins := insP_at (Y, V) L0 t (by omega) (fun j hj hjt => HLOW.out j hj hjt) (fun h => by rw [← HZ.out]; exact hzY)
                  have HINS := Lib.hid hins
                  clear hins
                  go_wp2_with fail
                  go_quiet (fail)
                  go_upto_region 20 with fail
                  have hne : ¬ (pc = t) := by omega
                  have hRP : Reads W1 W1.heap.size 2 (some ⟨g, 0, none⟩) N (prs L0) := Reads.of_own hOW
                  have HR1 : Reads W1 W1.heap.size 2 (some ⟨g, 0, none⟩) t (prs (L0.take t)) := by
                    have := hRP.take (show t ≤ N by omega)
                    rw [prs_take] at this
                    exact this
                  have h63 : 0 + t ≤ maxLen := by unfold maxLen; omega
                  have hby : (0 + t) * 16 ≤ 140737488355328 := by omega
                  have htc : (t : Int) ≤ (pc : Int) := by omega
                  go_upto_region 21 with (at_builtin; go_must (refine wpList_append_any _ rfl _ _ 45 rfl W1.heap.size 54 i0 _ 2 16 Try.underlying45 hi0 hz0 hz1 hz2 rfl (by omega) (.slice none 0 0) 0 [] (by rfl) (World.ownsRow_nil _ _ _ _) W1.heap.size (some ⟨g, 0, none⟩) t pc (prs (L0.take t)) (by rfl) (HR1.drewN _) (prs_one _) h63 hby (by simp) ?_; intro v1 w3 hown3 hgrow3 _))
                  have hb3 : Below W1.heap.size W1 w3 := grown_below hgrow3 (fun x hx => by simp [Value.ownBlock] at hx)
                  have hown3' : w3.ownsRow W1.heap.size 54 2 v1 t (prs (L0.take t)) := by simpa using hown3
                  have hBP3 := hBP.below hb3 hBP.lt
                  have hB13 := hB1'.below hb3 hB1'.lt
                  have d0 : w3.cell? ⟨wr.heap.size, 0, none⟩ = some (.int .i64 Y) := (hBP3.cell 0).trans rfl
                  have d1 : w3.cell? ⟨wr.heap.size, 1, none⟩ = some (.int .i64 V) := (hBP3.cell 1).trans rfl
                  have dl : wr.heap.size < w3.heap.size := hBP3.lt
                  have hc2 : ∀ u ∈ ([.int .i64 Y, .int .i64 V] : List Value), u.oneCell' = true := (by intro u hu; simp at hu; rcases hu with rfl | rfl <;> rfl)
                  have hc3 : t + 1 ≤ maxLen := (by unfold maxLen; omega)
                  have hc4 : (t + 1) * 16 ≤ 140737488355328 := (by omega)
                  have hc5 : W1.heap.size ≤ (w3.alloc (.cells #[.int .i64 Y, .int .i64 V] 54)).heap.size := (by have := hb3.size; simp; omega)
                  clear hown3 hgrow3 c2 c3 h63 hby HR1
                  go_upto_region 22 with (at_builtin; go_must (refine wpList_append_own _ rfl _ _ 45 rfl W1.heap.size 54 i0 _ 2 16 Try.underlying45 hi0 hz0 hz1 hz2 rfl (by decide) _ _ _ rfl (hown3'.alloc _) ⟨w3.heap.size, 0, none⟩ 1 1 [.int .i64 Y, .int .i64 V] rfl rfl (World.news_of_block (cs := #[.int .i64 Y, .int .i64 V]) (t := 54) (fr := (0, 0)) (heap_alloc_new w3 _)) hc2 hc3 hc4 hc5 ?_; intro v2 w4 hown4 hgrow4 _))
                  have hb4 : Below W1.heap.size W1 w4 := grown_below2 hb3 hgrow4 (fun x hx => ((hown3'.alloc (.cells #[.int .i64 Y, .int .i64 V] 54)).lt x hx).1)
                  have hB14 := hB1'.below hb4 hB1'.lt
                  have e2 : w4.cell? ⟨w.heap.size + 1, 2, none⟩ = some (.slice (some ⟨g, 0, none⟩) N pc) := (hB14.cell 2).trans rfl
                  have fe2 : w4.frozen? ⟨w.heap.size + 1, 2, none⟩ = false := hB14.frozen 2
                  have el : w.heap.size + 1 < w4.heap.size := hB14.lt
                  have hRP4 : Reads w4 W1.heap.size 2 (some ⟨g, 0, none⟩) N (prs L0) := hRP.below hb4
                  clear hown3' hgrow4 d0 d1 dl hc2 hc3 hc4 hc5 hBP3 hB13 hb3
                  have htn : (t : Int) ≤ (N : Int) := by omega
                  skip
                  have HR3 : Reads w4 W1.heap.size 2 (some ⟨g, t * 2, none⟩) (N - t) (prs (L0.drop t)) := by
                    have := hRP4.cut (k := t) (cap := N + t + 1) (by omega) (by omega)
                    rw [if_neg (by omega), prs_drop] at this
                    rw [Option.map_some, addr_add0] at this
                    exact this
                  have h633 : t + 1 + (N - t) ≤ maxLen := by unfold maxLen; omega
                  have hby3 : (t + 1 + (N - t)) * 16 ≤ 140737488355328 := by omega
                  go_upto_region 23 with (at_builtin; go_must (refine wpList_append_any _ rfl _ _ 45 rfl W1.heap.size 54 i0 _ 2 16 Try.underlying45 hi0 hz0 hz1 hz2 rfl (by omega) v2 (t + 1) (prs (L0.take t) ++ [.int .i64 Y, .int .i64 V]) (by rfl) hown4 W1.heap.size (some ⟨g, t * 2, none⟩) (N - t) (pc - t) (prs (L0.drop t)) (by rfl) HR3 (prs_one _) h633 hby3 hb4.size ?_; intro v3 w5 hown5 hgrow5 _))
                  obtain ⟨R5, c5, rfl, _, _⟩ := own_shapes hown5
                  have hb5 : Below W1.heap.size W1 w5 := hb4.trans ⟨hgrow5.os, hgrow5.tape, hgrow5.output, hgrow5.size, fun i hi => hgrow5.block i (by have := hb4.size; omega) (fun e => by have := (hown4.lt i e.symm).1; omega)⟩
                  have hB05 := hB0'.below hb5 hB0'.lt
                  have hB15 := hB1'.below hb5 hB1'.lt
                  have hbel5 : Below w.heap.size w w5 := hbel'.trans (hb5.mono hbel'.size)
                  have u2 : w5.cell? ⟨w.heap.size + 1, 2, none⟩ = some (.slice (some ⟨g, 0, none⟩) N pc) := (hB15.cell 2).trans rfl
                  have fu2 : w5.frozen? ⟨w.heap.size + 1, 2, none⟩ = false := hB15.frozen 2
                  have ul : w.heap.size + 1 < w5.heap.size := hB15.lt
                  have hfin : w5.ownsRow (w.heap.size + 2) 54 2 (.slice R5 (t + 1 + (N - t)) c5) (l ++ [(Y, V)]).length (prs (sortI (l ++ [(Y, V)]))) := by
                    refine own_base2 (B := W1.heap.size) ?_ (by have := hpl; have := hB1'.lt; have := hBP.lt; omega)
                    have e1 : t + 1 + (N - t) = (l ++ [(Y, V)]).length := by have h1 := HNN.out; have h2 : (l ++ [(Y, V)]).length = l.length + 1 := (by rw [List.length_append]; rfl); omega
                    rw [sortI_snoc, ← HL0.out, HINS.out, ← e1]
                    rw [show L0.take t ++ (Y, V) :: L0.drop t = (L0.take t ++ [(Y, V)]) ++ L0.drop t by simp, prs_append, prs_append]
                    exact hown5
                  have HFIN := Lib.hid hfin
                  clear hfin hown5 hgrow5 hown4 e2 fe2 el hb4 hRP4 hb5 HR3
                  go_wp2_with fail
                  go_roundg (m - (k + 1))
                  case measure => have := HG.out; omega
                  case rel => exact ⟨k + 1, _, l ++ [(Y, V)], by go_num, by omega, rfl, HSOME.out, ownsRow_setCell_below HFIN.out (by simp) _, hB05.far (p := ⟨w.heap.size + 1, 2, none⟩) (by simp) _, hB15.set_ 2 _, hbel5.setCell (by simp) _⟩
              · obtain rfl : t = N := by omega
                have hti : ¬ ((t : Int) < (t : Int)) := by omega
                have et : decide ((t : Int) < (t : Int)) = false := by simp
                have hins := insP_at (Y, V) L0 t (by rw [HLEN.out]; exact Nat.le_refl _) (fun j hj hjt => HLOW.out j hj hjt) (fun h => by have := HLEN.out; omega)
                have HINS := Lib.hid hins
                clear hins
                have hdrop : L0.drop t = [] := List.drop_eq_nil_of_le (by rw [HLEN.out]; exact Nat.le_refl _)
                have h633 : t + 1 + 0 ≤ maxLen := by unfold maxLen; omega
                have hby3 : (t + 1 + 0) * 16 ≤ 140737488355328 := by omega
                by_cases hpt : pc = t
                · obtain rfl : t = pc := hpt.symm
                  go_wp2_with fail
                  go_quiet (fail)
                  go_upto_region 20 with fail
                  have hRP : Reads W1 W1.heap.size 2 P t (prs L0) := Reads.of_own hOW
                  have HR1 : Reads W1 W1.heap.size 2 P t (prs (L0.take t)) := by
                    have := hRP.take (show t ≤ t by omega)
                    rw [prs_take] at this
                    exact this
                  have h63 : 0 + t ≤ maxLen := by unfold maxLen; omega
                  have hby : (0 + t) * 16 ≤ 140737488355328 := by omega
                  have htc : (t : Int) ≤ (t : Int) := by omega
                  go_upto_region 21 with (at_builtin; go_must (refine wpList_append_any _ rfl _ _ 45 rfl W1.heap.size 54 i0 _ 2 16 Try.underlying45 hi0 hz0 hz1 hz2 rfl (by omega) (.slice none 0 0) 0 [] (by rfl) (World.ownsRow_nil _ _ _ _) W1.heap.size P t t (prs (L0.take t)) (by rfl) (HR1.drewN _) (prs_one _) h63 hby (by simp) ?_; intro v1 w3 hown3 hgrow3 _))
                  have hb3 : Below W1.heap.size W1 w3 := grown_below hgrow3 (fun x hx => by simp [Value.ownBlock] at hx)
                  have hown3' : w3.ownsRow W1.heap.size 54 2 v1 t (prs (L0.take t)) := by simpa using hown3
                  have hBP3 := hBP.below hb3 hBP.lt
                  have hB13 := hB1'.below hb3 hB1'.lt
                  have d0 : w3.cell? ⟨wr.heap.size, 0, none⟩ = some (.int .i64 Y) := (hBP3.cell 0).trans rfl
                  have d1 : w3.cell? ⟨wr.heap.size, 1, none⟩ = some (.int .i64 V) := (hBP3.cell 1).trans rfl
                  have dl : wr.heap.size < w3.heap.size := hBP3.lt
                  have hc2 : ∀ u ∈ ([.int .i64 Y, .int .i64 V] : List Value), u.oneCell' = true := (by intro u hu; simp at hu; rcases hu with rfl | rfl <;> rfl)
                  have hc3 : t + 1 ≤ maxLen := (by unfold maxLen; omega)
                  have hc4 : (t + 1) * 16 ≤ 140737488355328 := (by omega)
                  have hc5 : W1.heap.size ≤ (w3.alloc (.cells #[.int .i64 Y, .int .i64 V] 54)).heap.size := (by have := hb3.size; simp; omega)
                  clear hown3 hgrow3 c2 c3 h63 hby HR1
                  go_upto_region 22 with (at_builtin; go_must (refine wpList_append_own _ rfl _ _ 45 rfl W1.heap.size 54 i0 _ 2 16 Try.underlying45 hi0 hz0 hz1 hz2 rfl (by decide) _ _ _ rfl (hown3'.alloc _) ⟨w3.heap.size, 0, none⟩ 1 1 [.int .i64 Y, .int .i64 V] rfl rfl (World.news_of_block (cs := #[.int .i64 Y, .int .i64 V]) (t := 54) (fr := (0, 0)) (heap_alloc_new w3 _)) hc2 hc3 hc4 hc5 ?_; intro v2 w4 hown4 hgrow4 _))
                  have hb4 : Below W1.heap.size W1 w4 := grown_below2 hb3 hgrow4 (fun x hx => ((hown3'.alloc (.cells #[.int .i64 Y, .int .i64 V] 54)).lt x hx).1)
                  have hB14 := hB1'.below hb4 hB1'.lt
                  have e2 : w4.cell? ⟨w.heap.size + 1, 2, none⟩ = some (.slice P t t) := (hB14.cell 2).trans rfl
                  have fe2 : w4.frozen? ⟨w.heap.size + 1, 2, none⟩ = false := hB14.frozen 2
                  have el : w.heap.size + 1 < w4.heap.size := hB14.lt
                  have hRP4 : Reads w4 W1.heap.size 2 P t (prs L0) := hRP.below hb4
                  clear hown3' hgrow4 d0 d1 dl hc2 hc3 hc4 hc5 hBP3 hB13 hb3
                  have htn : (t : Int) ≤ (t : Int) := by omega
                  skip
                  have HR3 : Reads w4 W1.heap.size 2 P 0 (prs (L0.drop t)) := by
                    rw [hdrop]
                    exact ⟨rfl, fun h => absurd h (by omega)⟩
                  go_upto_region 23 with (at_builtin; go_must (refine wpList_append_any _ rfl _ _ 45 rfl W1.heap.size 54 i0 _ 2 16 Try.underlying45 hi0 hz0 hz1 hz2 rfl (by omega) v2 (t + 1) (prs (L0.take t) ++ [.int .i64 Y, .int .i64 V]) (by rfl) hown4 W1.heap.size P (0) 0 (prs (L0.drop t)) (by rfl) HR3 (prs_one _) h633 hby3 hb4.size ?_; intro v3 w5 hown5 hgrow5 _))
                  obtain ⟨R5, c5, rfl, _, _⟩ := own_shapes hown5
                  have hb5 : Below W1.heap.size W1 w5 := hb4.trans ⟨hgrow5.os, hgrow5.tape, hgrow5.output, hgrow5.size, fun i hi => hgrow5.block i (by have := hb4.size; omega) (fun e => by have := (hown4.lt i e.symm).1; omega)⟩
                  have hB05 := hB0'.below hb5 hB0'.lt
                  have hB15 := hB1'.below hb5 hB1'.lt
                  have hbel5 : Below w.heap.size w w5 := hbel'.trans (hb5.mono hbel'.size)
                  have u2 : w5.cell? ⟨w.heap.size + 1, 2, none⟩ = some (.slice P t t) := (hB15.cell 2).trans rfl
                  have fu2 : w5.frozen? ⟨w.heap.size + 1, 2, none⟩ = false := hB15.frozen 2
                  have ul : w.heap.size + 1 < w5.heap.size := hB15.lt
                  have hfin : w5.ownsRow (w.heap.size + 2) 54 2 (.slice R5 (t + 1 + (0)) c5) (l ++ [(Y, V)]).length (prs (sortI (l ++ [(Y, V)]))) := by
                    refine own_base2 (B := W1.heap.size) ?_ (by have := hpl; have := hB1'.lt; have := hBP.lt; omega)
                    have e1 : t + 1 + (0) = (l ++ [(Y, V)]).length := by have h1 := HNN.out; have h2 : (l ++ [(Y, V)]).length = l.length + 1 := (by rw [List.length_append]; rfl); omega
                    rw [sortI_snoc, ← HL0.out, HINS.out, ← e1]
                    rw [show L0.take t ++ (Y, V) :: L0.drop t = (L0.take t ++ [(Y, V)]) ++ L0.drop t by simp, prs_append, prs_append]
                    exact hown5
                  have HFIN := Lib.hid hfin
                  clear hfin hown5 hgrow5 hown4 e2 fe2 el hb4 hRP4 hb5 HR3
                  go_wp2_with fail
                  go_roundg (m - (k + 1))
                  case measure => have := HG.out; omega
                  case rel => exact ⟨k + 1, _, l ++ [(Y, V)], by go_num, by omega, rfl, HSOME.out, ownsRow_setCell_below HFIN.out (by simp) _, hB05.far (p := ⟨w.heap.size + 1, 2, none⟩) (by simp) _, hB15.set_ 2 _, hbel5.setCell (by simp) _⟩
                · obtain ⟨g, rfl⟩ : ∃ g, P = some ⟨g, 0, none⟩ := by
                    rcases hOW.2 with ⟨h1, h2⟩ | ⟨g, cap, cur, h1, _⟩
                    · injection h1 with a1 a2 a3
                      omega
                    · injection h1 with a1 a2 a3
                      exact ⟨g, a1⟩
                  go_wp2_with fail
                  go_quiet (fail)
                  go_upto_region 20 with fail
                  have hRP : Reads W1 W1.heap.size 2 (some ⟨g, 0, none⟩) t (prs L0) := Reads.of_own hOW
                  have HR1 : Reads W1 W1.heap.size 2 (some ⟨g, 0, none⟩) t (prs (L0.take t)) := by
                    have := hRP.take (show t ≤ t by omega)
                    rw [prs_take] at this
                    exact this
                  have h63 : 0 + t ≤ maxLen := by unfold maxLen; omega
                  have hby : (0 + t) * 16 ≤ 140737488355328 := by omega
                  have htc : (t : Int) ≤ (pc : Int) := by omega
                  go_upto_region 21 with (at_builtin; go_must (refine wpList_append_any _ rfl _ _ 45 rfl W1.heap.size 54 i0 _ 2 16 Try.underlying45 hi0 hz0 hz1 hz2 rfl (by omega) (.slice none 0 0) 0 [] (by rfl) (World.ownsRow_nil _ _ _ _) W1.heap.size (some ⟨g, 0, none⟩) t pc (prs (L0.take t)) (by rfl) (HR1.drewN _) (prs_one _) h63 hby (by simp) ?_; intro v1 w3 hown3 hgrow3 _))
                  have hb3 : Below W1.heap.size W1 w3 := grown_below hgrow3 (fun x hx => by simp [Value.ownBlock] at hx)
                  have hown3' : w3.ownsRow W1.heap.size 54 2 v1 t (prs (L0.take t)) := by simpa using hown3
                  have hBP3 := hBP.below hb3 hBP.lt
                  have hB13 := hB1'.below hb3 hB1'.lt
                  have d0 : w3.cell? ⟨wr.heap.size, 0, none⟩ = some (.int .i64 Y) := (hBP3.cell 0).trans rfl
                  have d1 : w3.cell? ⟨wr.heap.size, 1, none⟩ = some (.int .i64 V) := (hBP3.cell 1).trans rfl
                  have dl : wr.heap.size < w3.heap.size := hBP3.lt
                  have hc2 : ∀ u ∈ ([.int .i64 Y, .int .i64 V] : List Value), u.oneCell' = true := (by intro u hu; simp at hu; rcases hu with rfl | rfl <;> rfl)
                  have hc3 : t + 1 ≤ maxLen := (by unfold maxLen; omega)
                  have hc4 : (t + 1) * 16 ≤ 140737488355328 := (by omega)
                  have hc5 : W1.heap.size ≤ (w3.alloc (.cells #[.int .i64 Y, .int .i64 V] 54)).heap.size := (by have := hb3.size; simp; omega)
                  clear hown3 hgrow3 c2 c3 h63 hby HR1
                  go_upto_region 22 with (at_builtin; go_must (refine wpList_append_own _ rfl _ _ 45 rfl W1.heap.size 54 i0 _ 2 16 Try.underlying45 hi0 hz0 hz1 hz2 rfl (by decide) _ _ _ rfl (hown3'.alloc _) ⟨w3.heap.size, 0, none⟩ 1 1 [.int .i64 Y, .int .i64 V] rfl rfl (World.news_of_block (cs := #[.int .i64 Y, .int .i64 V]) (t := 54) (fr := (0, 0)) (heap_alloc_new w3 _)) hc2 hc3 hc4 hc5 ?_; intro v2 w4 hown4 hgrow4 _))
                  have hb4 : Below W1.heap.size W1 w4 := grown_below2 hb3 hgrow4 (fun x hx => ((hown3'.alloc (.cells #[.int .i64 Y, .int .i64 V] 54)).lt x hx).1)
                  have hB14 := hB1'.below hb4 hB1'.lt
                  have e2 : w4.cell? ⟨w.heap.size + 1, 2, none⟩ = some (.slice (some ⟨g, 0, none⟩) t pc) := (hB14.cell 2).trans rfl
                  have fe2 : w4.frozen? ⟨w.heap.size + 1, 2, none⟩ = false := hB14.frozen 2
                  have el : w.heap.size + 1 < w4.heap.size := hB14.lt
                  have hRP4 : Reads w4 W1.heap.size 2 (some ⟨g, 0, none⟩) t (prs L0) := hRP.below hb4
                  clear hown3' hgrow4 d0 d1 dl hc2 hc3 hc4 hc5 hBP3 hB13 hb3
                  have htn : (t : Int) ≤ (t : Int) := by omega
                  skip
                  have HR3 : Reads w4 W1.heap.size 2 (some ⟨g, t * 2, none⟩) 0 (prs (L0.drop t)) := by
                    rw [hdrop]
                    exact ⟨rfl, fun h => absurd h (by omega)⟩
                  go_upto_region 23 with (at_builtin; go_must (refine wpList_append_any _ rfl _ _ 45 rfl W1.heap.size 54 i0 _ 2 16 Try.underlying45 hi0 hz0 hz1 hz2 rfl (by omega) v2 (t + 1) (prs (L0.take t) ++ [.int .i64 Y, .int .i64 V]) (by rfl) hown4 W1.heap.size (some ⟨g, t * 2, none⟩) (0) (pc - t) (prs (L0.drop t)) (by rfl) HR3 (prs_one _) h633 hby3 hb4.size ?_; intro v3 w5 hown5 hgrow5 _))
                  obtain ⟨R5, c5, rfl, _, _⟩ := own_shapes hown5
                  have hb5 : Below W1.heap.size W1 w5 := hb4.trans ⟨hgrow5.os, hgrow5.tape, hgrow5.output, hgrow5.size, fun i hi => hgrow5.block i (by have := hb4.size; omega) (fun e => by have := (hown4.lt i e.symm).1; omega)⟩
                  have hB05 := hB0'.below hb5 hB0'.lt
                  have hB15 := hB1'.below hb5 hB1'.lt
                  have hbel5 : Below w.heap.size w w5 := hbel'.trans (hb5.mono hbel'.size)
                  have u2 : w5.cell? ⟨w.heap.size + 1, 2, none⟩ = some (.slice (some ⟨g, 0, none⟩) t pc) := (hB15.cell 2).trans rfl
                  have fu2 : w5.frozen? ⟨w.heap.size + 1, 2, none⟩ = false := hB15.frozen 2
                  have ul : w.heap.size + 1 < w5.heap.size := hB15.lt
                  have hfin : w5.ownsRow (w.heap.size + 2) 54 2 (.slice R5 (t + 1 + (0)) c5) (l ++ [(Y, V)]).length (prs (sortI (l ++ [(Y, V)]))) := by
                    refine own_base2 (B := W1.heap.size) ?_ (by have := hpl; have := hB1'.lt; have := hBP.lt; omega)
                    have e1 : t + 1 + (0) = (l ++ [(Y, V)]).length := by have h1 := HNN.out; have h2 : (l ++ [(Y, V)]).length = l.length + 1 := (by rw [List.length_append]; rfl); omega
                    rw [sortI_snoc, ← HL0.out, HINS.out, ← e1]
                    rw [show L0.take t ++ (Y, V) :: L0.drop t = (L0.take t ++ [(Y, V)]) ++ L0.drop t by simp, prs_append, prs_append]
                    exact hown5
                  have HFIN := Lib.hid hfin
                  clear hfin hown5 hgrow5 hown4 e2 fe2 el hb4 hRP4 hb5 HR3
                  go_wp2_with fail
                  go_roundg (m - (k + 1))
                  case measure => have := HG.out; omega
                  case rel => exact ⟨k + 1, _, l ++ [(Y, V)], by go_num, by omega, rfl, HSOME.out, ownsRow_setCell_below HFIN.out (by simp) _, hB05.far (p := ⟨w.heap.size + 1, 2, none⟩) (by simp) _, hB15.set_ 2 _, hbel5.setCell (by simp) _⟩
        · have en : (S != 1) = true := by simp [h1]
          go_wp2_with fail
          go_roundg (m - (k + 1))
          case measure => have := HG.out; omega
          case rel =>
            refine ⟨k + 1, pv, l, by go_num, by omega, rfl, ?_, hown, hB0, hB1, hbel⟩
            unfold accF
            rw [HACC.out]
            simp only
            rw [if_neg (by rw [← HS.out]; exact h1), if_pos (by rw [← HS.out]; omega)]
    · obtain rfl : k = m := by omega
      obtain ⟨P, pc, rfl, hpc, hRd⟩ := own_shapes hown
      have c0 : wr.cell? ⟨b, off, none⟩ = some (.int .i64 (cnt cs)) := (hbel.cell (p := ⟨b, off, none⟩) hb).trans (by
        have := HC.out 0 _ (ints_at cs 0 (by have := HL.out; omega))
        rw [Nat.add_zero] at this
        rw [this]
        simp [cnt, List.getD_eq_getElem?_getD, List.getElem?_eq_getElem (show 0 < cs.length by have := HL.out; omega)])
      have hll : l.length ≤ 16 := by have := (accF_keys k cs k l HACC.out).1; omega
      have hsr := shapeR_some hm16 HL.out HACC.out
      obtain ⟨c, hcc⟩ : ∃ c, c = cnt cs := ⟨_, rfl⟩
      rw [← hcc] at c0 hsr
      clear hRd hcc
      have n0 : wr.cell? ⟨w.heap.size, 0, none⟩ = some (.int .i64 0) := (hB0.cell 0).trans rfl
      have n1 : wr.cell? ⟨w.heap.size, 1, none⟩ = some (.slice none 0 0) := (hB0.cell 1).trans rfl
      have n2 : wr.cell? ⟨w.heap.size, 2, none⟩ = some (.slice none 0 0) := (hB0.cell 2).trans rfl
      have f0 : wr.frozen? ⟨w.heap.size, 0, none⟩ = false := hB0.frozen 0
      have f1 : wr.frozen? ⟨w.heap.size, 1, none⟩ = false := hB0.frozen 1
      have f2 : wr.frozen? ⟨w.heap.size, 2, none⟩ = false := hB0.frozen 2
      have q0 : wr.cell? ⟨w.heap.size + 1, 0, none⟩ = some (.int .i64 3) := (hB1.cell 0).trans rfl
      have q1 : wr.cell? ⟨w.heap.size + 1, 1, none⟩ = some (.slice none 0 0) := (hB1.cell 1).trans rfl
      by_cases hcn : c = (l.length : Int)
      · have ec : (c != (l.length : Int)) = false := by simp [hcn]
        rw [if_pos hcn] at hsr
        have HSR := Lib.hid hsr
        have HO3 := Lib.hid hown
        clear hsr hcn hB0 hB1 hown
        go_wp2_with fail
        go_quiet (fail)
        go_wp2_with fail
        refine bodyPost_ret (v := .tuple #[.agg #[.int .i64 3, .slice none 0 0, .slice P l.length pc], .int .i64 0]) (by simp [results, Try.results23, go_sem, n0, n1, n2]) rfl ?_
        rw [HSR.out]
        refine ⟨_, rfl, ?_, by repeat (first | with_reducible exact hbel | with_reducible refine Below.drew ?_ | with_reducible refine below_drewN ?_ _ | ((with_reducible refine Below.alloc ?_ ?_ _); (rotate_left; focus (first | with_reducible exact Nat.le_refl _ | omega | (simp; done) | (simp; omega) | (simp [World.setCell]; done) | (simp [World.setCell]; omega)))) | ((with_reducible refine Below.setCell ?_ ?_ _); (rotate_left; focus (first | with_reducible exact Nat.le_refl _ | omega | (simp; done) | (simp; omega) | (simp [World.setCell]; done) | (simp [World.setCell]; omega)))))⟩
        simp only [sortI_length]
        refine own_base2 (B := w.heap.size + 2) ?_ (by omega)
        repeat (first | with_reducible exact HO3.out | with_reducible exact own_drewN HO3.out | ((with_reducible refine ownsRow_setCell_below ?_ ?_ _); (rotate_left; focus (first | (simp; done) | (simp; omega)))))
      · have ec : (c != (l.length : Int)) = true := by simp [hcn]
        rw [if_neg hcn] at hsr
        have HNONE := Lib.hid hsr
        clear hsr hcn hown
        go_wp2_with fail
        go_quiet (fail)
        go_wp2_with fail
        refine bodyPost_ret (v := .tuple #[.agg #[.int .i64 0, .slice none 0 0, .slice none 0 0], .int .i64 12]) (by simp [results, Try.results23, go_sem, n0, n1, n2]) rfl ?_
        rw [HNONE.out]
        exact ⟨_, rfl, World.ownsRow_nil _ _ _ _, by repeat (first | with_reducible exact hbel | with_reducible refine Below.drew ?_ | with_reducible refine below_drewN ?_ _ | ((with_reducible refine Below.alloc ?_ ?_ _); (rotate_left; focus (first | with_reducible exact Nat.le_refl _ | omega | (simp; done) | (simp; omega) | (simp [World.setCell]; done) | (simp [World.setCell]; omega)))) | ((with_reducible refine Below.setCell ?_ ?_ _); (rotate_left; focus (first | with_reducible exact Nat.le_refl _ | omega | (simp; done) | (simp; omega) | (simp [World.setCell]; done) | (simp [World.setCell]; omega)))))⟩
end Go.Proofs.Ytjggcidaolnmbaa
