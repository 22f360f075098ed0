/- The document's Touched, walked. -/
import Derived.Test.YtnpeldbnnneijaaMt4
import Derived.StillTailTactics
namespace Go.Proofs.Ytnpeldbnnneijaa
open Go.RowKit Go.Joins Go.ChangeShapes Go.WideShapes Go.Deep
set_option linter.unusedVariables false
set_option maxRecDepth 100000

theorem below_none {w w1 : World} (h : w.grownBy w1 none) : Below w.heap.size w w1 := ⟨h.os, h.tape, h.output, h.size, fun q hq => h.block q hq (by simp)⟩
theorem below_row {a w : World} {row : Option Nat} {B : Nat} (h : a.grownBy w row) (hr : ∀ g, row = some g → B ≤ g) (hs : B ≤ a.heap.size) : Below B a w :=
  ⟨h.os, h.tape, h.output, h.size, fun q hq => h.block q (by omega) (fun e => by have := hr q e.symm; omega)⟩
theorem Reads.head {w : World} {B size n k : Nat} {A : Option Addr} {xs : List Value} (h : Reads w B size A n xs) (hk : k ≤ n) : Reads w B size A k (xs.take (k * size)) := by
  refine ⟨?_, fun hn => ?_⟩
  · rw [List.length_take, h.1]
    exact Nat.min_eq_left (Nat.mul_le_mul_right _ hk)
  · obtain ⟨ad, rfl, hb, hc⟩ := h.2 (by omega)
    refine ⟨ad, rfl, hb, fun j u hj => ?_⟩
    rw [List.getElem?_take] at hj
    split at hj
    · exact hc j u hj
    · cases hj
theorem Blk.at0 {w : World} {g : Nat} {t : TypeId} {cs : Array Value} (h : Blk w g t cs) (j : Nat) : w.cell? ((⟨g, 0, none⟩ : Addr).add j) = cs[j]? := by
  rw [show ((⟨g, 0, none⟩ : Addr).add j) = ⟨g, j, none⟩ by unfold Addr.add; split <;> simp_all]
  exact h.cell j
theorem lit_read {w : World} {t : TypeId} (v : List Value) (size : Nat) (h : v.length = size) : Reads (w.alloc (.cells v.toArray t)) (w.heap.size + 1) size (some ⟨w.heap.size, 0, none⟩) 1 v :=
  ⟨by omega, fun _ => ⟨_, rfl, by simp, fun j u hu => by rw [(Blk.new w t v.toArray).at0 j]; simpa using hu⟩⟩
theorem le_alloc (w : World) (o : Obj) : w.heap.size + 1 ≤ (w.alloc o).heap.size := by simp
theorem below_two {w w1 w2 : World} {o : Obj} {e size n : Nat} {v : Value} {xs : List Value} (hb : Below w.heap.size w w1) (hown : w1.ownsRow w.heap.size e size v n xs) (hg : (w1.alloc o).grownBy w2 v.ownBlock) : Below w.heap.size w w2 :=
  (hb.alloc hb.size o).trans (below_row hg (fun g e => (hown.lt g e).1) (Nat.le_trans hb.size (by simp)))
theorem own_form3 {w : World} {B e n size : Nat} {V : Option Addr} {vc k : Nat} {xs : List Value} (h : w.ownsRow B e size (.slice V n vc) n xs) (hk : k ≤ n) : (V = none ∧ n = 0 ∧ vc = 0 ∧ k = 0) ∨ (∃ g, V = some ⟨g, 0, none⟩ ∧ vc = k ∧ n = k) ∨ (∃ g, V = some ⟨g, 0, none⟩ ∧ vc ≠ k) := by
  rcases h.2 with ⟨hv, h0⟩ | ⟨g, cap, cur, hv, _, _, hnc, _⟩
  · injection hv with e1 e2 e3
    exact .inl ⟨e1, e2, e3, by omega⟩
  · injection hv with e1 e2 e3
    by_cases hc : vc = k
    · exact .inr (.inl ⟨g, e1, hc, by omega⟩)
    · exact .inr (.inr ⟨g, e1, hc⟩)
theorem own_below {w w' : World} {base n size : Nat} {e : TypeId} {v : Value} {xs : List Value} (h : w.ownsRow base e size v n xs) (hb : Below w.heap.size w w') : w'.ownsRow base e size v n xs := own_keep h fun b hb' => hb.block b (h.lt b hb').2
theorem tchs_split (l : List Tch) (p : Nat) : tchs l = tchs (l.take p) ++ tchs (l.drop p) := by
  have := List.flatMap_append (xs := l.take p) (ys := l.drop p) (f := Tch.cells)
  rwa [List.take_append_drop] at this
theorem tchs_take (l : List Tch) (p : Nat) : (tchs l).take (p * 6) = tchs (l.take p) := by
  apply List.ext_getElem?
  intro j
  have h1 : (tchs (l.take p)).length = min p l.length * 6 := by rw [tchs_length, List.length_take]
  by_cases hj : j < p * 6
  · rw [List.getElem?_take, if_pos hj]
    by_cases hl : j < l.length * 6
    · rw [tchs_split l p, List.getElem?_append_left (by rw [h1]; omega)]
    · rw [List.getElem?_eq_none (by rw [tchs_length]; omega), List.getElem?_eq_none (by rw [h1]; omega)]
  · rw [List.getElem?_take, if_neg hj, List.getElem?_eq_none (by rw [h1]; omega)]
theorem tchs_drop (l : List Tch) (p : Nat) (hp : p ≤ l.length) : (tchs l).drop (p * 6) = tchs (l.drop p) := by
  rw [tchs_split l p, List.drop_append, List.drop_eq_nil_of_le (by rw [tchs_length, List.length_take]; omega), List.nil_append, tchs_length, List.length_take, Nat.min_eq_left hp, Nat.sub_self, List.drop_zero]
theorem cells_one (l : List Tch) : ∀ u ∈ tchs l, u.oneCell' = true := by
  intro u hu
  unfold tchs rows at hu
  obtain ⟨t, _, h⟩ := List.mem_flatMap.1 hu
  simp [Tch.cells] at h
  rcases h with rfl | rfl | rfl | rfl | rfl | rfl <;> rfl
def RRel (w : World) (L : List Acc) (n : Nat) (gk : Nat) (ov iv : Value) (wr : World) : Prop :=
  ∃ q : Nat, iv = .int .i64 q ∧ q ≤ n ∧ gk = n - q ∧ ∃ out, out = (L.take q).foldl ins [] ∧ out.length ≤ q ∧ wr.ownsRow w.heap.size 75 6 ov out.length (tchs out) ∧ Below w.heap.size w wr
/-- What is known where the inner search ends. -/
def NewFacts (out : List Tch) (x : Acc) (p N : Nat) : Prop := (ins out x).length = N + 1 ∧ tchs (ins out x) = (tchs (out.take p) ++ (start x).cells ++ tchs (out.drop p)).set (p * 6 + kindAt x.kind) (.int .i64 (0 + 1))

set_option maxHeartbeats 16000000 in
theorem rtouched_any {w : World} {base b C R : Nat} {lv : Value} {L : List Acc} (h : RIs w base b lv C R L) (hlog : L.length ≤ 2199023255551) :
    Calls Try.prog 28 #[.pointer (some ⟨b, 0, none⟩)] w (TchPost L w) := by
  obtain ⟨Rl, rc, rfl, hcap, hRd⟩ := own_shapes h.log
  have c2 : w.cell? ⟨b, 2, none⟩ = some (.slice Rl L.length rc) := (h.blk.cell 2).trans rfl
  have hbl := h.blk.lt
  have HR := Lib.hid hRd
  obtain ⟨i0, hi0, hz0, hz1, hz2⟩ := info_parts info_touch
  obtain ⟨n, hn⟩ : ∃ n, n = L.length := ⟨_, rfl⟩
  have HN := Lib.hid hn
  rw [← hn] at c2 hlog
  clear h hRd hn hcap
  go_enter Try.func28, Try.ntmps28
  go_wp2_with fail
  go_loopg [3, 4] n (fun gk ov iv wr => RRel w L n gk ov iv wr)
  case atStart => exact ⟨0, rfl, Nat.zero_le _, rfl, [], rfl, Nat.zero_le _, World.ownsRow_nil _ _ _ _, Below.refl _ _⟩
  case round =>
    obtain ⟨wo, rfl⟩ : ∃ wo, wo = wr := ⟨_, rfl⟩
    obtain ⟨q, rfl, hq, hgk, out, hout, hoq, hown, hbel⟩ := hrel
    have HG := Lib.hid hgk
    have HOUT := Lib.hid hout
    obtain ⟨N, hN⟩ : ∃ N, out.length = N := ⟨_, rfl⟩
    rw [hN] at hown hoq
    have HLEN := Lib.hid hN
    obtain ⟨V, vc, rfl, hvc, hV⟩ := own_shapes hown
    have d2 : wo.cell? ⟨b, 2, none⟩ = some (.slice Rl n rc) := (hbel.cell (p := ⟨b, 2, none⟩) hbl).trans c2
    have hblr : b < wo.heap.size := by have := hbel.size; omega
    clear hgk hout hN
    by_cases hqn : q < n
    · have hql : q < L.length := by rw [← HN.out]; exact hqn
      have hst := ins_step L q hql
      rw [← HOUT.out] at hst
      obtain ⟨g0, off, rfl, hg0, hc⟩ := (HR.out.below hbel).flatN (by omega) (by omega)
      have hx : ∀ s u, s < 8 → (L[q].cells)[s]? = some u → wo.cell? ⟨g0, off + q * 8 + s, none⟩ = some u := by
        intro s u hs hu
        rw [Nat.add_assoc]
        refine hc (q * 8 + s) u ?_
        rw [show q * 8 + s = 8 * q + s by omega, accs_at L q s hql hs]
        exact hu
      obtain ⟨X, hX⟩ : ∃ X, X = L[q] := ⟨_, rfl⟩
      rw [← hX] at hx hst
      obtain ⟨th, kd, xk, xi, xj, ol, vl, ys⟩ := X
      have x0 : wo.cell? ⟨g0, off + q * 8, none⟩ = some (.int .i64 th) := hx 0 _ (by omega) rfl
      have x1 : wo.cell? ⟨g0, off + q * 8 + 1, none⟩ = some (.int .i64 kd) := hx 1 _ (by omega) rfl
      have x2 : wo.cell? ⟨g0, off + q * 8 + 2, none⟩ = some (.int .i64 xk) := hx 2 _ (by omega) rfl
      have x3 : wo.cell? ⟨g0, off + q * 8 + 3, none⟩ = some (.int .i64 xi) := hx 3 _ (by omega) rfl
      have x4 : wo.cell? ⟨g0, off + q * 8 + 4, none⟩ = some (.int .i64 xj) := hx 4 _ (by omega) rfl
      have x5 : wo.cell? ⟨g0, off + q * 8 + 5, none⟩ = some (.int .i64 ol) := hx 5 _ (by omega) rfl
      have x6 : wo.cell? ⟨g0, off + q * 8 + 6, none⟩ = some (.int .i64 vl) := hx 6 _ (by omega) rfl
      have x7 : wo.cell? ⟨g0, off + q * 8 + 7, none⟩ = some (.bool ys) := hx 7 _ (by omega) rfl
      have hgr : g0 < wo.heap.size := by have := hbel.size; omega
      have hti : (q : Int) < (n : Int) := by omega
      have HST := Lib.hid hst
      have hri : Rising out := by rw [HOUT.out]; exact ins_rising _
      have HRI := Lib.hid hri
      have hsm : ∀ t ∈ out, SmallT q t := by
        rw [HOUT.out]
        have := (ins_small (L.take q)).2
        rwa [List.length_take, Nat.min_eq_left (by omega)] at this
      have HSM := Lib.hid hsm
      have HV := Lib.hid hV
      have HOWN := Lib.hid hown
      have HBEL := Lib.hid hbel
      have HX := Lib.hid hX
      have hwo := hbel.size
      clear hc hx hX hst hri hsm hV hown hbel
      go_wp2_with fail
      go_loopg [6] N (fun gk iv wy => ∃ p : Nat, iv = .int .i64 p ∧ p ≤ N ∧ gk = N - p ∧ Hid (∀ i (h : i < out.length), i < p → lt3 out[i].key (xk, xi, xj)) ∧ Blk wy wo.heap.size 44 #[.int .i64 th, .int .i64 kd, .int .i64 xk, .int .i64 xi, .int .i64 xj, .int .i64 ol, .int .i64 vl, .bool ys] ∧ Below wo.heap.size wo wy)
      case atStart => exact ⟨0, rfl, Nat.zero_le _, rfl, Lib.hid fun i h hi => absurd hi (Nat.not_lt_zero _), by first | exact Blk.new _ _ _ | exact (Blk.new _ _ _).drewN _, by repeat (first | with_reducible exact Below.refl _ _ | with_reducible refine Below.drew ?_ | with_reducible refine below_drewN ?_ _ | ((with_reducible refine Below.alloc ?_ ?_ _); (rotate_left; focus (first | with_reducible exact Nat.le_refl _ | omega | (simp; done) | (simp; omega) | (simp [World.setCell]; done) | (simp [World.setCell]; omega)))) | ((with_reducible refine Below.setCell ?_ ?_ _); (rotate_left; focus (first | with_reducible exact Nat.le_refl _ | omega | (simp; done) | (simp; omega) | (simp [World.setCell]; done) | (simp [World.setCell]; omega)))))⟩
      case round =>
        clear x0 x1 x2 x3 x4 x5 x6 x7
        obtain ⟨p, rfl, hp, hgp, HLT, hB, hby⟩ := hrel
        have HGP := Lib.hid hgp
        have HBY := Lib.hid hby
        have hown1 := own_below HOWN.out hby
        have hwy := hby.size
        have hBl := hB.lt
        clear hgp hby
        have hbw : Below w.heap.size w wr := HBEL.out.trans (HBY.out.mono hwo)
        have HBW := Lib.hid hbw
        clear hbw
        by_cases hpn : p < N
        · have hpl : p < out.length := by rw [HLEN.out]; exact hpn
          obtain ⟨g, cap, hv, hg, hgl⟩ := hown1.form (by omega)
          injection hv with e1 e2 e3
          subst e1 e3
          clear e2
          have hgo : g < wo.heap.size := (HOWN.out.lt g rfl).2
          have hzc : ∀ W, Below wo.heap.size wo W → ∀ t u, t < 6 → (out[p].cells)[t]? = some u → W.cell? ⟨g, p * 6 + t, none⟩ = some u := by
            intro W hW t u ht hu
            rw [(own_below HOWN.out hW).cellAt (p * 6 + t) (by omega), tchs_at out p t hpl ht]
            exact hu
          have HZC := Lib.hid hzc
          have z0 : wr.cell? ⟨g, p * 6, none⟩ = some (.int .i64 out[p].k) := hzc wr HBY.out 0 _ (by omega) rfl
          have z1 : wr.cell? ⟨g, p * 6 + 1, none⟩ = some (.int .i64 out[p].i) := hzc wr HBY.out 1 _ (by omega) rfl
          have z2 : wr.cell? ⟨g, p * 6 + 2, none⟩ = some (.int .i64 out[p].j) := hzc wr HBY.out 2 _ (by omega) rfl
          have hah := fun W => ahead_any out[p].k out[p].i out[p].j xk xi xj W
          have hpi : (p : Int) < (N : Int) := by omega
          have x1 : wr.cell? ⟨wo.heap.size, 1, none⟩ = some (.int .i64 kd) := (hB.cell 1).trans rfl
          have x2 : wr.cell? ⟨wo.heap.size, 2, none⟩ = some (.int .i64 xk) := (hB.cell 2).trans rfl
          have x3 : wr.cell? ⟨wo.heap.size, 3, none⟩ = some (.int .i64 xi) := (hB.cell 3).trans rfl
          have x4 : wr.cell? ⟨wo.heap.size, 4, none⟩ = some (.int .i64 xj) := (hB.cell 4).trans rfl
          have xl := hB.lt
          clear hzc
          by_cases hlt : lt3 out[p].key (xk, xi, xj)
          · rw [show decide (lt3 (out[p].k, out[p].i, out[p].j) (xk, xi, xj)) = true from decide_eq_true hlt] at hah
            have HLT2 := Lib.hid hlt
            clear hlt
            go_wp2_with fail
            refine wp_region_still_tail 7 (by kernel_rfl) (by kernel_rfl) ?_
            change wpStill _ _ (World.drew _) (fun a' => wpList _ _ _ _ a' (World.drew _)) _ _
            simp only [List.take_succ_cons, List.take_zero, List.drop_succ_cons, List.drop_zero]
            repeat still_step
            refine wpStill_nil ?_
            go_wp2_with fail
            refine (hah _).mono ?_
            rintro e w2 ⟨rfl, hb2⟩
            have hb2' : Below wr.heap.size wr w2 := ⟨hb2.os, hb2.tape, hb2.output, hb2.size, hb2.block⟩
            have hB2 := hB.below hb2' hB.lt
            have hby2 := HBY.out.trans (hb2'.mono hwy)
            have HBY2 := Lib.hid hby2
            clear hb2 hb2' hby2 z0 z1 z2 x1 x2 x3 x4
            go_wp2_with fail
            go_roundg (N - (p + 1))
            case measure => have := HGP.out; omega
            case rel =>
              refine ⟨p + 1, by go_num, by omega, rfl, Lib.hid fun i h hi => ?_, hB2, HBY2.out⟩
              rcases Nat.lt_or_eq_of_le (Nat.le_of_lt_succ hi) with h2 | h2
              · exact HLT.out i h h2
              · subst h2; exact HLT2.out
          · rw [show decide (lt3 (out[p].k, out[p].i, out[p].j) (xk, xi, xj)) = false from decide_eq_false hlt] at hah
            have HNL := Lib.hid hlt
            have hsame := fun W => same_any out[p].k out[p].i out[p].j xk xi xj W
            clear hlt
            go_wp2_with fail
            refine wp_region_still_tail 7 (by kernel_rfl) (by kernel_rfl) ?_
            change wpStill _ _ (World.drew _) (fun a' => wpList _ _ _ _ a' (World.drew _)) _ _
            simp only [List.take_succ_cons, List.take_zero, List.drop_succ_cons, List.drop_zero]
            repeat still_step
            refine wpStill_nil ?_
            go_wp2_with fail
            refine (hah _).mono ?_
            rintro e w2 ⟨rfl, hb2⟩
            have hb2' : Below wr.heap.size wr w2 := ⟨hb2.os, hb2.tape, hb2.output, hb2.size, hb2.block⟩
            have hB2 := hB.below hb2' hB.lt
            have hby2 := HBY.out.trans (hb2'.mono hwy)
            have hwy2 := hby2.size
            have HBY2 := Lib.hid hby2
            clear hb2 hb2' hby2 z0 z1 z2 x1 x2 x3 x4 hah xl hB
            have z0 : w2.cell? ⟨g, p * 6, none⟩ = some (.int .i64 out[p].k) := HZC.out w2 HBY2.out 0 _ (by omega) rfl
            have z1 : w2.cell? ⟨g, p * 6 + 1, none⟩ = some (.int .i64 out[p].i) := HZC.out w2 HBY2.out 1 _ (by omega) rfl
            have z2 : w2.cell? ⟨g, p * 6 + 2, none⟩ = some (.int .i64 out[p].j) := HZC.out w2 HBY2.out 2 _ (by omega) rfl
            have hgl2 : g < w2.heap.size := by omega
            have x1 : w2.cell? ⟨wo.heap.size, 1, none⟩ = some (.int .i64 kd) := (hB2.cell 1).trans rfl
            have x2 : w2.cell? ⟨wo.heap.size, 2, none⟩ = some (.int .i64 xk) := (hB2.cell 2).trans rfl
            have x3 : w2.cell? ⟨wo.heap.size, 3, none⟩ = some (.int .i64 xi) := (hB2.cell 3).trans rfl
            have x4 : w2.cell? ⟨wo.heap.size, 4, none⟩ = some (.int .i64 xj) := (hB2.cell 4).trans rfl
            have xl := hB2.lt
            by_cases he : out[p].key = (xk, xi, xj)
            · rw [show decide (out[p].k = xk ∧ out[p].i = xi ∧ out[p].j = xj) = true by simpa [Tch.key] using he] at hsame
              have hh := round_here (x := ⟨th, kd, xk, xi, xj, ol, vl, ys⟩) HRI.out hpl he
              clear he
              go_wp2_with fail
              refine wp_region_still_tail 7 (by kernel_rfl) (by kernel_rfl) ?_
              change wpStill _ _ (World.drew _) (fun a' => wpList _ _ _ _ a' (World.drew _)) _ _
              simp only [List.take_succ_cons, List.take_zero, List.drop_succ_cons, List.drop_zero]
              repeat still_step
              refine wpStill_nil ?_
              go_wp2_with fail
              refine (hsame _).mono ?_
              rintro e wz ⟨rfl, hb3⟩
              have hb3' : Below w2.heap.size w2 wz := ⟨hb3.os, hb3.tape, hb3.output, hb3.size, hb3.block⟩
              have hBz := hB2.below hb3' hB2.lt
              have hbyz := HBY2.out.trans (hb3'.mono hwy2)
              have hownz := own_below HOWN.out hbyz
              have HBW := Lib.hid (HBEL.out.trans (hbyz.mono hwo))
              have HBYZ := Lib.hid hbyz
              have hglz : g < wz.heap.size := by have := hb3'.size; omega
              clear hb3 hb3' hbyz z0 z1 z2 x1 x2 x3 x4 xl hsame
              have x1 : wz.cell? ⟨wo.heap.size, 1, none⟩ = some (.int .i64 kd) := (hBz.cell 1).trans rfl
              have xl := hBz.lt
              have d3 : wz.cell? ⟨g, p * 6 + 3, none⟩ = some (.int .i64 out[p].loads) := HZC.out wz HBYZ.out 3 _ (by omega) rfl
              have d4 : wz.cell? ⟨g, p * 6 + 4, none⟩ = some (.int .i64 out[p].stores) := HZC.out wz HBYZ.out 4 _ (by omega) rfl
              have d5 : wz.cell? ⟨g, p * 6 + 5, none⟩ = some (.int .i64 out[p].swaps) := HZC.out wz HBYZ.out 5 _ (by omega) rfl
              have f3 := hownz.frozenAt (p * 6 + 3)
              have f4 := hownz.frozenAt (p * 6 + 4)
              have f5 := hownz.frozenAt (p * 6 + 5)
              obtain ⟨s1, s2, s3, s4, s5, s6⟩ := HSM.out _ (List.getElem_mem hpl)
              have HH := Lib.hid hh
              clear hh
              by_cases k1 : kd = 1
              · subst k1
                have HKA : Hid (kindAt 1 = 3 ∧ kindOf out[p] 1 = out[p].loads) := Lib.hid (by exact ⟨rfl, rfl⟩)
                go_wp2_with fail
                go_roundg (n - (q + 1))
                case measure => have := HG.out; omega
                case rel =>
                  refine ⟨q + 1, by go_num, by omega, rfl, _, HST.out.symm, ?_, ?_, ?_⟩
                  · have := HLEN.out; have := HH.out.1; omega
                  · have h1 := (hownz.stored (p * 6 + 3) (.int .i64 (out[p].loads + 1))).1
                    have h2 := HH.out.2
                    simp only [HKA.out.1, HKA.out.2] at h2
                    rw [HH.out.1, h2, HLEN.out]
                    exact h1
                  · exact HBW.out.setCell (p := ⟨g, p * 6 + 3, none⟩) (by show w.heap.size ≤ g; omega) _
              by_cases k2 : kd = 2
              · subst k2
                have HKA : Hid (kindAt 2 = 4 ∧ kindOf out[p] 2 = out[p].stores) := Lib.hid (by exact ⟨rfl, rfl⟩)
                go_wp2_with fail
                go_roundg (n - (q + 1))
                case measure => have := HG.out; omega
                case rel =>
                  refine ⟨q + 1, by go_num, by omega, rfl, _, HST.out.symm, ?_, ?_, ?_⟩
                  · have := HLEN.out; have := HH.out.1; omega
                  · have h1 := (hownz.stored (p * 6 + 4) (.int .i64 (out[p].stores + 1))).1
                    have h2 := HH.out.2
                    simp only [HKA.out.1, HKA.out.2] at h2
                    rw [HH.out.1, h2, HLEN.out]
                    exact h1
                  · exact HBW.out.setCell (p := ⟨g, p * 6 + 4, none⟩) (by show w.heap.size ≤ g; omega) _
              · have e1 : (kd == 1) = false := by simp [k1]
                have e2 : (kd == 2) = false := by simp [k2]
                have HK5 : Hid (kindAt kd = 5 ∧ kindOf out[p] kd = out[p].swaps) := Lib.hid ⟨by unfold kindAt; rw [if_neg k1, if_neg k2], by unfold kindOf; rw [if_neg k1, if_neg k2]⟩
                clear k1 k2
                have HKA : Hid (kindAt kd = 5 ∧ kindOf out[p] kd = out[p].swaps) := Lib.hid (by exact HK5.out)
                go_wp2_with fail
                go_roundg (n - (q + 1))
                case measure => have := HG.out; omega
                case rel =>
                  refine ⟨q + 1, by go_num, by omega, rfl, _, HST.out.symm, ?_, ?_, ?_⟩
                  · have := HLEN.out; have := HH.out.1; omega
                  · have h1 := (hownz.stored (p * 6 + 5) (.int .i64 (out[p].swaps + 1))).1
                    have h2 := HH.out.2
                    simp only [HKA.out.1, HKA.out.2] at h2
                    rw [HH.out.1, h2, HLEN.out]
                    exact h1
                  · exact HBW.out.setCell (p := ⟨g, p * 6 + 5, none⟩) (by show w.heap.size ≤ g; omega) _
            · rw [show decide (out[p].k = xk ∧ out[p].i = xi ∧ out[p].j = xj) = false by simpa [Tch.key] using he] at hsame
              have HNEW : Hid (NewFacts out ⟨th, kd, xk, xi, xj, ol, vl, ys⟩ p N) := Lib.hid (by rw [← HLEN.out]; exact round_new (x := ⟨th, kd, xk, xi, xj, ol, vl, ys⟩) HRI.out (Nat.le_of_lt hpl) HLT.out (.inr ⟨hpl, HNL.out⟩) (.inr ⟨hpl, he⟩))
              clear he
              go_wp2_with fail
              refine wp_region_still_tail 7 (by kernel_rfl) (by kernel_rfl) ?_
              change wpStill _ _ (World.drew _) (fun a' => wpList _ _ _ _ a' (World.drew _)) _ _
              simp only [List.take_succ_cons, List.take_zero, List.drop_succ_cons, List.drop_zero]
              repeat still_step
              refine wpStill_nil ?_
              go_wp2_with fail
              refine (hsame _).mono ?_
              rintro e wz ⟨rfl, hb3⟩
              have hb3' : Below w2.heap.size w2 wz := ⟨hb3.os, hb3.tape, hb3.output, hb3.size, hb3.block⟩
              have hX := hB2.below hb3' hB2.lt
              have hbyz := HBY2.out.trans (hb3'.mono hwy2)
              have hownz := own_below HOWN.out hbyz
              have HBW := Lib.hid (HBEL.out.trans (hbyz.mono hwo))
              have hglz : g < wz.heap.size := by have := hb3'.size; omega
              clear hb3 hb3' hbyz z0 z1 z2 x1 x2 x3 x4 xl hsame
              have x1 : wz.cell? ⟨wo.heap.size, 1, none⟩ = some (.int .i64 kd) := (hX.cell 1).trans rfl
              have x2 : wz.cell? ⟨wo.heap.size, 2, none⟩ = some (.int .i64 xk) := (hX.cell 2).trans rfl
              have x3 : wz.cell? ⟨wo.heap.size, 3, none⟩ = some (.int .i64 xi) := (hX.cell 3).trans rfl
              have x4 : wz.cell? ⟨wo.heap.size, 4, none⟩ = some (.int .i64 xj) := (hX.cell 4).trans rfl
              have xl := hX.lt
              obtain ⟨V, hV⟩ : ∃ V, V = some (⟨g, 0, none⟩ : Addr) := ⟨_, rfl⟩
              rw [← hV] at hownz
              have hRz := Reads.of_own hownz
              have r1 := hRz.head (k := p) hp
              rw [tchs_take] at r1
              have HR2 : Hid (∀ W, Below wz.heap.size wz W → Reads W W.heap.size 6 (if vc = p then V else V.map (·.add (p * 6))) (N - p) (tchs (out.drop p))) := Lib.hid fun W hW => by
                have := ((hRz.below hW).more hW.size).cut (k := p) (cap := vc) hp hvc
                rw [tchs_drop _ _ (by rw [HLEN.out]; exact hp)] at this
                exact this
              have o1 := cells_one (out.take p)
              have o2 := cells_one (out.drop p)
              have hone : ∀ u ∈ ([.int .i64 xk, .int .i64 xi, .int .i64 xj, .int .i64 0, .int .i64 0, .int .i64 0] : List Value), u.oneCell' = true := by simp [Value.oneCell']
              have m1 : 0 + p ≤ maxLen := by unfold maxLen; omega
              have b1 : (0 + p) * 48 ≤ 140737488355328 := by omega
              have m2 : 0 + p + 1 ≤ maxLen := by unfold maxLen; omega
              have b2 : (0 + p + 1) * 48 ≤ 140737488355328 := by omega
              have m3 : 0 + p + 1 + (N - p) ≤ maxLen := by unfold maxLen; omega
              have b3 : (0 + p + 1 + (N - p)) * 48 ≤ 140737488355328 := by omega
              have hsz := Nat.le_refl wz.heap.size
              have HZ : Hid (∀ t, 3 ≤ t ∧ t < 6 → ([] ++ tchs (out.take p) ++ [.int .i64 xk, .int .i64 xi, .int .i64 xj, .int .i64 0, .int .i64 0, .int .i64 0] ++ tchs (out.drop p))[p * 6 + t]? = some (.int .i64 0)) := Lib.hid fun t ht => by
                have hl : (tchs (out.take p)).length = p * 6 := by rw [tchs_length, List.length_take, HLEN.out, Nat.min_eq_left hp]
                rw [List.nil_append, List.getElem?_append_left (by rw [List.length_append, hl]; simp; omega), List.getElem?_append_right (by rw [hl]; omega), hl, show p * 6 + t - p * 6 = t by omega]
                obtain ⟨h1, h2⟩ := ht
                match t, h1, h2 with
                | 3, _, _ => rfl
                | 4, _, _ => rfl
                | 5, _, _ => rfl
              have HSH := own_form3 hownz hp
              subst hV
              have hvp : ¬ vc = p := by omega
              simp only [if_neg hvp, Option.map_some, Addr.add_lit, Nat.zero_add] at HR2
              clear hRz HSH hownz
              by_cases k1 : kd = 1
              · subst k1
                have HKA : Hid (kindAt 1 = 3) := Lib.hid (by rfl)
                go_wp2_with (first | (at_builtin; refine wpList_append_any _ rfl (.tmp 56) (.tmp 59) 71 rfl wz.heap.size 75 i0 _ 6 48 Try.underlying71 hi0 hz0 hz1 hz2 rfl (by decide) _ _ _ rfl (World.ownsRow_nil _ _ _ _) wz.heap.size _ _ _ _ rfl r1 o1 m1 b1 hsz ?_; intro v1 w1 hown1 hg1 hd1; have hb1 := below_none hg1; have hX1 := hX.below hb1 hX.lt; have x2 : w1.cell? ⟨wo.heap.size, 2, none⟩ = some (.int .i64 xk) := (hX1.cell 2).trans rfl; have x3 : w1.cell? ⟨wo.heap.size, 3, none⟩ = some (.int .i64 xi) := (hX1.cell 3).trans rfl; have x4 : w1.cell? ⟨wo.heap.size, 4, none⟩ = some (.int .i64 xj) := (hX1.cell 4).trans rfl; have xl := hX1.lt; have HB1 := Lib.hid hb1; have hsz1 := hb1.size; have hsz2 := Nat.le_trans hb1.size (Nat.le_succ w1.heap.size); clear hd1 hg1 hb1) | (at_builtin; refine wpList_append_any _ rfl (.tmp 61) (.tmp 65) 71 rfl wz.heap.size 75 i0 _ 6 48 Try.underlying71 hi0 hz0 hz1 hz2 rfl (by decide) _ _ _ rfl (hown1.alloc _) _ _ _ _ [.int .i64 xk, .int .i64 xi, .int .i64 xj, .int .i64 0, .int .i64 0, .int .i64 0] rfl (lit_read (w := w1) [.int .i64 xk, .int .i64 xi, .int .i64 xj, .int .i64 0, .int .i64 0, .int .i64 0] 6 rfl) hone m2 b2 (Nat.le_trans hsz2 (le_alloc _ _)) ?_; intro v2 w2 hown2 hg2 hd2; have hb2 : Below wz.heap.size wz w2 := below_two HB1.out hown1 hg2; have HB2 := Lib.hid hb2; have hsz3 := hb2.size; have r3 := HR2.out w2 hb2; clear hd2 hg2 hb2 hown1 x2 x3 x4 hX1 xl) | (at_builtin; refine wpList_append_any _ rfl (.tmp 67) (.tmp 70) 71 rfl wz.heap.size 75 i0 _ 6 48 Try.underlying71 hi0 hz0 hz1 hz2 rfl (by decide) _ _ _ rfl hown2 _ _ _ _ _ rfl r3 o2 m3 b3 hsz3 ?_; intro v3 w3 hown3 hg3 hd3; have hb3 : Below wz.heap.size wz w3 := (below_row hg3 (fun g e => (hown2.lt g e).1) hsz3 |> fun hh => HB2.out.trans hh); have hX3 := hX.below hb3 hX.lt; obtain ⟨gq, cq, rfl, hgq, hgql⟩ := hown3.form (by omega); have x1 : w3.cell? ⟨wo.heap.size, 1, none⟩ = some (.int .i64 1) := (hX3.cell 1).trans rfl; have xl := hX3.lt; have hz3 : w3.cell? ⟨gq, p * 6 + 3, none⟩ = some (.int .i64 0) := (hown3.cellAt (p * 6 + 3) (by omega)).trans (HZ.out 3 (by omega)); have hf3 := hown3.frozenAt (p * 6 + 3); have HB3 := Lib.hid hb3; have HO3 := Lib.hid hown3; clear hd3 hg3 hb3 hown3 hown2))
                go_roundg (n - (q + 1))
                case measure => have := HG.out; omega
                case rel =>
                  refine ⟨q + 1, by go_num, by omega, rfl, _, HST.out.symm, ?_, ?_, ?_⟩
                  · have := HLEN.out; have := HNEW.out.1; omega
                  · have h1 := (HO3.out.stored (p * 6 + 3) (.int .i64 (0 + 1))).1
                    have h2 := HNEW.out.2
                    simp only [HKA.out] at h2
                    have h3 : 0 + p + 1 + (N - p) = N + 1 := by omega
                    have h4 : p + 1 + (N - p) = N + 1 := by omega
                    (first | rw [h3, List.nil_append] at h1 | rw [show 0 + p + 1 + 0 = N + 1 by omega, List.nil_append] at h1)
                    rw [HNEW.out.1, h2]
                    (try rw [h4])
                    exact own_base h1 (by have := HBW.out.size; omega)
                  · exact (HBW.out.trans (HB3.out.mono (by have := HBW.out.size; omega))).setCell (p := ⟨gq, p * 6 + 3, none⟩) (by show w.heap.size ≤ gq; have := HBW.out.size; omega) _
              by_cases k2 : kd = 2
              · subst k2
                have HKA : Hid (kindAt 2 = 4) := Lib.hid (by rfl)
                go_wp2_with (first | (at_builtin; refine wpList_append_any _ rfl (.tmp 56) (.tmp 59) 71 rfl wz.heap.size 75 i0 _ 6 48 Try.underlying71 hi0 hz0 hz1 hz2 rfl (by decide) _ _ _ rfl (World.ownsRow_nil _ _ _ _) wz.heap.size _ _ _ _ rfl r1 o1 m1 b1 hsz ?_; intro v1 w1 hown1 hg1 hd1; have hb1 := below_none hg1; have hX1 := hX.below hb1 hX.lt; have x2 : w1.cell? ⟨wo.heap.size, 2, none⟩ = some (.int .i64 xk) := (hX1.cell 2).trans rfl; have x3 : w1.cell? ⟨wo.heap.size, 3, none⟩ = some (.int .i64 xi) := (hX1.cell 3).trans rfl; have x4 : w1.cell? ⟨wo.heap.size, 4, none⟩ = some (.int .i64 xj) := (hX1.cell 4).trans rfl; have xl := hX1.lt; have HB1 := Lib.hid hb1; have hsz1 := hb1.size; have hsz2 := Nat.le_trans hb1.size (Nat.le_succ w1.heap.size); clear hd1 hg1 hb1) | (at_builtin; refine wpList_append_any _ rfl (.tmp 61) (.tmp 65) 71 rfl wz.heap.size 75 i0 _ 6 48 Try.underlying71 hi0 hz0 hz1 hz2 rfl (by decide) _ _ _ rfl (hown1.alloc _) _ _ _ _ [.int .i64 xk, .int .i64 xi, .int .i64 xj, .int .i64 0, .int .i64 0, .int .i64 0] rfl (lit_read (w := w1) [.int .i64 xk, .int .i64 xi, .int .i64 xj, .int .i64 0, .int .i64 0, .int .i64 0] 6 rfl) hone m2 b2 (Nat.le_trans hsz2 (le_alloc _ _)) ?_; intro v2 w2 hown2 hg2 hd2; have hb2 : Below wz.heap.size wz w2 := below_two HB1.out hown1 hg2; have HB2 := Lib.hid hb2; have hsz3 := hb2.size; have r3 := HR2.out w2 hb2; clear hd2 hg2 hb2 hown1 x2 x3 x4 hX1 xl) | (at_builtin; refine wpList_append_any _ rfl (.tmp 67) (.tmp 70) 71 rfl wz.heap.size 75 i0 _ 6 48 Try.underlying71 hi0 hz0 hz1 hz2 rfl (by decide) _ _ _ rfl hown2 _ _ _ _ _ rfl r3 o2 m3 b3 hsz3 ?_; intro v3 w3 hown3 hg3 hd3; have hb3 : Below wz.heap.size wz w3 := (below_row hg3 (fun g e => (hown2.lt g e).1) hsz3 |> fun hh => HB2.out.trans hh); have hX3 := hX.below hb3 hX.lt; obtain ⟨gq, cq, rfl, hgq, hgql⟩ := hown3.form (by omega); have x1 : w3.cell? ⟨wo.heap.size, 1, none⟩ = some (.int .i64 2) := (hX3.cell 1).trans rfl; have xl := hX3.lt; have hz3 : w3.cell? ⟨gq, p * 6 + 4, none⟩ = some (.int .i64 0) := (hown3.cellAt (p * 6 + 4) (by omega)).trans (HZ.out 4 (by omega)); have hf3 := hown3.frozenAt (p * 6 + 4); have HB3 := Lib.hid hb3; have HO3 := Lib.hid hown3; clear hd3 hg3 hb3 hown3 hown2))
                go_roundg (n - (q + 1))
                case measure => have := HG.out; omega
                case rel =>
                  refine ⟨q + 1, by go_num, by omega, rfl, _, HST.out.symm, ?_, ?_, ?_⟩
                  · have := HLEN.out; have := HNEW.out.1; omega
                  · have h1 := (HO3.out.stored (p * 6 + 4) (.int .i64 (0 + 1))).1
                    have h2 := HNEW.out.2
                    simp only [HKA.out] at h2
                    have h3 : 0 + p + 1 + (N - p) = N + 1 := by omega
                    have h4 : p + 1 + (N - p) = N + 1 := by omega
                    (first | rw [h3, List.nil_append] at h1 | rw [show 0 + p + 1 + 0 = N + 1 by omega, List.nil_append] at h1)
                    rw [HNEW.out.1, h2]
                    (try rw [h4])
                    exact own_base h1 (by have := HBW.out.size; omega)
                  · exact (HBW.out.trans (HB3.out.mono (by have := HBW.out.size; omega))).setCell (p := ⟨gq, p * 6 + 4, none⟩) (by show w.heap.size ≤ gq; have := HBW.out.size; omega) _
              · have e1 : (kd == 1) = false := by simp [k1]
                have e2 : (kd == 2) = false := by simp [k2]
                have HK5 : Hid (kindAt kd = 5) := Lib.hid (by unfold kindAt; rw [if_neg k1, if_neg k2])
                clear k1 k2
                have HKA : Hid (kindAt kd = 5) := Lib.hid (by exact HK5.out)
                go_wp2_with (first | (at_builtin; refine wpList_append_any _ rfl (.tmp 56) (.tmp 59) 71 rfl wz.heap.size 75 i0 _ 6 48 Try.underlying71 hi0 hz0 hz1 hz2 rfl (by decide) _ _ _ rfl (World.ownsRow_nil _ _ _ _) wz.heap.size _ _ _ _ rfl r1 o1 m1 b1 hsz ?_; intro v1 w1 hown1 hg1 hd1; have hb1 := below_none hg1; have hX1 := hX.below hb1 hX.lt; have x2 : w1.cell? ⟨wo.heap.size, 2, none⟩ = some (.int .i64 xk) := (hX1.cell 2).trans rfl; have x3 : w1.cell? ⟨wo.heap.size, 3, none⟩ = some (.int .i64 xi) := (hX1.cell 3).trans rfl; have x4 : w1.cell? ⟨wo.heap.size, 4, none⟩ = some (.int .i64 xj) := (hX1.cell 4).trans rfl; have xl := hX1.lt; have HB1 := Lib.hid hb1; have hsz1 := hb1.size; have hsz2 := Nat.le_trans hb1.size (Nat.le_succ w1.heap.size); clear hd1 hg1 hb1) | (at_builtin; refine wpList_append_any _ rfl (.tmp 61) (.tmp 65) 71 rfl wz.heap.size 75 i0 _ 6 48 Try.underlying71 hi0 hz0 hz1 hz2 rfl (by decide) _ _ _ rfl (hown1.alloc _) _ _ _ _ [.int .i64 xk, .int .i64 xi, .int .i64 xj, .int .i64 0, .int .i64 0, .int .i64 0] rfl (lit_read (w := w1) [.int .i64 xk, .int .i64 xi, .int .i64 xj, .int .i64 0, .int .i64 0, .int .i64 0] 6 rfl) hone m2 b2 (Nat.le_trans hsz2 (le_alloc _ _)) ?_; intro v2 w2 hown2 hg2 hd2; have hb2 : Below wz.heap.size wz w2 := below_two HB1.out hown1 hg2; have HB2 := Lib.hid hb2; have hsz3 := hb2.size; have r3 := HR2.out w2 hb2; clear hd2 hg2 hb2 hown1 x2 x3 x4 hX1 xl) | (at_builtin; refine wpList_append_any _ rfl (.tmp 67) (.tmp 70) 71 rfl wz.heap.size 75 i0 _ 6 48 Try.underlying71 hi0 hz0 hz1 hz2 rfl (by decide) _ _ _ rfl hown2 _ _ _ _ _ rfl r3 o2 m3 b3 hsz3 ?_; intro v3 w3 hown3 hg3 hd3; have hb3 : Below wz.heap.size wz w3 := (below_row hg3 (fun g e => (hown2.lt g e).1) hsz3 |> fun hh => HB2.out.trans hh); have hX3 := hX.below hb3 hX.lt; obtain ⟨gq, cq, rfl, hgq, hgql⟩ := hown3.form (by omega); have x1 : w3.cell? ⟨wo.heap.size, 1, none⟩ = some (.int .i64 kd) := (hX3.cell 1).trans rfl; have xl := hX3.lt; have hz3 : w3.cell? ⟨gq, p * 6 + 5, none⟩ = some (.int .i64 0) := (hown3.cellAt (p * 6 + 5) (by omega)).trans (HZ.out 5 (by omega)); have hf3 := hown3.frozenAt (p * 6 + 5); have HB3 := Lib.hid hb3; have HO3 := Lib.hid hown3; clear hd3 hg3 hb3 hown3 hown2))
                go_roundg (n - (q + 1))
                case measure => have := HG.out; omega
                case rel =>
                  refine ⟨q + 1, by go_num, by omega, rfl, _, HST.out.symm, ?_, ?_, ?_⟩
                  · have := HLEN.out; have := HNEW.out.1; omega
                  · have h1 := (HO3.out.stored (p * 6 + 5) (.int .i64 (0 + 1))).1
                    have h2 := HNEW.out.2
                    simp only [HKA.out] at h2
                    have h3 : 0 + p + 1 + (N - p) = N + 1 := by omega
                    have h4 : p + 1 + (N - p) = N + 1 := by omega
                    (first | rw [h3, List.nil_append] at h1 | rw [show 0 + p + 1 + 0 = N + 1 by omega, List.nil_append] at h1)
                    rw [HNEW.out.1, h2]
                    (try rw [h4])
                    exact own_base h1 (by have := HBW.out.size; omega)
                  · exact (HBW.out.trans (HB3.out.mono (by have := HBW.out.size; omega))).setCell (p := ⟨gq, p * 6 + 5, none⟩) (by show w.heap.size ≤ gq; have := HBW.out.size; omega) _
        · obtain rfl : p = N := by omega
          have HNEW : Hid (NewFacts out ⟨th, kd, xk, xi, xj, ol, vl, ys⟩ p p) := Lib.hid (by have := HLEN.out; have h2 := round_new (x := ⟨th, kd, xk, xi, xj, ol, vl, ys⟩) (p := p) HRI.out (by omega) HLT.out (.inl this.symm) (.inl this.symm); rw [this] at h2; exact h2)
          have hX := hB
          have hownz := hown1
          clear hB hown1 hpn
          have x1 : wr.cell? ⟨wo.heap.size, 1, none⟩ = some (.int .i64 kd) := (hX.cell 1).trans rfl
          have x2 : wr.cell? ⟨wo.heap.size, 2, none⟩ = some (.int .i64 xk) := (hX.cell 2).trans rfl
          have x3 : wr.cell? ⟨wo.heap.size, 3, none⟩ = some (.int .i64 xi) := (hX.cell 3).trans rfl
          have x4 : wr.cell? ⟨wo.heap.size, 4, none⟩ = some (.int .i64 xj) := (hX.cell 4).trans rfl
          have xl := hX.lt
          have hRz := Reads.of_own hownz
          have r1 := hRz.head (k := p) hp
          rw [tchs_take] at r1
          have HR2 : Hid (∀ W, Below wr.heap.size wr W → Reads W W.heap.size 6 (if vc = p then V else V.map (·.add (p * 6))) (p - p) (tchs (out.drop p))) := Lib.hid fun W hW => by
            have := ((hRz.below hW).more hW.size).cut (k := p) (cap := vc) hp hvc
            rw [tchs_drop _ _ (by rw [HLEN.out]; exact hp)] at this
            exact this
          have o1 := cells_one (out.take p)
          have o2 := cells_one (out.drop p)
          have hone : ∀ u ∈ ([.int .i64 xk, .int .i64 xi, .int .i64 xj, .int .i64 0, .int .i64 0, .int .i64 0] : List Value), u.oneCell' = true := by simp [Value.oneCell']
          have m1 : 0 + p ≤ maxLen := by unfold maxLen; omega
          have b1 : (0 + p) * 48 ≤ 140737488355328 := by omega
          have m2 : 0 + p + 1 ≤ maxLen := by unfold maxLen; omega
          have b2 : (0 + p + 1) * 48 ≤ 140737488355328 := by omega
          have m3 : 0 + p + 1 + (p - p) ≤ maxLen := by unfold maxLen; omega
          have b3 : (0 + p + 1 + (p - p)) * 48 ≤ 140737488355328 := by omega
          have hsz := Nat.le_refl wr.heap.size
          have HZ : Hid (∀ t, 3 ≤ t ∧ t < 6 → ([] ++ tchs (out.take p) ++ [.int .i64 xk, .int .i64 xi, .int .i64 xj, .int .i64 0, .int .i64 0, .int .i64 0] ++ tchs (out.drop p))[p * 6 + t]? = some (.int .i64 0)) := Lib.hid fun t ht => by
            have hl : (tchs (out.take p)).length = p * 6 := by rw [tchs_length, List.length_take, HLEN.out, Nat.min_eq_left hp]
            rw [List.nil_append, List.getElem?_append_left (by rw [List.length_append, hl]; simp; omega), List.getElem?_append_right (by rw [hl]; omega), hl, show p * 6 + t - p * 6 = t by omega]
            obtain ⟨h1, h2⟩ := ht
            match t, h1, h2 with
            | 3, _, _ => rfl
            | 4, _, _ => rfl
            | 5, _, _ => rfl
          have HSH := own_form3 hownz hp
          clear hRz hownz
          rcases HSH with ⟨rfl, rfl, rfl, -⟩ | ⟨g, rfl, h2, -⟩ | ⟨g, rfl, hvp⟩
          · simp only [reduceIte, Option.map_none, Nat.sub_self] at HR2 m3 b3
            by_cases k1 : kd = 1
            · subst k1
              have HKA : Hid (kindAt 1 = 3) := Lib.hid (by rfl)
              go_wp2_with (first | (at_builtin; refine wpList_append_any _ rfl (.tmp 56) (.tmp 59) 71 rfl wr.heap.size 75 i0 _ 6 48 Try.underlying71 hi0 hz0 hz1 hz2 rfl (by decide) _ _ _ rfl (World.ownsRow_nil _ _ _ _) wr.heap.size _ _ _ _ rfl r1 o1 m1 b1 hsz ?_; intro v1 w1 hown1 hg1 hd1; have hb1 := below_none hg1; have hX1 := hX.below hb1 hX.lt; have x2 : w1.cell? ⟨wo.heap.size, 2, none⟩ = some (.int .i64 xk) := (hX1.cell 2).trans rfl; have x3 : w1.cell? ⟨wo.heap.size, 3, none⟩ = some (.int .i64 xi) := (hX1.cell 3).trans rfl; have x4 : w1.cell? ⟨wo.heap.size, 4, none⟩ = some (.int .i64 xj) := (hX1.cell 4).trans rfl; have xl := hX1.lt; have HB1 := Lib.hid hb1; have hsz1 := hb1.size; have hsz2 := Nat.le_trans hb1.size (Nat.le_succ w1.heap.size); clear hd1 hg1 hb1) | (at_builtin; refine wpList_append_any _ rfl (.tmp 61) (.tmp 65) 71 rfl wr.heap.size 75 i0 _ 6 48 Try.underlying71 hi0 hz0 hz1 hz2 rfl (by decide) _ _ _ rfl (hown1.alloc _) _ _ _ _ [.int .i64 xk, .int .i64 xi, .int .i64 xj, .int .i64 0, .int .i64 0, .int .i64 0] rfl (lit_read (w := w1) [.int .i64 xk, .int .i64 xi, .int .i64 xj, .int .i64 0, .int .i64 0, .int .i64 0] 6 rfl) hone m2 b2 (Nat.le_trans hsz2 (le_alloc _ _)) ?_; intro v2 w2 hown2 hg2 hd2; have hb2 : Below wr.heap.size wr w2 := below_two HB1.out hown1 hg2; have HB2 := Lib.hid hb2; have hsz3 := hb2.size; have r3 := HR2.out w2 hb2; clear hd2 hg2 hb2 hown1 x2 x3 x4 hX1 xl) | (at_builtin; refine wpList_append_any _ rfl (.tmp 67) (.tmp 70) 71 rfl wr.heap.size 75 i0 _ 6 48 Try.underlying71 hi0 hz0 hz1 hz2 rfl (by decide) _ _ _ rfl hown2 _ _ _ _ _ rfl r3 o2 m3 b3 hsz3 ?_; intro v3 w3 hown3 hg3 hd3; have hb3 : Below wr.heap.size wr w3 := (below_row hg3 (fun g e => (hown2.lt g e).1) hsz3 |> fun hh => HB2.out.trans hh); have hX3 := hX.below hb3 hX.lt; obtain ⟨gq, cq, rfl, hgq, hgql⟩ := hown3.form (by omega); have x1 : w3.cell? ⟨wo.heap.size, 1, none⟩ = some (.int .i64 1) := (hX3.cell 1).trans rfl; have xl := hX3.lt; have hz3 : w3.cell? ⟨gq, 3, none⟩ = some (.int .i64 0) := (hown3.cellAt (3) (by omega)).trans (HZ.out 3 (by omega)); have hf3 := hown3.frozenAt (3); have HB3 := Lib.hid hb3; have HO3 := Lib.hid hown3; clear hd3 hg3 hb3 hown3 hown2))
              go_roundg (n - (q + 1))
              case measure => have := HG.out; omega
              case rel =>
                refine ⟨q + 1, by go_num, by omega, rfl, _, HST.out.symm, ?_, ?_, ?_⟩
                · have := HLEN.out; have := HNEW.out.1; omega
                · have h1 := (HO3.out.stored (3) (.int .i64 (0 + 1))).1
                  have h2 := HNEW.out.2
                  simp only [HKA.out] at h2
                  have h3 : 0 + 0 + 1 + (0 - 0) = 0 + 1 := by omega
                  have h4 : 0 + 1 + (0 - 0) = 0 + 1 := by omega
                  (first | rw [h3, List.nil_append] at h1 | rw [show 0 + 0 + 1 + 0 = 0 + 1 by omega, List.nil_append] at h1)
                  rw [HNEW.out.1, h2]
                  (try rw [h4])
                  exact own_base h1 (by have := HBW.out.size; omega)
                · exact (HBW.out.trans (HB3.out.mono (by have := HBW.out.size; omega))).setCell (p := ⟨gq, 3, none⟩) (by show w.heap.size ≤ gq; have := HBW.out.size; omega) _
            by_cases k2 : kd = 2
            · subst k2
              have HKA : Hid (kindAt 2 = 4) := Lib.hid (by rfl)
              go_wp2_with (first | (at_builtin; refine wpList_append_any _ rfl (.tmp 56) (.tmp 59) 71 rfl wr.heap.size 75 i0 _ 6 48 Try.underlying71 hi0 hz0 hz1 hz2 rfl (by decide) _ _ _ rfl (World.ownsRow_nil _ _ _ _) wr.heap.size _ _ _ _ rfl r1 o1 m1 b1 hsz ?_; intro v1 w1 hown1 hg1 hd1; have hb1 := below_none hg1; have hX1 := hX.below hb1 hX.lt; have x2 : w1.cell? ⟨wo.heap.size, 2, none⟩ = some (.int .i64 xk) := (hX1.cell 2).trans rfl; have x3 : w1.cell? ⟨wo.heap.size, 3, none⟩ = some (.int .i64 xi) := (hX1.cell 3).trans rfl; have x4 : w1.cell? ⟨wo.heap.size, 4, none⟩ = some (.int .i64 xj) := (hX1.cell 4).trans rfl; have xl := hX1.lt; have HB1 := Lib.hid hb1; have hsz1 := hb1.size; have hsz2 := Nat.le_trans hb1.size (Nat.le_succ w1.heap.size); clear hd1 hg1 hb1) | (at_builtin; refine wpList_append_any _ rfl (.tmp 61) (.tmp 65) 71 rfl wr.heap.size 75 i0 _ 6 48 Try.underlying71 hi0 hz0 hz1 hz2 rfl (by decide) _ _ _ rfl (hown1.alloc _) _ _ _ _ [.int .i64 xk, .int .i64 xi, .int .i64 xj, .int .i64 0, .int .i64 0, .int .i64 0] rfl (lit_read (w := w1) [.int .i64 xk, .int .i64 xi, .int .i64 xj, .int .i64 0, .int .i64 0, .int .i64 0] 6 rfl) hone m2 b2 (Nat.le_trans hsz2 (le_alloc _ _)) ?_; intro v2 w2 hown2 hg2 hd2; have hb2 : Below wr.heap.size wr w2 := below_two HB1.out hown1 hg2; have HB2 := Lib.hid hb2; have hsz3 := hb2.size; have r3 := HR2.out w2 hb2; clear hd2 hg2 hb2 hown1 x2 x3 x4 hX1 xl) | (at_builtin; refine wpList_append_any _ rfl (.tmp 67) (.tmp 70) 71 rfl wr.heap.size 75 i0 _ 6 48 Try.underlying71 hi0 hz0 hz1 hz2 rfl (by decide) _ _ _ rfl hown2 _ _ _ _ _ rfl r3 o2 m3 b3 hsz3 ?_; intro v3 w3 hown3 hg3 hd3; have hb3 : Below wr.heap.size wr w3 := (below_row hg3 (fun g e => (hown2.lt g e).1) hsz3 |> fun hh => HB2.out.trans hh); have hX3 := hX.below hb3 hX.lt; obtain ⟨gq, cq, rfl, hgq, hgql⟩ := hown3.form (by omega); have x1 : w3.cell? ⟨wo.heap.size, 1, none⟩ = some (.int .i64 2) := (hX3.cell 1).trans rfl; have xl := hX3.lt; have hz3 : w3.cell? ⟨gq, 4, none⟩ = some (.int .i64 0) := (hown3.cellAt (4) (by omega)).trans (HZ.out 4 (by omega)); have hf3 := hown3.frozenAt (4); have HB3 := Lib.hid hb3; have HO3 := Lib.hid hown3; clear hd3 hg3 hb3 hown3 hown2))
              go_roundg (n - (q + 1))
              case measure => have := HG.out; omega
              case rel =>
                refine ⟨q + 1, by go_num, by omega, rfl, _, HST.out.symm, ?_, ?_, ?_⟩
                · have := HLEN.out; have := HNEW.out.1; omega
                · have h1 := (HO3.out.stored (4) (.int .i64 (0 + 1))).1
                  have h2 := HNEW.out.2
                  simp only [HKA.out] at h2
                  have h3 : 0 + 0 + 1 + (0 - 0) = 0 + 1 := by omega
                  have h4 : 0 + 1 + (0 - 0) = 0 + 1 := by omega
                  (first | rw [h3, List.nil_append] at h1 | rw [show 0 + 0 + 1 + 0 = 0 + 1 by omega, List.nil_append] at h1)
                  rw [HNEW.out.1, h2]
                  (try rw [h4])
                  exact own_base h1 (by have := HBW.out.size; omega)
                · exact (HBW.out.trans (HB3.out.mono (by have := HBW.out.size; omega))).setCell (p := ⟨gq, 4, none⟩) (by show w.heap.size ≤ gq; have := HBW.out.size; omega) _
            · have e1 : (kd == 1) = false := by simp [k1]
              have e2 : (kd == 2) = false := by simp [k2]
              have HK5 : Hid (kindAt kd = 5) := Lib.hid (by unfold kindAt; rw [if_neg k1, if_neg k2])
              clear k1 k2
              have HKA : Hid (kindAt kd = 5) := Lib.hid (by exact HK5.out)
              go_wp2_with (first | (at_builtin; refine wpList_append_any _ rfl (.tmp 56) (.tmp 59) 71 rfl wr.heap.size 75 i0 _ 6 48 Try.underlying71 hi0 hz0 hz1 hz2 rfl (by decide) _ _ _ rfl (World.ownsRow_nil _ _ _ _) wr.heap.size _ _ _ _ rfl r1 o1 m1 b1 hsz ?_; intro v1 w1 hown1 hg1 hd1; have hb1 := below_none hg1; have hX1 := hX.below hb1 hX.lt; have x2 : w1.cell? ⟨wo.heap.size, 2, none⟩ = some (.int .i64 xk) := (hX1.cell 2).trans rfl; have x3 : w1.cell? ⟨wo.heap.size, 3, none⟩ = some (.int .i64 xi) := (hX1.cell 3).trans rfl; have x4 : w1.cell? ⟨wo.heap.size, 4, none⟩ = some (.int .i64 xj) := (hX1.cell 4).trans rfl; have xl := hX1.lt; have HB1 := Lib.hid hb1; have hsz1 := hb1.size; have hsz2 := Nat.le_trans hb1.size (Nat.le_succ w1.heap.size); clear hd1 hg1 hb1) | (at_builtin; refine wpList_append_any _ rfl (.tmp 61) (.tmp 65) 71 rfl wr.heap.size 75 i0 _ 6 48 Try.underlying71 hi0 hz0 hz1 hz2 rfl (by decide) _ _ _ rfl (hown1.alloc _) _ _ _ _ [.int .i64 xk, .int .i64 xi, .int .i64 xj, .int .i64 0, .int .i64 0, .int .i64 0] rfl (lit_read (w := w1) [.int .i64 xk, .int .i64 xi, .int .i64 xj, .int .i64 0, .int .i64 0, .int .i64 0] 6 rfl) hone m2 b2 (Nat.le_trans hsz2 (le_alloc _ _)) ?_; intro v2 w2 hown2 hg2 hd2; have hb2 : Below wr.heap.size wr w2 := below_two HB1.out hown1 hg2; have HB2 := Lib.hid hb2; have hsz3 := hb2.size; have r3 := HR2.out w2 hb2; clear hd2 hg2 hb2 hown1 x2 x3 x4 hX1 xl) | (at_builtin; refine wpList_append_any _ rfl (.tmp 67) (.tmp 70) 71 rfl wr.heap.size 75 i0 _ 6 48 Try.underlying71 hi0 hz0 hz1 hz2 rfl (by decide) _ _ _ rfl hown2 _ _ _ _ _ rfl r3 o2 m3 b3 hsz3 ?_; intro v3 w3 hown3 hg3 hd3; have hb3 : Below wr.heap.size wr w3 := (below_row hg3 (fun g e => (hown2.lt g e).1) hsz3 |> fun hh => HB2.out.trans hh); have hX3 := hX.below hb3 hX.lt; obtain ⟨gq, cq, rfl, hgq, hgql⟩ := hown3.form (by omega); have x1 : w3.cell? ⟨wo.heap.size, 1, none⟩ = some (.int .i64 kd) := (hX3.cell 1).trans rfl; have xl := hX3.lt; have hz3 : w3.cell? ⟨gq, 5, none⟩ = some (.int .i64 0) := (hown3.cellAt (5) (by omega)).trans (HZ.out 5 (by omega)); have hf3 := hown3.frozenAt (5); have HB3 := Lib.hid hb3; have HO3 := Lib.hid hown3; clear hd3 hg3 hb3 hown3 hown2))
              go_roundg (n - (q + 1))
              case measure => have := HG.out; omega
              case rel =>
                refine ⟨q + 1, by go_num, by omega, rfl, _, HST.out.symm, ?_, ?_, ?_⟩
                · have := HLEN.out; have := HNEW.out.1; omega
                · have h1 := (HO3.out.stored (5) (.int .i64 (0 + 1))).1
                  have h2 := HNEW.out.2
                  simp only [HKA.out] at h2
                  have h3 : 0 + 0 + 1 + (0 - 0) = 0 + 1 := by omega
                  have h4 : 0 + 1 + (0 - 0) = 0 + 1 := by omega
                  (first | rw [h3, List.nil_append] at h1 | rw [show 0 + 0 + 1 + 0 = 0 + 1 by omega, List.nil_append] at h1)
                  rw [HNEW.out.1, h2]
                  (try rw [h4])
                  exact own_base h1 (by have := HBW.out.size; omega)
                · exact (HBW.out.trans (HB3.out.mono (by have := HBW.out.size; omega))).setCell (p := ⟨gq, 5, none⟩) (by show w.heap.size ≤ gq; have := HBW.out.size; omega) _
          · obtain rfl : p = vc := h2.symm
            simp only [reduceIte, Nat.sub_self] at HR2 m3 b3
            by_cases k1 : kd = 1
            · subst k1
              have HKA : Hid (kindAt 1 = 3) := Lib.hid (by rfl)
              go_wp2_with (first | (at_builtin; refine wpList_append_any _ rfl (.tmp 56) (.tmp 59) 71 rfl wr.heap.size 75 i0 _ 6 48 Try.underlying71 hi0 hz0 hz1 hz2 rfl (by decide) _ _ _ rfl (World.ownsRow_nil _ _ _ _) wr.heap.size _ _ _ _ rfl r1 o1 m1 b1 hsz ?_; intro v1 w1 hown1 hg1 hd1; have hb1 := below_none hg1; have hX1 := hX.below hb1 hX.lt; have x2 : w1.cell? ⟨wo.heap.size, 2, none⟩ = some (.int .i64 xk) := (hX1.cell 2).trans rfl; have x3 : w1.cell? ⟨wo.heap.size, 3, none⟩ = some (.int .i64 xi) := (hX1.cell 3).trans rfl; have x4 : w1.cell? ⟨wo.heap.size, 4, none⟩ = some (.int .i64 xj) := (hX1.cell 4).trans rfl; have xl := hX1.lt; have HB1 := Lib.hid hb1; have hsz1 := hb1.size; have hsz2 := Nat.le_trans hb1.size (Nat.le_succ w1.heap.size); clear hd1 hg1 hb1) | (at_builtin; refine wpList_append_any _ rfl (.tmp 61) (.tmp 65) 71 rfl wr.heap.size 75 i0 _ 6 48 Try.underlying71 hi0 hz0 hz1 hz2 rfl (by decide) _ _ _ rfl (hown1.alloc _) _ _ _ _ [.int .i64 xk, .int .i64 xi, .int .i64 xj, .int .i64 0, .int .i64 0, .int .i64 0] rfl (lit_read (w := w1) [.int .i64 xk, .int .i64 xi, .int .i64 xj, .int .i64 0, .int .i64 0, .int .i64 0] 6 rfl) hone m2 b2 (Nat.le_trans hsz2 (le_alloc _ _)) ?_; intro v2 w2 hown2 hg2 hd2; have hb2 : Below wr.heap.size wr w2 := below_two HB1.out hown1 hg2; have HB2 := Lib.hid hb2; have hsz3 := hb2.size; have r3 := HR2.out w2 hb2; clear hd2 hg2 hb2 hown1 x2 x3 x4 hX1 xl) | (at_builtin; refine wpList_append_any _ rfl (.tmp 67) (.tmp 70) 71 rfl wr.heap.size 75 i0 _ 6 48 Try.underlying71 hi0 hz0 hz1 hz2 rfl (by decide) _ _ _ rfl hown2 _ _ _ _ _ rfl r3 o2 m3 b3 hsz3 ?_; intro v3 w3 hown3 hg3 hd3; have hb3 : Below wr.heap.size wr w3 := (below_row hg3 (fun g e => (hown2.lt g e).1) hsz3 |> fun hh => HB2.out.trans hh); have hX3 := hX.below hb3 hX.lt; obtain ⟨gq, cq, rfl, hgq, hgql⟩ := hown3.form (by omega); have x1 : w3.cell? ⟨wo.heap.size, 1, none⟩ = some (.int .i64 1) := (hX3.cell 1).trans rfl; have xl := hX3.lt; have hz3 : w3.cell? ⟨gq, p * 6 + 3, none⟩ = some (.int .i64 0) := (hown3.cellAt (p * 6 + 3) (by omega)).trans (HZ.out 3 (by omega)); have hf3 := hown3.frozenAt (p * 6 + 3); have HB3 := Lib.hid hb3; have HO3 := Lib.hid hown3; clear hd3 hg3 hb3 hown3 hown2))
              go_roundg (n - (q + 1))
              case measure => have := HG.out; omega
              case rel =>
                refine ⟨q + 1, by go_num, by omega, rfl, _, HST.out.symm, ?_, ?_, ?_⟩
                · have := HLEN.out; have := HNEW.out.1; omega
                · have h1 := (HO3.out.stored (p * 6 + 3) (.int .i64 (0 + 1))).1
                  have h2 := HNEW.out.2
                  simp only [HKA.out] at h2
                  have h3 : 0 + p + 1 + (p - p) = p + 1 := by omega
                  have h4 : p + 1 + (p - p) = p + 1 := by omega
                  (first | rw [h3, List.nil_append] at h1 | rw [show 0 + p + 1 + 0 = p + 1 by omega, List.nil_append] at h1)
                  rw [HNEW.out.1, h2]
                  (try rw [h4])
                  exact own_base h1 (by have := HBW.out.size; omega)
                · exact (HBW.out.trans (HB3.out.mono (by have := HBW.out.size; omega))).setCell (p := ⟨gq, p * 6 + 3, none⟩) (by show w.heap.size ≤ gq; have := HBW.out.size; omega) _
            by_cases k2 : kd = 2
            · subst k2
              have HKA : Hid (kindAt 2 = 4) := Lib.hid (by rfl)
              go_wp2_with (first | (at_builtin; refine wpList_append_any _ rfl (.tmp 56) (.tmp 59) 71 rfl wr.heap.size 75 i0 _ 6 48 Try.underlying71 hi0 hz0 hz1 hz2 rfl (by decide) _ _ _ rfl (World.ownsRow_nil _ _ _ _) wr.heap.size _ _ _ _ rfl r1 o1 m1 b1 hsz ?_; intro v1 w1 hown1 hg1 hd1; have hb1 := below_none hg1; have hX1 := hX.below hb1 hX.lt; have x2 : w1.cell? ⟨wo.heap.size, 2, none⟩ = some (.int .i64 xk) := (hX1.cell 2).trans rfl; have x3 : w1.cell? ⟨wo.heap.size, 3, none⟩ = some (.int .i64 xi) := (hX1.cell 3).trans rfl; have x4 : w1.cell? ⟨wo.heap.size, 4, none⟩ = some (.int .i64 xj) := (hX1.cell 4).trans rfl; have xl := hX1.lt; have HB1 := Lib.hid hb1; have hsz1 := hb1.size; have hsz2 := Nat.le_trans hb1.size (Nat.le_succ w1.heap.size); clear hd1 hg1 hb1) | (at_builtin; refine wpList_append_any _ rfl (.tmp 61) (.tmp 65) 71 rfl wr.heap.size 75 i0 _ 6 48 Try.underlying71 hi0 hz0 hz1 hz2 rfl (by decide) _ _ _ rfl (hown1.alloc _) _ _ _ _ [.int .i64 xk, .int .i64 xi, .int .i64 xj, .int .i64 0, .int .i64 0, .int .i64 0] rfl (lit_read (w := w1) [.int .i64 xk, .int .i64 xi, .int .i64 xj, .int .i64 0, .int .i64 0, .int .i64 0] 6 rfl) hone m2 b2 (Nat.le_trans hsz2 (le_alloc _ _)) ?_; intro v2 w2 hown2 hg2 hd2; have hb2 : Below wr.heap.size wr w2 := below_two HB1.out hown1 hg2; have HB2 := Lib.hid hb2; have hsz3 := hb2.size; have r3 := HR2.out w2 hb2; clear hd2 hg2 hb2 hown1 x2 x3 x4 hX1 xl) | (at_builtin; refine wpList_append_any _ rfl (.tmp 67) (.tmp 70) 71 rfl wr.heap.size 75 i0 _ 6 48 Try.underlying71 hi0 hz0 hz1 hz2 rfl (by decide) _ _ _ rfl hown2 _ _ _ _ _ rfl r3 o2 m3 b3 hsz3 ?_; intro v3 w3 hown3 hg3 hd3; have hb3 : Below wr.heap.size wr w3 := (below_row hg3 (fun g e => (hown2.lt g e).1) hsz3 |> fun hh => HB2.out.trans hh); have hX3 := hX.below hb3 hX.lt; obtain ⟨gq, cq, rfl, hgq, hgql⟩ := hown3.form (by omega); have x1 : w3.cell? ⟨wo.heap.size, 1, none⟩ = some (.int .i64 2) := (hX3.cell 1).trans rfl; have xl := hX3.lt; have hz3 : w3.cell? ⟨gq, p * 6 + 4, none⟩ = some (.int .i64 0) := (hown3.cellAt (p * 6 + 4) (by omega)).trans (HZ.out 4 (by omega)); have hf3 := hown3.frozenAt (p * 6 + 4); have HB3 := Lib.hid hb3; have HO3 := Lib.hid hown3; clear hd3 hg3 hb3 hown3 hown2))
              go_roundg (n - (q + 1))
              case measure => have := HG.out; omega
              case rel =>
                refine ⟨q + 1, by go_num, by omega, rfl, _, HST.out.symm, ?_, ?_, ?_⟩
                · have := HLEN.out; have := HNEW.out.1; omega
                · have h1 := (HO3.out.stored (p * 6 + 4) (.int .i64 (0 + 1))).1
                  have h2 := HNEW.out.2
                  simp only [HKA.out] at h2
                  have h3 : 0 + p + 1 + (p - p) = p + 1 := by omega
                  have h4 : p + 1 + (p - p) = p + 1 := by omega
                  (first | rw [h3, List.nil_append] at h1 | rw [show 0 + p + 1 + 0 = p + 1 by omega, List.nil_append] at h1)
                  rw [HNEW.out.1, h2]
                  (try rw [h4])
                  exact own_base h1 (by have := HBW.out.size; omega)
                · exact (HBW.out.trans (HB3.out.mono (by have := HBW.out.size; omega))).setCell (p := ⟨gq, p * 6 + 4, none⟩) (by show w.heap.size ≤ gq; have := HBW.out.size; omega) _
            · have e1 : (kd == 1) = false := by simp [k1]
              have e2 : (kd == 2) = false := by simp [k2]
              have HK5 : Hid (kindAt kd = 5) := Lib.hid (by unfold kindAt; rw [if_neg k1, if_neg k2])
              clear k1 k2
              have HKA : Hid (kindAt kd = 5) := Lib.hid (by exact HK5.out)
              go_wp2_with (first | (at_builtin; refine wpList_append_any _ rfl (.tmp 56) (.tmp 59) 71 rfl wr.heap.size 75 i0 _ 6 48 Try.underlying71 hi0 hz0 hz1 hz2 rfl (by decide) _ _ _ rfl (World.ownsRow_nil _ _ _ _) wr.heap.size _ _ _ _ rfl r1 o1 m1 b1 hsz ?_; intro v1 w1 hown1 hg1 hd1; have hb1 := below_none hg1; have hX1 := hX.below hb1 hX.lt; have x2 : w1.cell? ⟨wo.heap.size, 2, none⟩ = some (.int .i64 xk) := (hX1.cell 2).trans rfl; have x3 : w1.cell? ⟨wo.heap.size, 3, none⟩ = some (.int .i64 xi) := (hX1.cell 3).trans rfl; have x4 : w1.cell? ⟨wo.heap.size, 4, none⟩ = some (.int .i64 xj) := (hX1.cell 4).trans rfl; have xl := hX1.lt; have HB1 := Lib.hid hb1; have hsz1 := hb1.size; have hsz2 := Nat.le_trans hb1.size (Nat.le_succ w1.heap.size); clear hd1 hg1 hb1) | (at_builtin; refine wpList_append_any _ rfl (.tmp 61) (.tmp 65) 71 rfl wr.heap.size 75 i0 _ 6 48 Try.underlying71 hi0 hz0 hz1 hz2 rfl (by decide) _ _ _ rfl (hown1.alloc _) _ _ _ _ [.int .i64 xk, .int .i64 xi, .int .i64 xj, .int .i64 0, .int .i64 0, .int .i64 0] rfl (lit_read (w := w1) [.int .i64 xk, .int .i64 xi, .int .i64 xj, .int .i64 0, .int .i64 0, .int .i64 0] 6 rfl) hone m2 b2 (Nat.le_trans hsz2 (le_alloc _ _)) ?_; intro v2 w2 hown2 hg2 hd2; have hb2 : Below wr.heap.size wr w2 := below_two HB1.out hown1 hg2; have HB2 := Lib.hid hb2; have hsz3 := hb2.size; have r3 := HR2.out w2 hb2; clear hd2 hg2 hb2 hown1 x2 x3 x4 hX1 xl) | (at_builtin; refine wpList_append_any _ rfl (.tmp 67) (.tmp 70) 71 rfl wr.heap.size 75 i0 _ 6 48 Try.underlying71 hi0 hz0 hz1 hz2 rfl (by decide) _ _ _ rfl hown2 _ _ _ _ _ rfl r3 o2 m3 b3 hsz3 ?_; intro v3 w3 hown3 hg3 hd3; have hb3 : Below wr.heap.size wr w3 := (below_row hg3 (fun g e => (hown2.lt g e).1) hsz3 |> fun hh => HB2.out.trans hh); have hX3 := hX.below hb3 hX.lt; obtain ⟨gq, cq, rfl, hgq, hgql⟩ := hown3.form (by omega); have x1 : w3.cell? ⟨wo.heap.size, 1, none⟩ = some (.int .i64 kd) := (hX3.cell 1).trans rfl; have xl := hX3.lt; have hz3 : w3.cell? ⟨gq, p * 6 + 5, none⟩ = some (.int .i64 0) := (hown3.cellAt (p * 6 + 5) (by omega)).trans (HZ.out 5 (by omega)); have hf3 := hown3.frozenAt (p * 6 + 5); have HB3 := Lib.hid hb3; have HO3 := Lib.hid hown3; clear hd3 hg3 hb3 hown3 hown2))
              go_roundg (n - (q + 1))
              case measure => have := HG.out; omega
              case rel =>
                refine ⟨q + 1, by go_num, by omega, rfl, _, HST.out.symm, ?_, ?_, ?_⟩
                · have := HLEN.out; have := HNEW.out.1; omega
                · have h1 := (HO3.out.stored (p * 6 + 5) (.int .i64 (0 + 1))).1
                  have h2 := HNEW.out.2
                  simp only [HKA.out] at h2
                  have h3 : 0 + p + 1 + (p - p) = p + 1 := by omega
                  have h4 : p + 1 + (p - p) = p + 1 := by omega
                  (first | rw [h3, List.nil_append] at h1 | rw [show 0 + p + 1 + 0 = p + 1 by omega, List.nil_append] at h1)
                  rw [HNEW.out.1, h2]
                  (try rw [h4])
                  exact own_base h1 (by have := HBW.out.size; omega)
                · exact (HBW.out.trans (HB3.out.mono (by have := HBW.out.size; omega))).setCell (p := ⟨gq, p * 6 + 5, none⟩) (by show w.heap.size ≤ gq; have := HBW.out.size; omega) _
          · simp only [if_neg hvp, Option.map_some, Addr.add_lit, Nat.zero_add, Nat.sub_self] at HR2
            simp only [Nat.sub_self] at m3 b3
            by_cases k1 : kd = 1
            · subst k1
              have HKA : Hid (kindAt 1 = 3) := Lib.hid (by rfl)
              go_wp2_with (first | (at_builtin; refine wpList_append_any _ rfl (.tmp 56) (.tmp 59) 71 rfl wr.heap.size 75 i0 _ 6 48 Try.underlying71 hi0 hz0 hz1 hz2 rfl (by decide) _ _ _ rfl (World.ownsRow_nil _ _ _ _) wr.heap.size _ _ _ _ rfl r1 o1 m1 b1 hsz ?_; intro v1 w1 hown1 hg1 hd1; have hb1 := below_none hg1; have hX1 := hX.below hb1 hX.lt; have x2 : w1.cell? ⟨wo.heap.size, 2, none⟩ = some (.int .i64 xk) := (hX1.cell 2).trans rfl; have x3 : w1.cell? ⟨wo.heap.size, 3, none⟩ = some (.int .i64 xi) := (hX1.cell 3).trans rfl; have x4 : w1.cell? ⟨wo.heap.size, 4, none⟩ = some (.int .i64 xj) := (hX1.cell 4).trans rfl; have xl := hX1.lt; have HB1 := Lib.hid hb1; have hsz1 := hb1.size; have hsz2 := Nat.le_trans hb1.size (Nat.le_succ w1.heap.size); clear hd1 hg1 hb1) | (at_builtin; refine wpList_append_any _ rfl (.tmp 61) (.tmp 65) 71 rfl wr.heap.size 75 i0 _ 6 48 Try.underlying71 hi0 hz0 hz1 hz2 rfl (by decide) _ _ _ rfl (hown1.alloc _) _ _ _ _ [.int .i64 xk, .int .i64 xi, .int .i64 xj, .int .i64 0, .int .i64 0, .int .i64 0] rfl (lit_read (w := w1) [.int .i64 xk, .int .i64 xi, .int .i64 xj, .int .i64 0, .int .i64 0, .int .i64 0] 6 rfl) hone m2 b2 (Nat.le_trans hsz2 (le_alloc _ _)) ?_; intro v2 w2 hown2 hg2 hd2; have hb2 : Below wr.heap.size wr w2 := below_two HB1.out hown1 hg2; have HB2 := Lib.hid hb2; have hsz3 := hb2.size; have r3 := HR2.out w2 hb2; clear hd2 hg2 hb2 hown1 x2 x3 x4 hX1 xl) | (at_builtin; refine wpList_append_any _ rfl (.tmp 67) (.tmp 70) 71 rfl wr.heap.size 75 i0 _ 6 48 Try.underlying71 hi0 hz0 hz1 hz2 rfl (by decide) _ _ _ rfl hown2 _ _ _ _ _ rfl r3 o2 m3 b3 hsz3 ?_; intro v3 w3 hown3 hg3 hd3; have hb3 : Below wr.heap.size wr w3 := (below_row hg3 (fun g e => (hown2.lt g e).1) hsz3 |> fun hh => HB2.out.trans hh); have hX3 := hX.below hb3 hX.lt; obtain ⟨gq, cq, rfl, hgq, hgql⟩ := hown3.form (by omega); have x1 : w3.cell? ⟨wo.heap.size, 1, none⟩ = some (.int .i64 1) := (hX3.cell 1).trans rfl; have xl := hX3.lt; have hz3 : w3.cell? ⟨gq, p * 6 + 3, none⟩ = some (.int .i64 0) := (hown3.cellAt (p * 6 + 3) (by omega)).trans (HZ.out 3 (by omega)); have hf3 := hown3.frozenAt (p * 6 + 3); have HB3 := Lib.hid hb3; have HO3 := Lib.hid hown3; clear hd3 hg3 hb3 hown3 hown2))
              go_roundg (n - (q + 1))
              case measure => have := HG.out; omega
              case rel =>
                refine ⟨q + 1, by go_num, by omega, rfl, _, HST.out.symm, ?_, ?_, ?_⟩
                · have := HLEN.out; have := HNEW.out.1; omega
                · have h1 := (HO3.out.stored (p * 6 + 3) (.int .i64 (0 + 1))).1
                  have h2 := HNEW.out.2
                  simp only [HKA.out] at h2
                  have h3 : 0 + p + 1 + (p - p) = p + 1 := by omega
                  have h4 : p + 1 + (p - p) = p + 1 := by omega
                  (first | rw [h3, List.nil_append] at h1 | rw [show 0 + p + 1 + 0 = p + 1 by omega, List.nil_append] at h1)
                  rw [HNEW.out.1, h2]
                  (try rw [h4])
                  exact own_base h1 (by have := HBW.out.size; omega)
                · exact (HBW.out.trans (HB3.out.mono (by have := HBW.out.size; omega))).setCell (p := ⟨gq, p * 6 + 3, none⟩) (by show w.heap.size ≤ gq; have := HBW.out.size; omega) _
            by_cases k2 : kd = 2
            · subst k2
              have HKA : Hid (kindAt 2 = 4) := Lib.hid (by rfl)
              go_wp2_with (first | (at_builtin; refine wpList_append_any _ rfl (.tmp 56) (.tmp 59) 71 rfl wr.heap.size 75 i0 _ 6 48 Try.underlying71 hi0 hz0 hz1 hz2 rfl (by decide) _ _ _ rfl (World.ownsRow_nil _ _ _ _) wr.heap.size _ _ _ _ rfl r1 o1 m1 b1 hsz ?_; intro v1 w1 hown1 hg1 hd1; have hb1 := below_none hg1; have hX1 := hX.below hb1 hX.lt; have x2 : w1.cell? ⟨wo.heap.size, 2, none⟩ = some (.int .i64 xk) := (hX1.cell 2).trans rfl; have x3 : w1.cell? ⟨wo.heap.size, 3, none⟩ = some (.int .i64 xi) := (hX1.cell 3).trans rfl; have x4 : w1.cell? ⟨wo.heap.size, 4, none⟩ = some (.int .i64 xj) := (hX1.cell 4).trans rfl; have xl := hX1.lt; have HB1 := Lib.hid hb1; have hsz1 := hb1.size; have hsz2 := Nat.le_trans hb1.size (Nat.le_succ w1.heap.size); clear hd1 hg1 hb1) | (at_builtin; refine wpList_append_any _ rfl (.tmp 61) (.tmp 65) 71 rfl wr.heap.size 75 i0 _ 6 48 Try.underlying71 hi0 hz0 hz1 hz2 rfl (by decide) _ _ _ rfl (hown1.alloc _) _ _ _ _ [.int .i64 xk, .int .i64 xi, .int .i64 xj, .int .i64 0, .int .i64 0, .int .i64 0] rfl (lit_read (w := w1) [.int .i64 xk, .int .i64 xi, .int .i64 xj, .int .i64 0, .int .i64 0, .int .i64 0] 6 rfl) hone m2 b2 (Nat.le_trans hsz2 (le_alloc _ _)) ?_; intro v2 w2 hown2 hg2 hd2; have hb2 : Below wr.heap.size wr w2 := below_two HB1.out hown1 hg2; have HB2 := Lib.hid hb2; have hsz3 := hb2.size; have r3 := HR2.out w2 hb2; clear hd2 hg2 hb2 hown1 x2 x3 x4 hX1 xl) | (at_builtin; refine wpList_append_any _ rfl (.tmp 67) (.tmp 70) 71 rfl wr.heap.size 75 i0 _ 6 48 Try.underlying71 hi0 hz0 hz1 hz2 rfl (by decide) _ _ _ rfl hown2 _ _ _ _ _ rfl r3 o2 m3 b3 hsz3 ?_; intro v3 w3 hown3 hg3 hd3; have hb3 : Below wr.heap.size wr w3 := (below_row hg3 (fun g e => (hown2.lt g e).1) hsz3 |> fun hh => HB2.out.trans hh); have hX3 := hX.below hb3 hX.lt; obtain ⟨gq, cq, rfl, hgq, hgql⟩ := hown3.form (by omega); have x1 : w3.cell? ⟨wo.heap.size, 1, none⟩ = some (.int .i64 2) := (hX3.cell 1).trans rfl; have xl := hX3.lt; have hz3 : w3.cell? ⟨gq, p * 6 + 4, none⟩ = some (.int .i64 0) := (hown3.cellAt (p * 6 + 4) (by omega)).trans (HZ.out 4 (by omega)); have hf3 := hown3.frozenAt (p * 6 + 4); have HB3 := Lib.hid hb3; have HO3 := Lib.hid hown3; clear hd3 hg3 hb3 hown3 hown2))
              go_roundg (n - (q + 1))
              case measure => have := HG.out; omega
              case rel =>
                refine ⟨q + 1, by go_num, by omega, rfl, _, HST.out.symm, ?_, ?_, ?_⟩
                · have := HLEN.out; have := HNEW.out.1; omega
                · have h1 := (HO3.out.stored (p * 6 + 4) (.int .i64 (0 + 1))).1
                  have h2 := HNEW.out.2
                  simp only [HKA.out] at h2
                  have h3 : 0 + p + 1 + (p - p) = p + 1 := by omega
                  have h4 : p + 1 + (p - p) = p + 1 := by omega
                  (first | rw [h3, List.nil_append] at h1 | rw [show 0 + p + 1 + 0 = p + 1 by omega, List.nil_append] at h1)
                  rw [HNEW.out.1, h2]
                  (try rw [h4])
                  exact own_base h1 (by have := HBW.out.size; omega)
                · exact (HBW.out.trans (HB3.out.mono (by have := HBW.out.size; omega))).setCell (p := ⟨gq, p * 6 + 4, none⟩) (by show w.heap.size ≤ gq; have := HBW.out.size; omega) _
            · have e1 : (kd == 1) = false := by simp [k1]
              have e2 : (kd == 2) = false := by simp [k2]
              have HK5 : Hid (kindAt kd = 5) := Lib.hid (by unfold kindAt; rw [if_neg k1, if_neg k2])
              clear k1 k2
              have HKA : Hid (kindAt kd = 5) := Lib.hid (by exact HK5.out)
              go_wp2_with (first | (at_builtin; refine wpList_append_any _ rfl (.tmp 56) (.tmp 59) 71 rfl wr.heap.size 75 i0 _ 6 48 Try.underlying71 hi0 hz0 hz1 hz2 rfl (by decide) _ _ _ rfl (World.ownsRow_nil _ _ _ _) wr.heap.size _ _ _ _ rfl r1 o1 m1 b1 hsz ?_; intro v1 w1 hown1 hg1 hd1; have hb1 := below_none hg1; have hX1 := hX.below hb1 hX.lt; have x2 : w1.cell? ⟨wo.heap.size, 2, none⟩ = some (.int .i64 xk) := (hX1.cell 2).trans rfl; have x3 : w1.cell? ⟨wo.heap.size, 3, none⟩ = some (.int .i64 xi) := (hX1.cell 3).trans rfl; have x4 : w1.cell? ⟨wo.heap.size, 4, none⟩ = some (.int .i64 xj) := (hX1.cell 4).trans rfl; have xl := hX1.lt; have HB1 := Lib.hid hb1; have hsz1 := hb1.size; have hsz2 := Nat.le_trans hb1.size (Nat.le_succ w1.heap.size); clear hd1 hg1 hb1) | (at_builtin; refine wpList_append_any _ rfl (.tmp 61) (.tmp 65) 71 rfl wr.heap.size 75 i0 _ 6 48 Try.underlying71 hi0 hz0 hz1 hz2 rfl (by decide) _ _ _ rfl (hown1.alloc _) _ _ _ _ [.int .i64 xk, .int .i64 xi, .int .i64 xj, .int .i64 0, .int .i64 0, .int .i64 0] rfl (lit_read (w := w1) [.int .i64 xk, .int .i64 xi, .int .i64 xj, .int .i64 0, .int .i64 0, .int .i64 0] 6 rfl) hone m2 b2 (Nat.le_trans hsz2 (le_alloc _ _)) ?_; intro v2 w2 hown2 hg2 hd2; have hb2 : Below wr.heap.size wr w2 := below_two HB1.out hown1 hg2; have HB2 := Lib.hid hb2; have hsz3 := hb2.size; have r3 := HR2.out w2 hb2; clear hd2 hg2 hb2 hown1 x2 x3 x4 hX1 xl) | (at_builtin; refine wpList_append_any _ rfl (.tmp 67) (.tmp 70) 71 rfl wr.heap.size 75 i0 _ 6 48 Try.underlying71 hi0 hz0 hz1 hz2 rfl (by decide) _ _ _ rfl hown2 _ _ _ _ _ rfl r3 o2 m3 b3 hsz3 ?_; intro v3 w3 hown3 hg3 hd3; have hb3 : Below wr.heap.size wr w3 := (below_row hg3 (fun g e => (hown2.lt g e).1) hsz3 |> fun hh => HB2.out.trans hh); have hX3 := hX.below hb3 hX.lt; obtain ⟨gq, cq, rfl, hgq, hgql⟩ := hown3.form (by omega); have x1 : w3.cell? ⟨wo.heap.size, 1, none⟩ = some (.int .i64 kd) := (hX3.cell 1).trans rfl; have xl := hX3.lt; have hz3 : w3.cell? ⟨gq, p * 6 + 5, none⟩ = some (.int .i64 0) := (hown3.cellAt (p * 6 + 5) (by omega)).trans (HZ.out 5 (by omega)); have hf3 := hown3.frozenAt (p * 6 + 5); have HB3 := Lib.hid hb3; have HO3 := Lib.hid hown3; clear hd3 hg3 hb3 hown3 hown2))
              go_roundg (n - (q + 1))
              case measure => have := HG.out; omega
              case rel =>
                refine ⟨q + 1, by go_num, by omega, rfl, _, HST.out.symm, ?_, ?_, ?_⟩
                · have := HLEN.out; have := HNEW.out.1; omega
                · have h1 := (HO3.out.stored (p * 6 + 5) (.int .i64 (0 + 1))).1
                  have h2 := HNEW.out.2
                  simp only [HKA.out] at h2
                  have h3 : 0 + p + 1 + (p - p) = p + 1 := by omega
                  have h4 : p + 1 + (p - p) = p + 1 := by omega
                  (first | rw [h3, List.nil_append] at h1 | rw [show 0 + p + 1 + 0 = p + 1 by omega, List.nil_append] at h1)
                  rw [HNEW.out.1, h2]
                  (try rw [h4])
                  exact own_base h1 (by have := HBW.out.size; omega)
                · exact (HBW.out.trans (HB3.out.mono (by have := HBW.out.size; omega))).setCell (p := ⟨gq, p * 6 + 5, none⟩) (by show w.heap.size ≤ gq; have := HBW.out.size; omega) _
    · obtain rfl : q = n := by omega
      have hfull : out = L.foldl ins [] := by rw [HOUT.out, HN.out, List.take_length]
      have hti : decide ((q : Int) < (q : Int)) = false := by simp
      have hfin : TchPost L w (.returned (.slice V N vc)) wo := ⟨_, rfl, by rw [← hfull, HLEN.out]; exact hown, hbel⟩
      have HFIN := Lib.hid hfin
      clear hfull hfin hown hbel hV
      go_wp2_with fail
      go_ret
      exact HFIN.out
end Go.Proofs.Ytnpeldbnnneijaa
