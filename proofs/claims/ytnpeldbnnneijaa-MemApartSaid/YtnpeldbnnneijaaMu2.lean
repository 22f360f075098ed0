/- The document's log; lists of accesses and of touches held against each other. -/
import Derived.Test.YtnpeldbnnneijaaMu1
namespace Go.Proofs.Ytnpeldbnnneijaa
open Go.RowKit Go.Joins Go.ChangeShapes Go.WideShapes Go.Deep
set_option linter.unusedVariables false
set_option maxRecDepth 100000

def CRel (W : World) (n : Nat) (gk : Nat) (i : Value) (wr : World) : Prop := ∃ k j : Nat, k ≤ n ∧ gk = n - k ∧ i = .int .i64 k ∧ wr = W.drewN j
set_option maxHeartbeats 2000000 in
theorem accesses_yes (P Q : Option Addr) (n c d : Nat) (l : List Acc) (w : World) (hl : l.length = n) (hn : n ≤ 9223372036854775800) (hA : Reads w w.heap.size 8 P n (accs l)) (hB : Reads w w.heap.size 8 Q n (accs l)) :
    Calls Try.prog 26 #[.slice P n c, .slice Q n d] w fun e w' => e = .returned (.bool true) ∧ ∃ j, w' = w.drewN j := by
  have HL := Lib.hid hl
  have HA := Lib.hid hA
  have HB := Lib.hid hB
  have hnn : ((n : Int) != (n : Int)) = false := by simp
  clear hl hA hB
  go_enter Try.func26, Try.ntmps26
  go_wp2_with fail
  go_loopg [5] n (fun gk i wr => CRel w n gk i wr)
  case atStart => exact ⟨0, 0, Nat.zero_le _, rfl, rfl, rfl⟩
  case round =>
    obtain ⟨k, j, hk, hgk, rfl, rfl⟩ := hrel
    have HG := Lib.hid hgk
    clear hgk
    by_cases hkn : k < n
    · obtain ⟨b, off, rfl, hb, hc⟩ := HA.out.flatN (by omega) (by omega)
      obtain ⟨b', off', rfl, hb', hc'⟩ := HB.out.flatN (by omega) (by omega)
      have hkl : k < l.length := by rw [HL.out]; exact hkn
      have hx : ∀ s u, s < 8 → (l[k].cells)[s]? = some u → w.cell? ⟨b, off + k * 8 + s, none⟩ = some u ∧ w.cell? ⟨b', off' + k * 8 + s, none⟩ = some u := by
        intro s u hs hu
        rw [Nat.add_assoc, Nat.add_assoc]
        have := accs_at l k s hkl hs
        rw [Nat.mul_comm] at this
        exact ⟨hc (k * 8 + s) u (this.trans hu), hc' (k * 8 + s) u (this.trans hu)⟩
      generalize l[k] = X at hx
      obtain ⟨th, kd, xk, xi, xj, ol, vl, ys⟩ := X
      obtain ⟨x0, y0⟩ := hx 0 _ (by omega) rfl
      obtain ⟨x1, y1⟩ := hx 1 _ (by omega) rfl
      obtain ⟨x2, y2⟩ := hx 2 _ (by omega) rfl
      obtain ⟨x3, y3⟩ := hx 3 _ (by omega) rfl
      obtain ⟨x4, y4⟩ := hx 4 _ (by omega) rfl
      obtain ⟨x5, y5⟩ := hx 5 _ (by omega) rfl
      obtain ⟨x6, y6⟩ := hx 6 _ (by omega) rfl
      obtain ⟨x7, y7⟩ := hx 7 _ (by omega) rfl
      simp only [Nat.add_zero] at x0 y0
      have hki : (k : Int) < (n : Int) := by omega
      clear hc hc' hx
      go_wp2_with fail
      go_quiet (fail)
      go_wp2_with fail
      go_roundg (n - (k + 1))
      case measure => have := HG.out; omega
      case rel => exact ⟨k + 1, _, by omega, rfl, by go_num, rfl⟩
    · obtain rfl : k = n := by omega
      have hki : decide ((k : Int) < (k : Int)) = false := by simp
      go_wp2_with fail
      go_ret
      exact ⟨rfl, _, rfl⟩
set_option maxHeartbeats 2000000 in
theorem touches_yes (P Q : Option Addr) (n c d : Nat) (l : List Tch) (w : World) (hl : l.length = n) (hn : n ≤ 9223372036854775800) (hA : Reads w w.heap.size 6 P n (tchs l)) (hB : Reads w w.heap.size 6 Q n (tchs l)) :
    Calls Try.prog 29 #[.slice P n c, .slice Q n d] w fun e w' => e = .returned (.bool true) ∧ ∃ j, w' = w.drewN j := by
  have HL := Lib.hid hl
  have HA := Lib.hid hA
  have HB := Lib.hid hB
  have hnn : ((n : Int) != (n : Int)) = false := by simp
  clear hl hA hB
  go_enter Try.func29, Try.ntmps29
  go_wp2_with fail
  go_loopg [5] n (fun gk i wr => CRel w n gk i wr)
  case atStart => exact ⟨0, 0, Nat.zero_le _, rfl, rfl, rfl⟩
  case round =>
    obtain ⟨k, j, hk, hgk, rfl, rfl⟩ := hrel
    have HG := Lib.hid hgk
    clear hgk
    by_cases hkn : k < n
    · obtain ⟨b, off, rfl, hb, hc⟩ := HA.out.flatN (by omega) (by omega)
      obtain ⟨b', off', rfl, hb', hc'⟩ := HB.out.flatN (by omega) (by omega)
      have hkl : k < l.length := by rw [HL.out]; exact hkn
      have hx : ∀ s u, s < 6 → (l[k].cells)[s]? = some u → w.cell? ⟨b, off + k * 6 + s, none⟩ = some u ∧ w.cell? ⟨b', off' + k * 6 + s, none⟩ = some u := by
        intro s u hs hu
        rw [Nat.add_assoc, Nat.add_assoc]
        have := tchs_at l k s hkl hs
        exact ⟨hc (k * 6 + s) u (this.trans hu), hc' (k * 6 + s) u (this.trans hu)⟩
      generalize l[k] = X at hx
      obtain ⟨t0, t1, t2, t3, t4, t5⟩ := X
      obtain ⟨x0, y0⟩ := hx 0 _ (by omega) rfl
      obtain ⟨x1, y1⟩ := hx 1 _ (by omega) rfl
      obtain ⟨x2, y2⟩ := hx 2 _ (by omega) rfl
      obtain ⟨x3, y3⟩ := hx 3 _ (by omega) rfl
      obtain ⟨x4, y4⟩ := hx 4 _ (by omega) rfl
      obtain ⟨x5, y5⟩ := hx 5 _ (by omega) rfl
      simp only [Nat.add_zero] at x0 y0
      have hki : (k : Int) < (n : Int) := by omega
      clear hc hc' hx
      go_wp2_with fail
      go_quiet (fail)
      go_wp2_with fail
      go_roundg (n - (k + 1))
      case measure => have := HG.out; omega
      case rel => exact ⟨k + 1, _, by omega, rfl, by go_num, rfl⟩
    · obtain rfl : k = n := by omega
      have hki : decide ((k : Int) < (k : Int)) = false := by simp
      go_wp2_with fail
      go_ret
      exact ⟨rfl, _, rfl⟩

/-! ### The document's log -/
theorem drop_step (L : List Acc) (f q : Nat) (hq : q < L.length) (hf : f ≤ q) : (L.take (q + 1)).drop f = (L.take q).drop f ++ [L[q]] := by
  rw [List.take_succ_eq_append_getElem hq, List.drop_append_of_le_length (by rw [List.length_take]; omega)]
theorem drop_step_no (L : List Acc) (f q : Nat) (hf : q < f) : (L.take (q + 1)).drop f = (L.take q).drop f := by
  rw [List.drop_eq_nil_of_le (by rw [List.length_take]; omega), List.drop_eq_nil_of_le (by rw [List.length_take]; omega)]
def LRel (w : World) (L : List Acc) (f n : Nat) (gk : Nat) (ov iv : Value) (wr : World) : Prop :=
  ∃ q : Nat, iv = .int .i64 q ∧ q ≤ n ∧ gk = n - q ∧ ∃ N, N = ((L.take q).drop f).length ∧ N ≤ q ∧ wr.ownsRow w.heap.size 44 8 ov N (accs ((L.take q).drop f)) ∧ Below w.heap.size w wr
theorem clN_iff (z : Int) (n q : Nat) (hq : q < n) : (z ≤ (q : Int)) ↔ clN z n ≤ q := by
  unfold clN
  split
  · omega
  · split <;> omega
set_option maxHeartbeats 4000000 in
theorem rlog_any {w : World} {base b C R : Nat} {lv : Value} {L : List Acc} (h : RIs w base b lv C R L) (z : Int) (hlog : L.length ≤ 2199023255551) :
    Calls Try.prog 25 #[.pointer (some ⟨b, 0, none⟩), .int .i64 z] w (LogPost (L.drop (clN z L.length)) (L.length - clN z L.length) w) := by
  obtain ⟨Rl, rc, rfl, hcap, hRd⟩ := own_shapes h.log
  have c2 : w.cell? ⟨b, 2, none⟩ = some (.slice Rl L.length rc) := (h.blk.cell 2).trans rfl
  have hbl := h.blk.lt
  have HR := Lib.hid hRd
  obtain ⟨i0, hi0, hz0, hz1, hz2⟩ := info_parts info_acc
  obtain ⟨n, hn⟩ : ∃ n, n = L.length := ⟨_, rfl⟩
  have HN := Lib.hid hn
  rw [← hn] at c2 hlog ⊢
  obtain ⟨f, hf⟩ : ∃ f, f = clN z n := ⟨_, rfl⟩
  have HF := Lib.hid hf
  rw [← hf]
  clear h hRd hn hcap hf
  go_enter Try.func25, Try.ntmps25
  go_wp2_with fail
  go_loopg [5, 6] n (fun gk ov iv wr => LRel w L f n gk ov iv wr)
  case atStart => exact ⟨0, rfl, Nat.zero_le _, rfl, 0, by simp, Nat.le_refl _, by simpa [accs] using World.ownsRow_nil _ _ _ _, Below.refl _ _⟩
  case round =>
    obtain ⟨q, rfl, hq, hgk, N, hN, hNq, hown, hbel⟩ := hrel
    have HG := Lib.hid hgk
    have HLEN := Lib.hid hN
    obtain ⟨V, vc, rfl, -, -⟩ := own_shapes hown
    have d2 : wr.cell? ⟨b, 2, none⟩ = some (.slice Rl n rc) := (hbel.cell (p := ⟨b, 2, none⟩) hbl).trans c2
    have hblr : b < wr.heap.size := by have := hbel.size; omega
    clear hgk hN
    by_cases hqn : q < n
    · have hql : q < L.length := by rw [← HN.out]; exact hqn
      have hti : (q : Int) < (n : Int) := by omega
      have hcl := clN_iff z n q hqn
      rw [← HF.out] at hcl
      by_cases hfq : f ≤ q
      · have hzq : z ≤ (q : Int) := hcl.2 hfq
        obtain ⟨g0, off, rfl, hg0, hc⟩ := (HR.out.below hbel).flatN (by omega) (by omega)
        have hx : ∀ s u, s < 8 → (L[q].cells)[s]? = some u → wr.cell? ⟨g0, off + q * 8 + s, none⟩ = some u := by
          intro s u hs hu
          rw [Nat.add_assoc]
          refine hc (q * 8 + s) u ?_
          rw [show q * 8 + s = 8 * q + s by omega, accs_at L q s hql hs]
          exact hu
        have hst := drop_step L f q hql hfq
        obtain ⟨X, hX⟩ : ∃ X, X = L[q] := ⟨_, rfl⟩
        rw [← hX] at hx hst
        obtain ⟨th, kd, xk, xi, xj, ol, vl, ys⟩ := X
        have x0 : wr.cell? ⟨g0, off + q * 8, none⟩ = some (.int .i64 th) := hx 0 _ (by omega) rfl
        have x1 : wr.cell? ⟨g0, off + q * 8 + 1, none⟩ = some (.int .i64 kd) := hx 1 _ (by omega) rfl
        have x2 : wr.cell? ⟨g0, off + q * 8 + 2, none⟩ = some (.int .i64 xk) := hx 2 _ (by omega) rfl
        have x3 : wr.cell? ⟨g0, off + q * 8 + 3, none⟩ = some (.int .i64 xi) := hx 3 _ (by omega) rfl
        have x4 : wr.cell? ⟨g0, off + q * 8 + 4, none⟩ = some (.int .i64 xj) := hx 4 _ (by omega) rfl
        have x5 : wr.cell? ⟨g0, off + q * 8 + 5, none⟩ = some (.int .i64 ol) := hx 5 _ (by omega) rfl
        have x6 : wr.cell? ⟨g0, off + q * 8 + 6, none⟩ = some (.int .i64 vl) := hx 6 _ (by omega) rfl
        have x7 : wr.cell? ⟨g0, off + q * 8 + 7, none⟩ = some (.bool ys) := hx 7 _ (by omega) rfl
        have hgr : g0 < wr.heap.size := by have := hbel.size; omega
        have HST := Lib.hid hst
        have hm1 : N + 1 ≤ maxLen := by unfold maxLen; omega
        have hnb : (N + 1) * 64 ≤ 140737488355328 := by omega
        have hbase : w.heap.size ≤ wr.heap.size := hbel.size
        clear hc hx hX hst hcl
        go_wp2_with (at_builtin; go_must (refine wpList_append_lies _ rfl _ _ 41 rfl w.heap.size 44 i0 _ 8 64 Try.underlying41 hi0 hz0 hz1 hz2 rfl (by omega) (.slice V N vc) N (accs ((L.take q).drop f)) (by rfl) (show _ from hown.alloc _) ⟨wr.heap.size, 0, none⟩ 1 1 [.int .i64 th, .int .i64 kd, .int .i64 xk, .int .i64 xi, .int .i64 xj, .int .i64 ol, .int .i64 vl, .bool ys] (by rfl) (by rfl) (World.news_of_block (cs := #[.int .i64 th, .int .i64 kd, .int .i64 xk, .int .i64 xi, .int .i64 xj, .int .i64 ol, .int .i64 vl, .bool ys]) (t := 44) (fr := (0, 0)) (heap_alloc_new wr _)) (by simp [Value.oneCell']) (by omega) hm1 hnb (by simp; omega) (wr.heap.size + 1) (by simp) ?_; intro gg cap w3 hown3 hgrow hat hlt; have hbel3 := (hbel.alloc hbase (.cells #[.int .i64 th, .int .i64 kd, .int .i64 xk, .int .i64 xi, .int .i64 xj, .int .i64 ol, .int .i64 vl, .bool ys] 44)).grown hgrow (by simp; omega) (fun j hj => (hown.lt j hj).1); have HB3 := Lib.hid hbel3; have HO3 := Lib.hid hown3; clear hbel3 hown3 hgrow hat))
        go_roundg (n - (q + 1))
        case measure => have := HG.out; omega
        case rel => exact ⟨q + 1, by go_num, by omega, rfl, N + 1, by rw [HST.out, List.length_append, ← HLEN.out]; rfl, by omega, by rw [HST.out, accs_snoc]; exact HO3.out, HB3.out⟩
      · have hzq : ¬ z ≤ (q : Int) := fun h => hfq (hcl.1 h)
        have hst := drop_step_no L f q (by omega)
        have HST := Lib.hid hst
        clear hst hcl hfq
        go_wp2_with fail
        go_roundg (n - (q + 1))
        case measure => have := HG.out; omega
        case rel => exact ⟨q + 1, by go_num, by omega, rfl, N, by rw [HST.out]; exact HLEN.out, by omega, by rw [HST.out]; exact hown, hbel⟩
    · obtain rfl : q = n := by omega
      have hti : decide ((q : Int) < (q : Int)) = false := by simp
      have hfull : L.take q = L := by rw [HN.out, List.take_length]
      have hfin : LogPost (L.drop f) (q - f) w (.returned (.slice V N vc)) wr := by
        have hl := HLEN.out
        rw [hfull, List.length_drop, ← HN.out] at hl
        rw [hfull] at hown
        rw [← hl]
        exact ⟨_, rfl, hown, hbel⟩
      have HFIN := Lib.hid hfin
      clear hfull hfin hown hbel
      go_wp2_with fail
      go_ret
      exact HFIN.out
end Go.Proofs.Ytnpeldbnnneijaa
