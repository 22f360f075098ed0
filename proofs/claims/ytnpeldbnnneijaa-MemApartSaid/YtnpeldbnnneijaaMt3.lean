/- The program's Touched, walked. -/
import Derived.Test.YtnpeldbnnneijaaMt2
import Derived.Deep.LoopGhost
import Derived.Deep.DeepMust
namespace Go.Proofs.Ytnpeldbnnneijaa
open Go.RowKit Go.Joins Go.ChangeShapes Go.WideShapes Go.Deep Go.Maps
set_option linter.unusedVariables false
set_option maxRecDepth 100000

theorem info_touch : (Try.prog.info? 75).map (fun i => (i.zero, i.size, i.bytes)) = some (some (.agg #[.int .i64 0, .int .i64 0, .int .i64 0, .int .i64 0, .int .i64 0, .int .i64 0]), 6, 48) := by kernel_rfl
theorem touchAll_length (out : List Tch) (x : Acc) : (touchAll out x).length = out.length := by simp [touchAll]
theorem zero_at (out : List Tch) (l : List Value) (t N : Nat) (hN : out.length = N) (h : l[t]? = some (.int .i64 0)) : (tchs out ++ l)[N * 6 + t]? = some (.int .i64 0) := by
  rw [List.getElem?_append_right (by rw [tchs_length]; omega), tchs_length, hN, show N * 6 + t - N * 6 = t by omega]
  exact h
def TRel (w : World) (L : List Acc) (n : Nat) (gk : Nat) (ov iv : Value) (wr : World) : Prop :=
  ∃ q : Nat, iv = .int .i64 q ∧ q ≤ n ∧ gk = n - q ∧ ∃ out, out = (L.take q).foldl occ [] ∧ out.length ≤ q ∧ wr.ownsRow (w.heap.size + 1) 75 6 ov out.length (tchs out) ∧ wr.ownsMap Try.prog 24 (plainElem (H := Unit) Try.prog 3) w.heap.size q (Dm (out.map Tch.key)) ∧ Below w.heap.size w wr
def TchPost (L : List Acc) (w : World) : Ending → World → Prop := fun e w' => ∃ v, e = .returned v ∧ w'.ownsRow w.heap.size 75 6 v (L.foldl ins []).length (tchs (L.foldl ins [])) ∧ Below w.heap.size w w'

set_option maxHeartbeats 8000000 in
theorem touched_any {w : World} {base b gh gs gc : Nat} {lv : Value} {m : MS} (h : MIs w base b gh gs gc lv m) (hAll : ∀ x ∈ m.log, wfK x.key) (hlog : m.log.length ≤ 2199023255551) :
    Calls Try.prog 27 #[.pointer (some ⟨b, 0, none⟩)] w (TchPost m.log w) := by
  have c4 : w.cell? ⟨b, 4, none⟩ = some lv := (h.blk.cell 4).trans rfl
  have hbl := h.blk.lt
  obtain ⟨R, c, rfl, hcap, hRd⟩ := own_shapes h.log
  have HR := Lib.hid hRd
  obtain ⟨i0, hi0, hz0, hz1, hz2⟩ := info_parts info_touch
  have HALL := Lib.hid hAll
  generalize m.log = L at *
  obtain ⟨n, hn⟩ : ∃ n, n = L.length := ⟨_, rfl⟩
  have HN := Lib.hid hn
  rw [← hn] at c4 hlog
  have hmm := @run_makeMap Try.prog
  clear h hRd hAll hn hcap
  go_enter Try.func27, Try.ntmps27
  go_wp2_with fail
  go_loopg [4, 17] n (fun gk ov iv wr => TRel w L n gk ov iv wr)
  case atStart => exact ⟨0, rfl, Nat.zero_le _, rfl, [], rfl, Nat.zero_le _, World.ownsRow_nil _ _ _ _, World.ownsMap_made _ _ _ _, (Below.refl _ _).alloc (Nat.le_refl _) _⟩
  case round =>
    clear hmm
    obtain ⟨q, rfl, hq, hgk, out, hout, hoq, hown, hmap, hbel⟩ := hrel
    have HG := Lib.hid hgk
    have HOUT := Lib.hid hout
    have hmlt := hmap.lt
    clear hgk hout
    by_cases hqn : q < n
    · have hql : q < L.length := by rw [← HN.out]; exact hqn
      have hXm := List.getElem_mem hql
      have hst := occ_step L q hql
      rw [← HOUT.out] at hst
      obtain ⟨g0, off, rfl, hg0, hc⟩ := (HR.out.below hbel).flatN (by omega) (by omega)
      have hx : ∀ s u, s < 8 → (L[q].cells)[s]? = some u → wr.cell? ⟨g0, off + q * 8 + s, none⟩ = some u := by
        intro s u hs hu
        rw [Nat.add_assoc]
        refine hc (q * 8 + s) u ?_
        rw [show q * 8 + s = 8 * q + s by omega, accs_at L q s hql hs]
        exact hu
      obtain ⟨X, hX⟩ : ∃ X, X = L[q] := ⟨_, rfl⟩
      rw [← hX] at hx hst hXm
      have hwf := HALL.out _ hXm
      obtain ⟨th, kd, xk, xi, xj, ol, vl, ys⟩ := X
      have x0 : wr.cell? ⟨g0, off + q * 8, none⟩ = some (.int .i64 th) := hx 0 _ (by omega) rfl
      have x1 : wr.cell? ⟨g0, off + q * 8 + 1, none⟩ = some (.int .i64 kd) := hx 1 _ (by omega) rfl
      have x2 : wr.cell? ⟨g0, off + q * 8 + 2, none⟩ = some (.int .i64 xk) := hx 2 _ (by omega) rfl
      have x3 : wr.cell? ⟨g0, off + q * 8 + 3, none⟩ = some (.int .i64 xi) := hx 3 _ (by omega) rfl
      have x4 : wr.cell? ⟨g0, off + q * 8 + 4, none⟩ = some (.int .i64 xj) := hx 4 _ (by omega) rfl
      have x5 : wr.cell? ⟨g0, off + q * 8 + 5, none⟩ = some (.int .i64 ol) := hx 5 _ (by omega) rfl
      have x6 : wr.cell? ⟨g0, off + q * 8 + 6, none⟩ = some (.int .i64 vl) := hx 6 _ (by omega) rfl
      have x7 : wr.cell? ⟨g0, off + q * 8 + 7, none⟩ = some (.bool ys) := hx 7 _ (by omega) rfl
      have hgr : g0 < wr.heap.size := by have := hbel.size; omega
      have hti : (q : Int) < (n : Int) := by omega
      have HKEY : Hid (keyOf Try.prog 24 (.agg #[.int .i64 xk, .int .i64 xi, .int .i64 xj]) = some (addrKey (xk, xi, xj))) := Lib.hid (key_addr hwf)
      have hwk : ∀ k ∈ out.map Tch.key, wfK k := by
        intro k hk
        obtain ⟨t, ht, rfl⟩ := List.mem_map.1 hk
        rw [HOUT.out] at ht
        obtain ⟨y, hy, e⟩ := (occ_small _).2.2 t ht
        rw [e]
        exact HALL.out y (List.mem_of_mem_take hy)
      have hhas := Dm_has (out.map Tch.key) (xk, xi, xj) hwk hwf
      have hnd : (out.map Tch.key).Nodup := by rw [HOUT.out]; exact occ_nodup _
      have hsm : ∀ t ∈ out, SmallT q t := by
        rw [HOUT.out]
        have := (occ_small (L.take q)).2.1
        rwa [List.length_take, Nat.min_eq_left (by omega)] at this
      have HND := Lib.hid hnd
      have HX := Lib.hid hX
      clear hc hx hX hXm hwf hnd
      by_cases hin : (xk, xi, xj) ∈ out.map Tch.key
      · obtain ⟨k, hk, hkk⟩ := List.getElem_of_mem hin
        have hkl : k < out.length := by simpa using hk
        have hke : out[k].key = (xk, xi, xj) := by simpa using hkk
        have HAT : Hid ((Dm (out.map Tch.key)).atKey (addrKey (xk, xi, xj)) (.lit (.int .i64 0)) = .lit (.int .i64 (k : Int))) := Lib.hid (by have := Dm_at (out.map Tch.key) (.lit (.int .i64 0)) hwk HND.out k hk; rw [hkk] at this; exact this)
        rw [show decide ((xk, xi, xj) ∈ out.map Tch.key) = true by simp only [decide_eq_true_iff]; exact hin] at hhas
        have HHAS := Lib.hid hhas
        have hrow := touchAll_row out ⟨th, kd, xk, xi, xj, ol, vl, ys⟩ HND.out k hkl hke
        rw [occ_in hin] at hst
        have HOCC : Hid (touchAll out ⟨th, kd, xk, xi, xj, ol, vl, ys⟩ = (L.take (q + 1)).foldl occ []) := Lib.hid hst.symm
        obtain ⟨g, cap, rfl, hg, hgl⟩ := hown.form (by omega)
        have hsk := hsm _ (List.getElem_mem hkl)
        obtain ⟨s1, s2, s3, s4, s5, s6⟩ := hsk
        have d3 : wr.cell? ⟨g, k * 6 + 3, none⟩ = some (.int .i64 out[k].loads) := (hown.cellAt (k * 6 + 3) (by omega)).trans (tchs_at out k 3 hkl (by omega))
        have d4 : wr.cell? ⟨g, k * 6 + 4, none⟩ = some (.int .i64 out[k].stores) := (hown.cellAt (k * 6 + 4) (by omega)).trans (tchs_at out k 4 hkl (by omega))
        have d5 : wr.cell? ⟨g, k * 6 + 5, none⟩ = some (.int .i64 out[k].swaps) := (hown.cellAt (k * 6 + 5) (by omega)).trans (tchs_at out k 5 hkl (by omega))
        have f3 := hown.frozenAt (k * 6 + 3)
        have f4 := hown.frozenAt (k * 6 + 4)
        have f5 := hown.frozenAt (k * 6 + 5)
        have hkn : k < n := by omega
        clear hin hk hkk hke hhas hwk hsm hst
        by_cases k1 : kd = 1
        · subst k1
          have HROW : Hid (tchs (touchAll out ⟨th, 1, xk, xi, xj, ol, vl, ys⟩) = (tchs out).set (k * 6 + 3) (.int .i64 (out[k].loads + 1))) := Lib.hid hrow
          clear hrow
          clear hkn
          go_wp2_with (at_lookup; refine wpList_lookup_own_ok_int _ rfl _ _ 79 rfl 24 3 .i64 addr_law Try.underlying79 Try.underlying3 (zero_int _) w.heap.size q (Dm (out.map Tch.key)) rfl (hmap.alloc _) _ _ rfl HKEY.out ?_; intro c hat hwc; rw [HAT.out] at hat; injection hat with hat; injection hat with _ hat; subst hat; rw [HHAS.out]; clear hwc)
          go_roundg (n - (q + 1))
          case measure => have := HG.out; omega
          case rel =>
            refine ⟨q + 1, by go_num, by omega, rfl, _, HOCC.out, ?_, ?_, ?_, ?_⟩
            · rw [touchAll_length]; omega
            · have h1 := ((hown.stored (k * 6 + 3) (.int .i64 (out[k].loads + 1))).1).alloc (.cells #[.int .i64 th, .int .i64 1, .int .i64 xk, .int .i64 xi, .int .i64 xj, .int .i64 ol, .int .i64 vl, .bool ys] 44)
              rw [touchAll_length, HROW.out]
              exact h1
            · rw [touchAll_keys]
              exact ((hmap.setCell (a := ⟨g, k * 6 + 3, none⟩) (by show w.heap.size ≠ g; omega) _).alloc _).mono (by omega)
            · have h1 := hbel.setCell (p := ⟨g, k * 6 + 3, none⟩) (by show w.heap.size ≤ g; omega) (.int .i64 (out[k].loads + 1))
              exact h1.alloc h1.size _
        by_cases k2 : kd = 2
        · subst k2
          have HROW : Hid (tchs (touchAll out ⟨th, 2, xk, xi, xj, ol, vl, ys⟩) = (tchs out).set (k * 6 + 4) (.int .i64 (out[k].stores + 1))) := Lib.hid hrow
          clear hrow
          clear hkn
          go_wp2_with (at_lookup; refine wpList_lookup_own_ok_int _ rfl _ _ 79 rfl 24 3 .i64 addr_law Try.underlying79 Try.underlying3 (zero_int _) w.heap.size q (Dm (out.map Tch.key)) rfl (hmap.alloc _) _ _ rfl HKEY.out ?_; intro c hat hwc; rw [HAT.out] at hat; injection hat with hat; injection hat with _ hat; subst hat; rw [HHAS.out]; clear hwc)
          go_roundg (n - (q + 1))
          case measure => have := HG.out; omega
          case rel =>
            refine ⟨q + 1, by go_num, by omega, rfl, _, HOCC.out, ?_, ?_, ?_, ?_⟩
            · rw [touchAll_length]; omega
            · have h1 := ((hown.stored (k * 6 + 4) (.int .i64 (out[k].stores + 1))).1).alloc (.cells #[.int .i64 th, .int .i64 2, .int .i64 xk, .int .i64 xi, .int .i64 xj, .int .i64 ol, .int .i64 vl, .bool ys] 44)
              rw [touchAll_length, HROW.out]
              exact h1
            · rw [touchAll_keys]
              exact ((hmap.setCell (a := ⟨g, k * 6 + 4, none⟩) (by show w.heap.size ≠ g; omega) _).alloc _).mono (by omega)
            · have h1 := hbel.setCell (p := ⟨g, k * 6 + 4, none⟩) (by show w.heap.size ≤ g; omega) (.int .i64 (out[k].stores + 1))
              exact h1.alloc h1.size _
        · have e1 : (kd == 1) = false := by simp [k1]
          have e2 : (kd == 2) = false := by simp [k2]
          simp only [kindAt, kindOf, if_neg k1, if_neg k2] at hrow
          have HROW : Hid (tchs (touchAll out ⟨th, kd, xk, xi, xj, ol, vl, ys⟩) = (tchs out).set (k * 6 + 5) (.int .i64 (out[k].swaps + 1))) := Lib.hid hrow
          clear hrow k1 k2
          clear hkn
          go_wp2_with (at_lookup; refine wpList_lookup_own_ok_int _ rfl _ _ 79 rfl 24 3 .i64 addr_law Try.underlying79 Try.underlying3 (zero_int _) w.heap.size q (Dm (out.map Tch.key)) rfl (hmap.alloc _) _ _ rfl HKEY.out ?_; intro c hat hwc; rw [HAT.out] at hat; injection hat with hat; injection hat with _ hat; subst hat; rw [HHAS.out]; clear hwc)
          go_roundg (n - (q + 1))
          case measure => have := HG.out; omega
          case rel =>
            refine ⟨q + 1, by go_num, by omega, rfl, _, HOCC.out, ?_, ?_, ?_, ?_⟩
            · rw [touchAll_length]; omega
            · have h1 := ((hown.stored (k * 6 + 5) (.int .i64 (out[k].swaps + 1))).1).alloc (.cells #[.int .i64 th, .int .i64 kd, .int .i64 xk, .int .i64 xi, .int .i64 xj, .int .i64 ol, .int .i64 vl, .bool ys] 44)
              rw [touchAll_length, HROW.out]
              exact h1
            · rw [touchAll_keys]
              exact ((hmap.setCell (a := ⟨g, k * 6 + 5, none⟩) (by show w.heap.size ≠ g; omega) _).alloc _).mono (by omega)
            · have h1 := hbel.setCell (p := ⟨g, k * 6 + 5, none⟩) (by show w.heap.size ≤ g; omega) (.int .i64 (out[k].swaps + 1))
              exact h1.alloc h1.size _
      · rw [show decide ((xk, xi, xj) ∈ out.map Tch.key) = false by simp only [decide_eq_false_iff_not]; exact hin] at hhas
        have HHAS := Lib.hid hhas
        rw [occ_new hin] at hst
        have HOCC : Hid (touchAll (out ++ [start ⟨th, kd, xk, xi, xj, ol, vl, ys⟩]) ⟨th, kd, xk, xi, xj, ol, vl, ys⟩ = (L.take (q + 1)).foldl occ []) := Lib.hid hst.symm
        obtain ⟨N, hN⟩ : ∃ N, out.length = N := ⟨_, rfl⟩
        have hnd2 : ((out ++ [start ⟨th, kd, xk, xi, xj, ol, vl, ys⟩]).map Tch.key).Nodup := by
          have h1 := occ_nodup (L.take (q + 1))
          rw [← HOCC.out, touchAll_keys] at h1
          exact h1
        have hNn : N < (out ++ [start ⟨th, kd, xk, xi, xj, ol, vl, ys⟩]).length := by simp; omega
        have hgN : (out ++ [start ⟨th, kd, xk, xi, xj, ol, vl, ys⟩])[N] = start ⟨th, kd, xk, xi, xj, ol, vl, ys⟩ := by
          subst hN
          exact List.getElem_concat_length rfl _
        have hrow := touchAll_row (out ++ [start ⟨th, kd, xk, xi, xj, ol, vl, ys⟩]) ⟨th, kd, xk, xi, xj, ol, vl, ys⟩ hnd2 N hNn (by rw [hgN]; rfl)
        rw [hgN] at hrow
        have HLEN := Lib.hid hN
        rw [hN] at hown hoq
        obtain ⟨Rv, vc, rfl, -, -⟩ := own_shapes hown
        have hN1 : N + 1 ≤ maxLen := by unfold maxLen; omega
        have hN48 : (N + 1) * 48 ≤ 140737488355328 := by omega
        have hkn : N < n := by omega
        clear hin hhas hwk hsm hst hnd2 hNn hgN hN
        by_cases k1 : kd = 1
        · subst k1
          have HNEW : Hid (tchs (touchAll (out ++ [start ⟨th, 1, xk, xi, xj, ol, vl, ys⟩]) ⟨th, 1, xk, xi, xj, ol, vl, ys⟩) = (tchs (out ++ [start ⟨th, 1, xk, xi, xj, ol, vl, ys⟩])).set (N * 6 + 3) (.int .i64 (0 + 1))) := Lib.hid hrow
          clear hrow
          clear hkn
          go_wp2_with (first | (at_lookup; refine wpList_lookup_own_ok_int _ rfl _ _ 79 rfl 24 3 .i64 addr_law Try.underlying79 Try.underlying3 (zero_int _) w.heap.size q (Dm (out.map Tch.key)) rfl (hmap.alloc _) _ _ rfl HKEY.out ?_; intro c hat hwc; rw [HHAS.out]; clear hat hwc) | (at_mapUpdate; refine wpList_mapUpdate_own _ rfl _ _ _ 79 rfl 24 3 addr_law Try.underlying79 _ w.heap.size q _ rfl (hmap.alloc _) (by unfold maxLen; omega) _ _ _ rfl rfl HKEY.out _ [] (plainElem_int Try.underlying3 (WalkArith.wf_i64 (by omega))) ?_; intro w1 hmap1 hg1; have hX1 : Blk w1 wr.heap.size 44 #[.int .i64 th, .int .i64 1, .int .i64 xk, .int .i64 xi, .int .i64 xj, .int .i64 ol, .int .i64 vl, .bool ys] := (Blk.new wr _ _).grown hg1 (by intro hh; injection hh with hh; omega); have p1 : w1.cell? ⟨wr.heap.size, 1, none⟩ = some (.int .i64 1) := (hX1.cell 1).trans rfl; have p2 : w1.cell? ⟨wr.heap.size, 2, none⟩ = some (.int .i64 xk) := (hX1.cell 2).trans rfl; have p3 : w1.cell? ⟨wr.heap.size, 3, none⟩ = some (.int .i64 xi) := (hX1.cell 3).trans rfl; have p4 : w1.cell? ⟨wr.heap.size, 4, none⟩ = some (.int .i64 xj) := (hX1.cell 4).trans rfl; have pl := hX1.lt; have hown1 := (hown.alloc (.cells #[.int .i64 th, .int .i64 1, .int .i64 xk, .int .i64 xi, .int .i64 xj, .int .i64 ol, .int .i64 vl, .bool ys] 44)).kept hg1 (.inr (fun e => by have := (hown.lt _ e).1; omega)); have hbel1 := (hbel.alloc hbel.size (.cells #[.int .i64 th, .int .i64 1, .int .i64 xk, .int .i64 xi, .int .i64 xj, .int .i64 ol, .int .i64 vl, .bool ys] 44)).grown hg1 (by have := hbel.size; simp; omega) (fun j hj => by injection hj with hj; omega); have hsz1 : w.heap.size + 1 ≤ w1.heap.size := (by omega); have HB1 := Lib.hid hbel1; clear hbel1) | (at_builtin; go_must (refine wpList_append_lies _ rfl _ _ 71 rfl (w.heap.size + 1) 75 i0 _ 6 48 Try.underlying71 hi0 hz0 hz1 hz2 rfl (by omega) (.slice Rv N vc) N (tchs out) (by rfl) (show _ from hown1.alloc _) ⟨w1.heap.size, 0, none⟩ 1 1 [.int .i64 xk, .int .i64 xi, .int .i64 xj, .int .i64 0, .int .i64 0, .int .i64 0] (by rfl) (by rfl) (World.news_of_block (cs := #[.int .i64 xk, .int .i64 xi, .int .i64 xj, .int .i64 0, .int .i64 0, .int .i64 0]) (t := 75) (fr := (0, 0)) (heap_alloc_new w1 _)) (by simp [Value.oneCell']) (by omega) hN1 hN48 (by simp; omega) (w1.heap.size + 1) (by simp) ?_; intro gg cap w3 hown3 hgrow hat hlt; have hX3 := (hX1.alloc (.cells #[.int .i64 xk, .int .i64 xi, .int .i64 xj, .int .i64 0, .int .i64 0, .int .i64 0] 75)).grown hgrow (fun e => own_blk_ne hown1 hX1 (by decide) e.symm); have r1 : w3.cell? ⟨wr.heap.size, 1, none⟩ = some (.int .i64 1) := (hX3.cell 1).trans rfl; have rl := hX3.lt; have HROW : Hid (tchs out ++ [.int .i64 xk, .int .i64 xi, .int .i64 xj, .int .i64 0, .int .i64 0, .int .i64 0] = tchs (out ++ [start ⟨th, 1, xk, xi, xj, ol, vl, ys⟩])) := Lib.hid (rows_snoc Tch.cells out (start ⟨th, 1, xk, xi, xj, ol, vl, ys⟩)).symm; have hz3 : w3.cell? ⟨gg, N * 6 + 3, none⟩ = some (.int .i64 0) := (hown3.cellAt (N * 6 + 3) (by omega)).trans (zero_at out _ 3 N HLEN.out rfl); have hf3 := hown3.frozenAt (N * 6 + 3); have hbel3 := (HB1.out.alloc (by omega) (.cells #[.int .i64 xk, .int .i64 xi, .int .i64 xj, .int .i64 0, .int .i64 0, .int .i64 0] 75)).grown hgrow (by simp; omega) (fun j hj => by have := (hown1.lt j hj).1; omega); have HB3 := Lib.hid hbel3; have hmap3 := (hmap1.alloc (.cells #[.int .i64 xk, .int .i64 xi, .int .i64 xj, .int .i64 0, .int .i64 0, .int .i64 0] 75)).kept hgrow (fun e => by have := (hown1.lt _ e.symm).1; omega); have hgg : w.heap.size < gg := (hown3.lt gg rfl).1; clear hgrow hat p1 p2 p3 p4 pl hX1 hbel3)))
          go_roundg (n - (q + 1))
          case measure => have := HG.out; omega
          case rel =>
            refine ⟨q + 1, by go_num, by omega, rfl, _, HOCC.out, ?_, ?_, ?_, ?_⟩
            · have := HLEN.out; rw [touchAll_length]; simp; omega
            · have h1 := (hown3.stored (N * 6 + 3) (.int .i64 (0 + 1))).1
              have h2 := HNEW.out
              rw [touchAll_length, h2, ← HROW.out, List.length_append, HLEN.out]
              exact h1
            · rw [touchAll_keys, List.map_append, List.map_cons, List.map_nil, Dm_snoc]
              have h1 := hmap3.setCell (a := ⟨gg, N * 6 + 3, none⟩) (by show w.heap.size ≠ gg; omega) (.int .i64 (0 + 1))
              rw [List.length_map, HLEN.out]
              exact h1
            · exact HB3.out.setCell (p := ⟨gg, N * 6 + 3, none⟩) (by show w.heap.size ≤ gg; omega) _
        by_cases k2 : kd = 2
        · subst k2
          have HNEW : Hid (tchs (touchAll (out ++ [start ⟨th, 2, xk, xi, xj, ol, vl, ys⟩]) ⟨th, 2, xk, xi, xj, ol, vl, ys⟩) = (tchs (out ++ [start ⟨th, 2, xk, xi, xj, ol, vl, ys⟩])).set (N * 6 + 4) (.int .i64 (0 + 1))) := Lib.hid hrow
          clear hrow
          clear hkn
          go_wp2_with (first | (at_lookup; refine wpList_lookup_own_ok_int _ rfl _ _ 79 rfl 24 3 .i64 addr_law Try.underlying79 Try.underlying3 (zero_int _) w.heap.size q (Dm (out.map Tch.key)) rfl (hmap.alloc _) _ _ rfl HKEY.out ?_; intro c hat hwc; rw [HHAS.out]; clear hat hwc) | (at_mapUpdate; refine wpList_mapUpdate_own _ rfl _ _ _ 79 rfl 24 3 addr_law Try.underlying79 _ w.heap.size q _ rfl (hmap.alloc _) (by unfold maxLen; omega) _ _ _ rfl rfl HKEY.out _ [] (plainElem_int Try.underlying3 (WalkArith.wf_i64 (by omega))) ?_; intro w1 hmap1 hg1; have hX1 : Blk w1 wr.heap.size 44 #[.int .i64 th, .int .i64 2, .int .i64 xk, .int .i64 xi, .int .i64 xj, .int .i64 ol, .int .i64 vl, .bool ys] := (Blk.new wr _ _).grown hg1 (by intro hh; injection hh with hh; omega); have p1 : w1.cell? ⟨wr.heap.size, 1, none⟩ = some (.int .i64 2) := (hX1.cell 1).trans rfl; have p2 : w1.cell? ⟨wr.heap.size, 2, none⟩ = some (.int .i64 xk) := (hX1.cell 2).trans rfl; have p3 : w1.cell? ⟨wr.heap.size, 3, none⟩ = some (.int .i64 xi) := (hX1.cell 3).trans rfl; have p4 : w1.cell? ⟨wr.heap.size, 4, none⟩ = some (.int .i64 xj) := (hX1.cell 4).trans rfl; have pl := hX1.lt; have hown1 := (hown.alloc (.cells #[.int .i64 th, .int .i64 2, .int .i64 xk, .int .i64 xi, .int .i64 xj, .int .i64 ol, .int .i64 vl, .bool ys] 44)).kept hg1 (.inr (fun e => by have := (hown.lt _ e).1; omega)); have hbel1 := (hbel.alloc hbel.size (.cells #[.int .i64 th, .int .i64 2, .int .i64 xk, .int .i64 xi, .int .i64 xj, .int .i64 ol, .int .i64 vl, .bool ys] 44)).grown hg1 (by have := hbel.size; simp; omega) (fun j hj => by injection hj with hj; omega); have hsz1 : w.heap.size + 1 ≤ w1.heap.size := (by omega); have HB1 := Lib.hid hbel1; clear hbel1) | (at_builtin; go_must (refine wpList_append_lies _ rfl _ _ 71 rfl (w.heap.size + 1) 75 i0 _ 6 48 Try.underlying71 hi0 hz0 hz1 hz2 rfl (by omega) (.slice Rv N vc) N (tchs out) (by rfl) (show _ from hown1.alloc _) ⟨w1.heap.size, 0, none⟩ 1 1 [.int .i64 xk, .int .i64 xi, .int .i64 xj, .int .i64 0, .int .i64 0, .int .i64 0] (by rfl) (by rfl) (World.news_of_block (cs := #[.int .i64 xk, .int .i64 xi, .int .i64 xj, .int .i64 0, .int .i64 0, .int .i64 0]) (t := 75) (fr := (0, 0)) (heap_alloc_new w1 _)) (by simp [Value.oneCell']) (by omega) hN1 hN48 (by simp; omega) (w1.heap.size + 1) (by simp) ?_; intro gg cap w3 hown3 hgrow hat hlt; have hX3 := (hX1.alloc (.cells #[.int .i64 xk, .int .i64 xi, .int .i64 xj, .int .i64 0, .int .i64 0, .int .i64 0] 75)).grown hgrow (fun e => own_blk_ne hown1 hX1 (by decide) e.symm); have r1 : w3.cell? ⟨wr.heap.size, 1, none⟩ = some (.int .i64 2) := (hX3.cell 1).trans rfl; have rl := hX3.lt; have HROW : Hid (tchs out ++ [.int .i64 xk, .int .i64 xi, .int .i64 xj, .int .i64 0, .int .i64 0, .int .i64 0] = tchs (out ++ [start ⟨th, 2, xk, xi, xj, ol, vl, ys⟩])) := Lib.hid (rows_snoc Tch.cells out (start ⟨th, 2, xk, xi, xj, ol, vl, ys⟩)).symm; have hz3 : w3.cell? ⟨gg, N * 6 + 4, none⟩ = some (.int .i64 0) := (hown3.cellAt (N * 6 + 4) (by omega)).trans (zero_at out _ 4 N HLEN.out rfl); have hf3 := hown3.frozenAt (N * 6 + 4); have hbel3 := (HB1.out.alloc (by omega) (.cells #[.int .i64 xk, .int .i64 xi, .int .i64 xj, .int .i64 0, .int .i64 0, .int .i64 0] 75)).grown hgrow (by simp; omega) (fun j hj => by have := (hown1.lt j hj).1; omega); have HB3 := Lib.hid hbel3; have hmap3 := (hmap1.alloc (.cells #[.int .i64 xk, .int .i64 xi, .int .i64 xj, .int .i64 0, .int .i64 0, .int .i64 0] 75)).kept hgrow (fun e => by have := (hown1.lt _ e.symm).1; omega); have hgg : w.heap.size < gg := (hown3.lt gg rfl).1; clear hgrow hat p1 p2 p3 p4 pl hX1 hbel3)))
          go_roundg (n - (q + 1))
          case measure => have := HG.out; omega
          case rel =>
            refine ⟨q + 1, by go_num, by omega, rfl, _, HOCC.out, ?_, ?_, ?_, ?_⟩
            · have := HLEN.out; rw [touchAll_length]; simp; omega
            · have h1 := (hown3.stored (N * 6 + 4) (.int .i64 (0 + 1))).1
              have h2 := HNEW.out
              rw [touchAll_length, h2, ← HROW.out, List.length_append, HLEN.out]
              exact h1
            · rw [touchAll_keys, List.map_append, List.map_cons, List.map_nil, Dm_snoc]
              have h1 := hmap3.setCell (a := ⟨gg, N * 6 + 4, none⟩) (by show w.heap.size ≠ gg; omega) (.int .i64 (0 + 1))
              rw [List.length_map, HLEN.out]
              exact h1
            · exact HB3.out.setCell (p := ⟨gg, N * 6 + 4, none⟩) (by show w.heap.size ≤ gg; omega) _
        · have e1 : (kd == 1) = false := by simp [k1]
          have e2 : (kd == 2) = false := by simp [k2]
          simp only [kindAt, kindOf, if_neg k1, if_neg k2] at hrow
          have HNEW : Hid (tchs (touchAll (out ++ [start ⟨th, kd, xk, xi, xj, ol, vl, ys⟩]) ⟨th, kd, xk, xi, xj, ol, vl, ys⟩) = (tchs (out ++ [start ⟨th, kd, xk, xi, xj, ol, vl, ys⟩])).set (N * 6 + 5) (.int .i64 (0 + 1))) := Lib.hid hrow
          clear hrow k1 k2
          clear hkn
          go_wp2_with (first | (at_lookup; refine wpList_lookup_own_ok_int _ rfl _ _ 79 rfl 24 3 .i64 addr_law Try.underlying79 Try.underlying3 (zero_int _) w.heap.size q (Dm (out.map Tch.key)) rfl (hmap.alloc _) _ _ rfl HKEY.out ?_; intro c hat hwc; rw [HHAS.out]; clear hat hwc) | (at_mapUpdate; refine wpList_mapUpdate_own _ rfl _ _ _ 79 rfl 24 3 addr_law Try.underlying79 _ w.heap.size q _ rfl (hmap.alloc _) (by unfold maxLen; omega) _ _ _ rfl rfl HKEY.out _ [] (plainElem_int Try.underlying3 (WalkArith.wf_i64 (by omega))) ?_; intro w1 hmap1 hg1; have hX1 : Blk w1 wr.heap.size 44 #[.int .i64 th, .int .i64 kd, .int .i64 xk, .int .i64 xi, .int .i64 xj, .int .i64 ol, .int .i64 vl, .bool ys] := (Blk.new wr _ _).grown hg1 (by intro hh; injection hh with hh; omega); have p1 : w1.cell? ⟨wr.heap.size, 1, none⟩ = some (.int .i64 kd) := (hX1.cell 1).trans rfl; have p2 : w1.cell? ⟨wr.heap.size, 2, none⟩ = some (.int .i64 xk) := (hX1.cell 2).trans rfl; have p3 : w1.cell? ⟨wr.heap.size, 3, none⟩ = some (.int .i64 xi) := (hX1.cell 3).trans rfl; have p4 : w1.cell? ⟨wr.heap.size, 4, none⟩ = some (.int .i64 xj) := (hX1.cell 4).trans rfl; have pl := hX1.lt; have hown1 := (hown.alloc (.cells #[.int .i64 th, .int .i64 kd, .int .i64 xk, .int .i64 xi, .int .i64 xj, .int .i64 ol, .int .i64 vl, .bool ys] 44)).kept hg1 (.inr (fun e => by have := (hown.lt _ e).1; omega)); have hbel1 := (hbel.alloc hbel.size (.cells #[.int .i64 th, .int .i64 kd, .int .i64 xk, .int .i64 xi, .int .i64 xj, .int .i64 ol, .int .i64 vl, .bool ys] 44)).grown hg1 (by have := hbel.size; simp; omega) (fun j hj => by injection hj with hj; omega); have hsz1 : w.heap.size + 1 ≤ w1.heap.size := (by omega); have HB1 := Lib.hid hbel1; clear hbel1) | (at_builtin; go_must (refine wpList_append_lies _ rfl _ _ 71 rfl (w.heap.size + 1) 75 i0 _ 6 48 Try.underlying71 hi0 hz0 hz1 hz2 rfl (by omega) (.slice Rv N vc) N (tchs out) (by rfl) (show _ from hown1.alloc _) ⟨w1.heap.size, 0, none⟩ 1 1 [.int .i64 xk, .int .i64 xi, .int .i64 xj, .int .i64 0, .int .i64 0, .int .i64 0] (by rfl) (by rfl) (World.news_of_block (cs := #[.int .i64 xk, .int .i64 xi, .int .i64 xj, .int .i64 0, .int .i64 0, .int .i64 0]) (t := 75) (fr := (0, 0)) (heap_alloc_new w1 _)) (by simp [Value.oneCell']) (by omega) hN1 hN48 (by simp; omega) (w1.heap.size + 1) (by simp) ?_; intro gg cap w3 hown3 hgrow hat hlt; have hX3 := (hX1.alloc (.cells #[.int .i64 xk, .int .i64 xi, .int .i64 xj, .int .i64 0, .int .i64 0, .int .i64 0] 75)).grown hgrow (fun e => own_blk_ne hown1 hX1 (by decide) e.symm); have r1 : w3.cell? ⟨wr.heap.size, 1, none⟩ = some (.int .i64 kd) := (hX3.cell 1).trans rfl; have rl := hX3.lt; have HROW : Hid (tchs out ++ [.int .i64 xk, .int .i64 xi, .int .i64 xj, .int .i64 0, .int .i64 0, .int .i64 0] = tchs (out ++ [start ⟨th, kd, xk, xi, xj, ol, vl, ys⟩])) := Lib.hid (rows_snoc Tch.cells out (start ⟨th, kd, xk, xi, xj, ol, vl, ys⟩)).symm; have hz3 : w3.cell? ⟨gg, N * 6 + 5, none⟩ = some (.int .i64 0) := (hown3.cellAt (N * 6 + 5) (by omega)).trans (zero_at out _ 5 N HLEN.out rfl); have hf3 := hown3.frozenAt (N * 6 + 5); have hbel3 := (HB1.out.alloc (by omega) (.cells #[.int .i64 xk, .int .i64 xi, .int .i64 xj, .int .i64 0, .int .i64 0, .int .i64 0] 75)).grown hgrow (by simp; omega) (fun j hj => by have := (hown1.lt j hj).1; omega); have HB3 := Lib.hid hbel3; have hmap3 := (hmap1.alloc (.cells #[.int .i64 xk, .int .i64 xi, .int .i64 xj, .int .i64 0, .int .i64 0, .int .i64 0] 75)).kept hgrow (fun e => by have := (hown1.lt _ e.symm).1; omega); have hgg : w.heap.size < gg := (hown3.lt gg rfl).1; clear hgrow hat p1 p2 p3 p4 pl hX1 hbel3)))
          go_roundg (n - (q + 1))
          case measure => have := HG.out; omega
          case rel =>
            refine ⟨q + 1, by go_num, by omega, rfl, _, HOCC.out, ?_, ?_, ?_, ?_⟩
            · have := HLEN.out; rw [touchAll_length]; simp; omega
            · have h1 := (hown3.stored (N * 6 + 5) (.int .i64 (0 + 1))).1
              have h2 := HNEW.out
              rw [touchAll_length, h2, ← HROW.out, List.length_append, HLEN.out]
              exact h1
            · rw [touchAll_keys, List.map_append, List.map_cons, List.map_nil, Dm_snoc]
              have h1 := hmap3.setCell (a := ⟨gg, N * 6 + 5, none⟩) (by show w.heap.size ≠ gg; omega) (.int .i64 (0 + 1))
              rw [List.length_map, HLEN.out]
              exact h1
            · exact HB3.out.setCell (p := ⟨gg, N * 6 + 5, none⟩) (by show w.heap.size ≤ gg; omega) _
    · obtain rfl : q = n := by omega
      have hfull : out = L.foldl occ [] := by rw [HOUT.out, HN.out, List.take_length]
      have HF := Lib.hid hfull
      have hN2 : out.length ≤ 4611686018427387903 := by omega
      have hti : decide ((q : Int) < (q : Int)) = false := by simp
      clear hfull
      go_wp2_with fail
      refine (sort_own (w.heap.size + 1) out.length _ out wr rfl hN2 hown).mono ?_
      rintro e w2 ⟨rfl, l', hp, hs, hown2, hg2⟩
      have hl' : l' = L.foldl ins [] := sorted_ins L l' (by rw [← HF.out]; exact hp) hs
      have hlen := hp.length_eq
      have hfin : TchPost L w (.returned _) w2 := ⟨_, rfl, by rw [← hl', hlen]; exact own_base hown2 (Nat.le_succ _), hbel.grown hg2 hbel.size (fun j hj => by have := (hown.lt j hj).1; omega)⟩
      have HFIN := Lib.hid hfin
      clear hp hs hown2 hg2 hl' hlen hfin
      go_wp2_with fail
      go_ret
      exact HFIN.out
end Go.Proofs.Ytnpeldbnnneijaa
