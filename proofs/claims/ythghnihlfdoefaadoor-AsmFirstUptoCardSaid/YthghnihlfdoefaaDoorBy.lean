/- carouselref14: labels. -/
import Derived.Test.YthghnihlfdoefaaDoorBx
namespace Go.Proofs.YthghnihlfdoefaaDoor
open Go.RowKit Go.Joins Go.ChangeShapes Go.WideShapes Go.Deep
set_option linter.unusedVariables false
set_option linter.unusedSimpArgs false
set_option maxRecDepth 100000

set_option maxHeartbeats 4000000 in
theorem labels_any {B : Nat} {w : World} {ab : Nat} {ov av nv lv : Value} {r : RSt} (hR : RaIs B w ab ov av nv lv r) (hB : B ≤ w.heap.size) (l : List Tok) (A : Option Addr) (n c : Nat)
    (hT : Reads w B 2 A n (rows tkc l)) (hc : n ≤ c) (hA : ∀ ad, A = some ad → ad.block ≠ ab) (hu : ∀ t ∈ l, t.s ≠ [] ∧ t.s.length ≤ 4294967296) (hn : n ≤ 4294967296) (hlab : r.labels.length ≤ 4294967295) :
    Calls Tryd.prog 53 #[.pointer (some ⟨ab, 0, none⟩), .slice A n c] w (LblPost B w ab (labL r l)) := by
  have hl := hT.1
  rw [rows_length tkc 2 tkc_len] at hl
  cases l with
  | nil =>
    have hn0 : n = 0 := by simp at hl; omega
    subst hn0
    have HR := Lib.hid hR
    have HT := Lib.hid hT
    clear hl hT hR
    go_enter Tryd.func53, Tryd.ntmps53
    go_upto_region 1 with fail
    go_quiet (fail)
    go_wp2_with fail
    go_ret3
    exact ⟨A, 0, c, ov, av, nv, lv, rfl, hc, HR.out.keep (below_drewN (Below.refl _ _) _), HT.out.drewN _, hA, Frm.of_below (below_drewN (Below.refl _ _) _)⟩
  | cons u rest =>
    have hnl : n = rest.length + 1 := by rw [List.length_cons] at hl; omega
    have z1 : ((n : Int) == 0) = false := by simp; omega
    have hn1 : 0 < n := by omega
    obtain ⟨bt, off, rfl, hbt, hcell⟩ := reads_flat hT (by omega) (by omega)
    obtain ⟨s, hs⟩ : ∃ s : ByteArray, s = ⟨u.s.toArray⟩ := ⟨_, rfl⟩
    have c0 : w.cell? ⟨bt, off, none⟩ = some (.string s) := hs ▸ hcell 0 _ rfl
    have c1 : w.cell? ⟨bt, off + 1, none⟩ = some (.int .i64 u.pos) := hcell 1 _ rfl
    have hsl : s.data.toList = u.s := by rw [hs]
    have hu1 := hu u (List.mem_cons_self ..)
    have hsz : s.size = u.s.length := by
      have e1 : s.size = s.data.toList.length := Array.length_toList.symm
      rw [e1, hsl]
    have hpos : 0 < s.size := by rw [hsz]; exact List.length_pos_iff.2 hu1.1
    have hss : s.size ≤ 4294967296 := by rw [hsz]; exact hu1.2
    obtain ⟨x, hx, hidx⟩ := last_idx s hpos
    rw [hsl] at hx
    have hbw : bt < w.heap.size := by omega
    have hba : bt ≠ ab := hA _ rfl
    obtain ⟨A1, hsl1, hT1, hc1, hA1⟩ := rtok_tail hT hc
    have HT := Lib.hid hT
    have HT1 := Lib.hid hT1
    have HA1 : Hid (∀ ad, A1 = some ad → ad.block ≠ ab) := Lib.hid (fun ad h => by
      obtain ⟨ad0, h1, h2⟩ := hA1 ad h
      rw [h2]
      exact hA ad0 h1)
    have HSZ := Lib.hid hsz
    have HNL := Lib.hid hnl
    have HR := Lib.hid hR
    have HSL := Lib.hid hsl
    clear hcell hs hl hA1 hT hT1 hsz hnl hsl
    by_cases hcol : x = 58
    · have q1 : ((x.toNat : Int) != 58) = false := by rw [hcol]; rfl
      have hlast : (u.s.getLast? == some 58) = true := by rw [hx, hcol]; rfl
      obtain ⟨q, hq⟩ : ∃ q, q = s.extract 0 (s.size - 1) := ⟨_, rfl⟩
      have hql : q.data.toList = u.s.dropLast := by
        rw [hq, Go.Lib.extract_data, List.drop_zero, List.dropLast_eq_take, ← HSL.out, Array.length_toList]
        rfl
      have hqs : q.size ≤ 4294967296 := by
        have e1 : q.size = q.data.toList.length := Array.length_toList.symm
        rw [e1, hql, List.length_dropLast]
        have := hu1.2
        omega
      have hsl2 : ∀ W, (Instr.slice 9 (.string s) none (some (.int .i64 ((s.size : Int) - 1))) none).run Tryd.prog W = .ok (.string q) W := fun W => by
        rw [run_slice_string_h (P := Tryd.prog) W 9 s Tryd.underlying9 .i64 _ (by omega) (by omega), hq]
        have : ((s.size : Int) - 1).toNat = s.size - 1 := by omega
        rw [this]
      have HNM := Lib.hid (fun W => name_any q (by omega) W)
      rw [hql] at HNM
      obtain ⟨nm, hnm⟩ : ∃ nm, nm = u.s.dropLast := ⟨_, rfl⟩
      rw [← hnm] at HNM hql
      have HLL : Hid (labL r (u :: rest) = if nameF nm = false then .error (9, u.pos) else if (labF2 r.labels nm).isSome then .error (11, u.pos) else .ok (rest, ⟨r.labels ++ [(nm, r.size)], r.ins⟩)) := Lib.hid (by
        rw [hnm]; unfold labL; simp only [hlast, if_true])
      have HQL := Lib.hid hql
      have hql2 := hql
      clear hq hql hnm hlast hcol hx hu1
      cases hname : nameF nm with
      | false =>
        rw [hname] at HNM
        have HL : Hid (labL r (u :: rest) = .error (9, u.pos)) := Lib.hid (by rw [HLL.out, if_pos hname])
        clear hname
        go_enter Tryd.func53, Tryd.ntmps53
        go_upto_region 1 with fail
        go_quiet (fail)
        go_upto_region 3 with fail
        go_quiet (fail)
        go_upto_region 6 with (go_at_call 72; refine (HNM.out _).mono ?_; rintro e w1 ⟨rfl, hw⟩; obtain rfl := hw.symm)
        go_quiet (fail)
        go_wp2_with fail
        go_ret3
        rw [HL.out]
        exact ⟨rfl, Frm.of_below (by first | exact below_drewN (Below.refl _ _) _ | exact below_drewN (below_drewN (Below.refl _ _) _) _)⟩
      | true =>
        rw [hname] at HNM
        obtain ⟨Rl, cl, rfl, hcl, hRl⟩ := own_shapes HR.out.raw.lbs
        have hll : (r.labels.map labTok).length = r.labels.length := List.length_map ..
        have HLC0 := Lib.hid (fun k : Nat => rlabel_any (w := w.drewN k) (HR.out.raw.blk.drewN k) (hRl.drewN k) (by omega) q)
        rw [hql2] at HLC0
        cases hlb : labF2 r.labels nm with
        | some k =>
          rw [hlb] at HLC0
          have HLC : Hid (∀ j : Nat, Calls Tryd.prog 36 #[.pointer (some ⟨ab, 0, none⟩), .string q] (w.drewN j) fun e w' => e = .returned (.int .i64 (k : Int)) ∧ w' = w.drewN j) := Lib.hid HLC0.out
          have HL : Hid (labL r (u :: rest) = .error (11, u.pos)) := Lib.hid (by rw [HLL.out, if_neg (by rw [hname]; exact Bool.noConfusion), hlb]; rfl)
          have k1 : decide ((0 : Int) ≤ (k : Int)) = true := decide_eq_true (by omega)
          have k2 : decide ((k : Int) ≥ 0) = true := decide_eq_true (by omega)
          clear hname hlb hRl HLC0 hll
          go_enter Tryd.func53, Tryd.ntmps53
          go_upto_region 1 with fail
          go_quiet (fail)
          go_upto_region 3 with fail
          go_quiet (fail)
          go_upto_region 8 with (first | (go_at_call 72; refine (HNM.out _).mono ?_; rintro e w1 ⟨rfl, hw⟩; obtain rfl := hw.symm) | (go_at_call 36; refine (HLC.out _).mono ?_; rintro e w1 ⟨rfl, hw⟩; obtain rfl := hw.symm))
          go_quiet (fail)
          go_wp2_with fail
          go_ret3
          rw [HL.out]
          exact ⟨rfl, Frm.of_below (by first | exact below_drewN (Below.refl _ _) _ | exact below_drewN (below_drewN (Below.refl _ _) _) _)⟩
        | none =>
          rw [hlb] at HLC0
          have HLC : Hid (∀ j : Nat, Calls Tryd.prog 36 #[.pointer (some ⟨ab, 0, none⟩), .string q] (w.drewN j) fun e w' => e = .returned (.int .i64 (-1)) ∧ w' = w.drewN j) := Lib.hid HLC0.out
          have HL : Hid (labL r (u :: rest) = .ok (rest, ⟨r.labels ++ [(nm, r.size)], r.ins⟩)) := Lib.hid (by rw [HLL.out, if_neg (by rw [hname]; exact Bool.noConfusion), hlb]; rfl)
          clear hname hlb hRl HLC0 hll
          go_enter Tryd.func53, Tryd.ntmps53
          go_upto_region 1 with fail
          go_quiet (fail)
          go_upto_region 3 with fail
          go_quiet (fail)
          go_upto_region 9 with (first | (go_at_call 72; refine (HNM.out _).mono ?_; rintro e w1 ⟨rfl, hw⟩; obtain rfl := hw.symm) | (go_at_call 36; refine (HLC.out _).mono ?_; rintro e w1 ⟨rfl, hw⟩; obtain rfl := hw.symm))
          generalize hwq : World.drewN w _ = wq
          have hBq : Below w.heap.size w wq := hwq ▸ below_drewN (Below.refl _ _) _
          have hRq := HR.out.raw.keep hBq
          have hzq : wq.heap.size = w.heap.size := by rw [← hwq]; rfl
          have hBB : B ≤ wq.heap.size := by omega
          obtain ⟨m, hm⟩ : ∃ m, m = (r.labels.map labTok).length := ⟨_, rfl⟩
          have hm5 : m ≤ 4294967295 := by rw [hm, List.length_map]; exact hlab
          rw [← hm] at hRq
          have hown := hRq.lbs
          rw [← hm] at hown
          have hnb := own_ne_blk hown hRq.blk (by decide)
          have r4 : wq.cell? ⟨ab, 4, none⟩ = some (.slice Rl m cl) := (hRq.blk.cell 4).trans rfl
          have r3 : wq.cell? ⟨ab, 3, none⟩ = some (.int .i64 (r.size : Int)) := (hRq.blk.cell 3).trans rfl
          have hal := hRq.blk.lt
          have hblk := hRq.blk
          have HRQ := Lib.hid hRq
          have HBQ := Lib.hid hBq
          have HM := Lib.hid hm
          have hc63 : m + 1 ≤ maxLen := by unfold maxLen; omega
          have hcby : (m + 1) * 24 ≤ 140737488355328 := by omega
          have h1c : ∀ v ∈ [Value.string q, .int .i64 (r.size : Int)], v.oneCell' = true := by intro v hv; simp at hv; rcases hv with rfl | rfl <;> rfl
          obtain ⟨i0, hi, hz0, hz1, hz2⟩ := info_parts info_rtok
          have HWQ := Lib.hid hwq
          clear c0 c1 hRq hBq hm hwq hzq hlab hR
          go_region_law
            (refine step_append_lies _ (by rfl) _ _ _ (by rfl) B 87 i0 _ 2 24 Tryd.underlying77 hi hz0 hz1 hz2 rfl (by omega) (.slice Rl m cl) m (rows tkc (r.labels.map labTok)) (by rfl) (show _ from hown.alloc _)
                ⟨wq.heap.size, 0, none⟩ 1 1 [.string q, .int .i64 (r.size : Int)] (by rfl) (by rfl) (World.news_of_block (cs := #[.string q, .int .i64 (r.size : Int)]) (t := 87) (fr := (0, 0)) (heap_alloc_new wq _)) h1c
                (by omega) hc63 hcby (by simp; omega) (wq.heap.size + 1) (by simp) ?_; intro gg cap w3 hown3 hgrow hat hlt3; have hR3 : Blk w3 ab 79 #[ov, av, nv, .int .i64 (r.size : Int), .slice Rl m cl] := (hgrow.block ab (by simp; omega) (fun hh => hnb hh.symm)).trans ((Below.heap_alloc wq _ ab hal).trans hblk); have m4 : w3.cell? ⟨ab, 4, none⟩ = some (.slice Rl m cl) := (hR3.cell 4).trans rfl; have f4 : w3.frozen? ⟨ab, 4, none⟩ = false := hR3.frozen 4; have hrl3 : ab < w3.heap.size := hR3.lt)
          all_goals (have hq3 : q = ⟨nm.toArray⟩ := bytes_inj (by rw [HQL.out]))
          all_goals (have hfin := HRQ.out.put_lbs hBB (by first | exact ((Below.refl _ _).alloc (Nat.le_refl _) _).drew | exact ((Below.refl _ _).drew.alloc (Nat.le_refl _) _) | exact ((Below.refl _ _).alloc (Nat.le_refl _) _)) hgrow (hat.imp id fun h => by omega) (congrArg (· + 1) HM.out) (t := ⟨nm, r.size⟩) (by have h := hown3; rw [hq3] at h; exact h))
          all_goals (have HFIN := Lib.hid hfin)
          all_goals clear hfin hown3 hgrow hat hq3 m4 f4 r4 r3
          all_goals go_wp2_with (refine wpList_slice_g rfl 77 (.tmp 69) (some (.const (.int .i64 1))) none rfl rfl rfl rfl (hsl1 _) ?_)
          all_goals go_ret3
          all_goals (rw [HL.out])
          all_goals (refine ⟨A1, rest.length, c - 1, ov, av, nv, .slice (some ⟨gg, 0, none⟩) (m + 1) cap, rfl, hc1, ⟨?_, HR.out.size, HR.out.len⟩, reads_frm HT1.out HA1.out ((Frm.of_below HBQ.out).trans HFIN.out.2 fun _ h => .inl h) hB, HA1.out, (Frm.of_below HBQ.out).trans HFIN.out.2 fun _ h => .inl h⟩)
          all_goals (have h1 := HFIN.out.1)
          all_goals (rw [List.map_append])
          all_goals exact h1
    · have q1 : ((x.toNat : Int) != 58) = true := by
        rw [bne_iff_ne]
        intro e
        exact hcol (UInt8.toNat_inj.1 (by show _ = 58; omega))
      have hlast : (u.s.getLast? == some 58) = false := by
        rw [hx, beq_eq_false_iff_ne]
        exact fun e => hcol (by injection e)
      have HL : Hid (labL r (u :: rest) = .ok (u :: rest, r)) := Lib.hid (by unfold labL; simp only [hlast]; rfl)
      clear hcol hlast hx hu1
      go_enter Tryd.func53, Tryd.ntmps53
      go_upto_region 1 with fail
      go_quiet (fail)
      go_wp2_with fail
      go_ret3
      rw [HL.out]
      exact ⟨_, n, c, ov, av, nv, lv, rfl, hc, HR.out.keep (below_drewN (Below.refl _ _) _), HT.out.drewN _, hA, Frm.of_below (below_drewN (Below.refl _ _) _)⟩
end Go.Proofs.YthghnihlfdoefaaDoor
