/- The law of HistoryTxs, behind shown. -/
import Derived.Test.YtffjcojehiblnaaDoorHy2
import Derived.Test.YtffjcojehiblnaaDoorHyb
import Derived.Laws.MakeOwn
import Derived.Laws.CopyRow
namespace Go.Proofs.YtffjcojehiblnaaDoor
open Go.RowKit Go.Joins Go.ChangeShapes Go.WideShapes Go.Deep
set_option linter.unusedVariables false
set_option linter.unusedSimpArgs false
set_option maxRecDepth 100000

set_option maxHeartbeats 400000 in
theorem law_txs (A : Option Addr) (n nc : Nat) (l : List Ev) (p : Addr) (w : World) (hl : l.length = n) (hn : n * 152 ≤ 140737488351232) (hR : Reads w w.heap.size 19 A n (evs l)) (hE : LaidAt w p) (hsh : ∀ W, LaidAt W p → Calls Tryd.prog 5 #[] W (SaysTrue W)) :
    Calls Tryd.prog 3 #[.slice A n nc] w (SaysTrue w) := by
  have hn8 : n ≤ 925904528640 := by omega
  have HR := Lib.hid hR
  have HE := Lib.hid hE
  have HL := Lib.hid hl
  have HN := Lib.hid hn
  have HSH := Lib.hid (hsh w hE)
  have hw2 := hE.lt
  obtain ⟨i0, hi0, hz0, hz1, hz2⟩ := info_parts info_ev
  have HMK : Hid (∀ W : World, (Instr.makeSlice 22 (.int .i64 (n : Int)) (.int .i64 (n : Int))).run Tryd.prog W = .ok (.slice (some ⟨W.heap.size, 0, none⟩) n n) (W.alloc (.cells (madeCells zev (n * 19)) 35))) := Lib.hid fun W => by
    have := run_make (P := Tryd.prog) W 22 35 i0 _ Tryd.underlying22 hi0 hz0 .i64 .i64 n n (by omega) (Int.le_refl _) (by rw [hz2]; omega) (by omega)
    rw [hz1, Int.toNat_natCast] at this
    exact this
  clear hR hE hl hn hsh hi0 hz0 hz1 hz2
  clear i0
  go_enter Tryd.func3, Tryd.ntmps3
  go_wp2_with (first
    | (go_at_call 5; refine HSH.out.mono ?_; rintro r w1 ⟨hr, hb1⟩; subst hr)
    | (refine wpList_make_wide rfl 22 (.tmp 15) (.tmp 15) rfl rfl rfl (HMK.out _) ?_)
    | (refine wpList_copy_wide rfl (.tmp 17) (.tmp 18) 22 22 rfl rfl rfl (fun ty => run_copy_wide _ _ _ ty 35 19 w1.heap.size n A n nc _ _ (evs l) Tryd.underlying22 (by kernel_rfl) (Blk.new w1 _ _) (by rw [evs_length, HL.out]) (size_madeCells _ _) (fun h0 => ⟨_, ((HR.out.below hb1).2 h0).choose_spec.1, fun j v hv => ((World.cell?_alloc_lt w1 _ _ (Nat.lt_of_lt_of_le (by rw [block_of_add]; exact ((HR.out.below hb1).2 h0).choose_spec.2.1) hb1.size)).trans (((HR.out.below hb1).2 h0).choose_spec.2.2 j v hv))⟩) (evs_one l)) ?_))
  have hW2 : Below w.heap.size w ((w1.alloc (.cells (madeCells zev (n * 19)) 35)).setRow w1.heap.size (evs l).toArray) := below_row (Below.alloc hb1 hb1.size _) hb1.size _
  have hB2 : Blk ((w1.alloc (.cells (madeCells zev (n * 19)) 35)).setRow w1.heap.size (evs l).toArray) w1.heap.size 35 (evs l).toArray := setRow_blk (Blk.new w1 _ _)
  have hgw : w.heap.size ≤ w1.heap.size := hb1.size
  have HW1 := Lib.hid hb1
  clear hb1
  generalize w1.heap.size = g at *
  generalize (w1.alloc (.cells (madeCells zev (n * 19)) 35)).setRow g (evs l).toArray = W2 at *
  have hWs : w.heap.size ≤ W2.heap.size := hW2.size
  have HE2 := Lib.hid (HE.out.below hW2 (by omega))
  have HR2 := Lib.hid (HR.out.below hW2)
  rcases may_split l with hm | ⟨q, hq, hm, hb⟩
  · obtain ⟨b, hrd, I, hln, hz⟩ := read_good l hm
    have hbl := (read_small0 hrd).1.l
    have HTX := Lib.hid (txs_good (some ⟨g, 0, none⟩) n n l p b W2 HL.out HN.out (reads_blk hB2 HL.out) HE2.out hrd (by rw [← HL.out]; exact hbl))
    have HRT : Hid (∀ W, Below W2.heap.size W2 W → Calls Tryd.prog 7 #[.slice A n nc] W (fun r w' => ∃ ov, r = .returned (.tuple #[ov, .int .i64 0, .int .i64 0]) ∧ w'.ownsRow W.heap.size 42 6 ov b.l.length (txzs (b.l.map TxP.z)) ∧ Below W.heap.size W w')) := Lib.hid fun W hW => rtxs_good A n nc l b W HL.out HN.out ((HR2.out.below (hW.mono hWs)).more (Nat.le_trans hWs hW.size)) hm hrd I hln hz
    have hbl8 : b.l.length ≤ 925904528640 := by have := HL.out; omega
    clear hm hrd I hln hz
    go_wp2_with (first
      | (go_at_call 6; refine HTX.out.mono ?_; rintro r w3 ⟨ov, hr, hown3, hb3⟩; subst hr)
      | (go_at_call 7; refine (HRT.out _ hb3).mono ?_; rintro r w4 ⟨ov4, hr, hown4, hb4⟩; subst hr; obtain ⟨R3, c3, hv3, _, hR3⟩ := own_shapes hown3; obtain ⟨R4, c4, hv4, _, hR4⟩ := own_shapes hown4; subst hv3; subst hv4)
      | (go_at_call 8; refine (txs_same R3 R4 b.l.length c3 c4 (b.l.map TxP.z) _ (by rw [List.length_map]) hbl8 ((hR3.below hb4).more hb4.size) hR4).mono ?_; rintro r W5 ⟨hr, hb5'⟩; subst hr))
    have hb25 : Below W2.heap.size W2 W5 := (hb3.trans (hb4.mono hb3.size)).trans (hb5'.mono (Nat.le_trans hb3.size hb4.size))
    have hb5 : Below w.heap.size w W5 := hW2.trans (hb25.mono hWs)
    have hblk : Blk W5 g 35 (evs l).toArray := (hb25.block g hB2.lt).trans hB2
    clear hb3 hb4 hb5' hb25 hown3 hown4 hR3 hR4
    have HB5 := Lib.hid hb5
    have HBK := Lib.hid hblk
    clear hb5 hblk
    go_loopg [12] n (fun gk i wr => ∃ k : Nat, i = .int .i64 k ∧ k ≤ n ∧ gk = n - k ∧ Below W5.heap.size W5 wr)
    case atStart => exact ⟨0, rfl, Nat.zero_le _, rfl, Below.refl _ _⟩
    case round =>
      obtain ⟨k, rfl, hk, hgk, hbel⟩ := hrel
      have HG := Lib.hid hgk
      have HB := Lib.hid hbel
      clear hgk hbel
      by_cases hkn : k < n
      · have hkl : k < l.length := by rw [HL.out]; exact hkn
        obtain ⟨ab, ao, rfl, hab, hca⟩ := reads_flat HR.out (by omega) (by decide)
        obtain ⟨e, he⟩ : ∃ e, e = l[k] := ⟨_, rfl⟩
        have hrb : wr.rangeAt g (0 + k * 19) (evcs e).toList := by
          have hR5 := reads_blk HBK.out HL.out
          obtain ⟨ad, hA, hlt, hc⟩ := hR5.2 (by omega)
          injection hA with hA
          subst hA
          rw [he]
          exact evs_range (fun j u hu => (HB.out.cell (p := ⟨g, 0 + j, none⟩) HBK.out.lt).trans (by have := hc j u hu; rwa [Addr.add_mid] at this)) hkl
        have hra : wr.rangeAt ab (ao + k * 19) (evcs e).toList := by
          rw [he]
          exact evs_range (fun j u hu => (((HB5.out.trans (HB.out.mono HB5.out.size)).cell (p := ⟨ab, ao + j, none⟩) hab)).trans (hca j u hu)) hkl
        have hk8 : (k : Int) + 1 ≤ 9223372036854775807 := by omega
        have hig : ∀ W : World, (Instr.indexAt 22 (.slice (some ⟨g, 0, none⟩) n n) (.int .i64 k)).run Tryd.prog W = .ok (.pointer (some ⟨g, 0 + k * 19, none⟩)) W := fun W => by go_simp
        have hia : ∀ W : World, (Instr.indexAt 22 (.slice (some ⟨ab, ao, none⟩) n nc) (.int .i64 k)).run Tryd.prog W = .ok (.pointer (some ⟨ab, ao + k * 19, none⟩)) W := fun W => by go_simp
        clear hca he hkl
        go_upto_region 10 with fail
        refine wp_abs fun a ha => ?_
        have f0 : a.eval (.tmp 4) = .slice (some ⟨g, 0, none⟩) n n := by rw [ha]; rfl
        have f1 : a.eval (.tmp 0) = .slice (some ⟨ab, ao, none⟩) n nc := by rw [ha]; rfl
        have f2 : a.eval (.tmp 12) = .int .i64 k := by rw [ha]; rfl
        have hsz : 64 ≤ a.tmps.size := by rw [ha]; exact Nat.le_of_ble_eq_true rfl
        refine wp_region_held_drew (S := TwoE g ab (0 + k * 19) (ao + k * 19) e) (by kernel_rfl) ⟨hrb, hra⟩ (fun hS => ?_)
        refine take_at 0 41 (v := .slice (some ⟨g, 0, none⟩) n n) rfl rfl (by kernel_rfl) (by kernel_rfl) (by kernel_rfl) (fun _ _ _ h => h) (yi_move rfl (.tmp 4) rfl (by (simp (discharger := (first | decide | omega | (simp only [Act.size_put]; omega))) only [Act.eval_put_same, Act.eval_put_ne, eval_const, f0, f1, f2]); all_goals rfl)) hS ?_
        refine take_at 1 42 (v := .int .i64 k) rfl rfl (by kernel_rfl) (by kernel_rfl) (by kernel_rfl) (fun _ _ _ h => h) (yi_move rfl (.tmp 12) rfl (by (simp (discharger := (first | decide | omega | (simp only [Act.size_put]; omega))) only [Act.eval_put_same, Act.eval_put_ne, eval_const, f0, f1, f2]); all_goals rfl)) hS ?_
        refine take_at 2 43 (v := .pointer (some ⟨g, 0 + k * 19, none⟩)) rfl rfl (by kernel_rfl) (by kernel_rfl) (by kernel_rfl) (fun _ _ _ h => h) (yi_index rfl 22 (.tmp 41) (.tmp 42) rfl (by (simp (discharger := (first | decide | omega | (simp only [Act.size_put]; omega))) only [Act.eval_put_same, Act.eval_put_ne, eval_const, f0, f1, f2]); all_goals rfl) (by (simp (discharger := (first | decide | omega | (simp only [Act.size_put]; omega))) only [Act.eval_put_same, Act.eval_put_ne, eval_const, f0, f1, f2]); all_goals rfl) hig) hS ?_
        refine take_at 3 44 (v := .agg (evcs e)) rfl rfl (by kernel_rfl) (by kernel_rfl) (by kernel_rfl) (fun _ _ _ h => h) (yi_load1 rfl 35 (.tmp 43) rfl (by (simp (discharger := (first | decide | omega | (simp only [Act.size_put]; omega))) only [Act.eval_put_same, Act.eval_put_ne, eval_const, f0, f1, f2]); all_goals rfl) (fun w' h => ev_load_at h.x)) hS ?_
        refine take_at 4 45 (v := .slice (some ⟨ab, ao, none⟩) n nc) rfl rfl (by kernel_rfl) (by kernel_rfl) (by kernel_rfl) (fun _ _ _ h => h) (yi_move rfl (.tmp 0) rfl (by (simp (discharger := (first | decide | omega | (simp only [Act.size_put]; omega))) only [Act.eval_put_same, Act.eval_put_ne, eval_const, f0, f1, f2]); all_goals rfl)) hS ?_
        refine take_at 5 46 (v := .int .i64 k) rfl rfl (by kernel_rfl) (by kernel_rfl) (by kernel_rfl) (fun _ _ _ h => h) (yi_move rfl (.tmp 12) rfl (by (simp (discharger := (first | decide | omega | (simp only [Act.size_put]; omega))) only [Act.eval_put_same, Act.eval_put_ne, eval_const, f0, f1, f2]); all_goals rfl)) hS ?_
        refine take_at 6 47 (v := .pointer (some ⟨ab, ao + k * 19, none⟩)) rfl rfl (by kernel_rfl) (by kernel_rfl) (by kernel_rfl) (fun _ _ _ h => h) (yi_index rfl 22 (.tmp 45) (.tmp 46) rfl (by (simp (discharger := (first | decide | omega | (simp only [Act.size_put]; omega))) only [Act.eval_put_same, Act.eval_put_ne, eval_const, f0, f1, f2]); all_goals rfl) (by (simp (discharger := (first | decide | omega | (simp only [Act.size_put]; omega))) only [Act.eval_put_same, Act.eval_put_ne, eval_const, f0, f1, f2]); all_goals rfl) hia) hS ?_
        refine take_at 7 48 (v := .agg (evcs e)) rfl rfl (by kernel_rfl) (by kernel_rfl) (by kernel_rfl) (fun _ _ _ h => h) (yi_load1 rfl 35 (.tmp 47) rfl (by (simp (discharger := (first | decide | omega | (simp only [Act.size_put]; omega))) only [Act.eval_put_same, Act.eval_put_ne, eval_const, f0, f1, f2]); all_goals rfl) (fun w' h => ev_load_at h.y)) hS ?_
        refine take_at 8 49 (v := .bool false) rfl rfl (by kernel_rfl) (by kernel_rfl) (by kernel_rfl) (fun _ _ _ h => h) (yi_neq rfl (.tmp 44) (.tmp 48) rfl (by (simp (discharger := (first | decide | omega | (simp only [Act.size_put]; omega))) only [Act.eval_put_same, Act.eval_put_ne, eval_const, f0, f1, f2]); all_goals rfl) (by (simp (discharger := (first | decide | omega | (simp only [Act.size_put]; omega))) only [Act.eval_put_same, Act.eval_put_ne, eval_const, f0, f1, f2]); all_goals rfl) (fun w' => run_eqGuard_agg w' _ _ _ _ _ _ (by kernel_rfl)) (ev_neq e)) hS ?_
        refine wpAnyH_done (by kernel_rfl) ?_ _
        clear hS f0 f1 f2 hsz hig hia
        subst ha
        simp only [Act.put, List.setIfInBounds_toArray, List.set_cons_zero, List.set_cons_succ]
        go_wp2_with fail
        go_roundg (n - (k + 1))
        case measure => have := HG.out; omega
        case rel => exact ⟨k + 1, by go_num, by omega, rfl, Below.drew HB.out⟩
      · have hkk : n = k := by omega
        subst hkk
        go_wp2_with fail
        go_ret
        exact ⟨rfl, HB5.out.trans (HB.out.mono HB5.out.size)⟩
  · have hqn : q < n := by rw [← HL.out]; exact hq
    have hrd := read_bad l q hq hm hb
    have HTX := Lib.hid (txs_bad (some ⟨g, 0, none⟩) n n l p q W2 HL.out HN.out (reads_blk hB2 HL.out) HE2.out hrd)
    have HRT : Hid (∀ W, Below W2.heap.size W2 W → Calls Tryd.prog 7 #[.slice A n nc] W (fun r w' => r = .returned (.tuple #[.slice none 0 0, .int .i64 14, .int .i64 q]) ∧ Below W.heap.size W w')) := Lib.hid fun W hW => rtxs_bad A n nc l q W HL.out HN.out ((HR2.out.below (hW.mono hWs)).more (Nat.le_trans hWs hW.size)) hqn hm (fun e he => by
      rw [List.getElem?_eq_getElem hq] at he
      injection he with he
      exact he ▸ hb)
    clear hm hb hrd hq
    go_wp2_with (first
      | (go_at_call 6; refine HTX.out.mono ?_; rintro r w3 ⟨hr, hb3⟩; subst hr)
      | (go_at_call 7; refine (HRT.out _ hb3).mono ?_; rintro r w4 ⟨hr, hb4⟩; subst hr)
      | (go_at_call 8; refine (txs_same none none 0 0 0 [] _ rfl (by omega) (Reads.none_) (Reads.none_)).mono ?_; rintro r W5 ⟨hr, hb5'⟩; subst hr))
    have hb25 : Below W2.heap.size W2 W5 := (hb3.trans (hb4.mono hb3.size)).trans (hb5'.mono (Nat.le_trans hb3.size hb4.size))
    have hb5 : Below w.heap.size w W5 := hW2.trans (hb25.mono hWs)
    have hblk : Blk W5 g 35 (evs l).toArray := (hb25.block g hB2.lt).trans hB2
    clear hb3 hb4 hb5' hb25
    have HB5 := Lib.hid hb5
    have HBK := Lib.hid hblk
    clear hb5 hblk
    go_loopg [12] n (fun gk i wr => ∃ k : Nat, i = .int .i64 k ∧ k ≤ n ∧ gk = n - k ∧ Below W5.heap.size W5 wr)
    case atStart => exact ⟨0, rfl, Nat.zero_le _, rfl, Below.refl _ _⟩
    case round =>
      obtain ⟨k, rfl, hk, hgk, hbel⟩ := hrel
      have HG := Lib.hid hgk
      have HB := Lib.hid hbel
      clear hgk hbel
      by_cases hkn : k < n
      · have hkl : k < l.length := by rw [HL.out]; exact hkn
        obtain ⟨ab, ao, rfl, hab, hca⟩ := reads_flat HR.out (by omega) (by decide)
        obtain ⟨e, he⟩ : ∃ e, e = l[k] := ⟨_, rfl⟩
        have hrb : wr.rangeAt g (0 + k * 19) (evcs e).toList := by
          have hR5 := reads_blk HBK.out HL.out
          obtain ⟨ad, hA, hlt, hc⟩ := hR5.2 (by omega)
          injection hA with hA
          subst hA
          rw [he]
          exact evs_range (fun j u hu => (HB.out.cell (p := ⟨g, 0 + j, none⟩) HBK.out.lt).trans (by have := hc j u hu; rwa [Addr.add_mid] at this)) hkl
        have hra : wr.rangeAt ab (ao + k * 19) (evcs e).toList := by
          rw [he]
          exact evs_range (fun j u hu => (((HB5.out.trans (HB.out.mono HB5.out.size)).cell (p := ⟨ab, ao + j, none⟩) hab)).trans (hca j u hu)) hkl
        have hk8 : (k : Int) + 1 ≤ 9223372036854775807 := by omega
        have hig : ∀ W : World, (Instr.indexAt 22 (.slice (some ⟨g, 0, none⟩) n n) (.int .i64 k)).run Tryd.prog W = .ok (.pointer (some ⟨g, 0 + k * 19, none⟩)) W := fun W => by go_simp
        have hia : ∀ W : World, (Instr.indexAt 22 (.slice (some ⟨ab, ao, none⟩) n nc) (.int .i64 k)).run Tryd.prog W = .ok (.pointer (some ⟨ab, ao + k * 19, none⟩)) W := fun W => by go_simp
        clear hca he hkl
        go_upto_region 10 with fail
        refine wp_abs fun a ha => ?_
        have f0 : a.eval (.tmp 4) = .slice (some ⟨g, 0, none⟩) n n := by rw [ha]; rfl
        have f1 : a.eval (.tmp 0) = .slice (some ⟨ab, ao, none⟩) n nc := by rw [ha]; rfl
        have f2 : a.eval (.tmp 12) = .int .i64 k := by rw [ha]; rfl
        have hsz : 64 ≤ a.tmps.size := by rw [ha]; exact Nat.le_of_ble_eq_true rfl
        refine wp_region_held_drew (S := TwoE g ab (0 + k * 19) (ao + k * 19) e) (by kernel_rfl) ⟨hrb, hra⟩ (fun hS => ?_)
        refine take_at 0 41 (v := .slice (some ⟨g, 0, none⟩) n n) rfl rfl (by kernel_rfl) (by kernel_rfl) (by kernel_rfl) (fun _ _ _ h => h) (yi_move rfl (.tmp 4) rfl (by (simp (discharger := (first | decide | omega | (simp only [Act.size_put]; omega))) only [Act.eval_put_same, Act.eval_put_ne, eval_const, f0, f1, f2]); all_goals rfl)) hS ?_
        refine take_at 1 42 (v := .int .i64 k) rfl rfl (by kernel_rfl) (by kernel_rfl) (by kernel_rfl) (fun _ _ _ h => h) (yi_move rfl (.tmp 12) rfl (by (simp (discharger := (first | decide | omega | (simp only [Act.size_put]; omega))) only [Act.eval_put_same, Act.eval_put_ne, eval_const, f0, f1, f2]); all_goals rfl)) hS ?_
        refine take_at 2 43 (v := .pointer (some ⟨g, 0 + k * 19, none⟩)) rfl rfl (by kernel_rfl) (by kernel_rfl) (by kernel_rfl) (fun _ _ _ h => h) (yi_index rfl 22 (.tmp 41) (.tmp 42) rfl (by (simp (discharger := (first | decide | omega | (simp only [Act.size_put]; omega))) only [Act.eval_put_same, Act.eval_put_ne, eval_const, f0, f1, f2]); all_goals rfl) (by (simp (discharger := (first | decide | omega | (simp only [Act.size_put]; omega))) only [Act.eval_put_same, Act.eval_put_ne, eval_const, f0, f1, f2]); all_goals rfl) hig) hS ?_
        refine take_at 3 44 (v := .agg (evcs e)) rfl rfl (by kernel_rfl) (by kernel_rfl) (by kernel_rfl) (fun _ _ _ h => h) (yi_load1 rfl 35 (.tmp 43) rfl (by (simp (discharger := (first | decide | omega | (simp only [Act.size_put]; omega))) only [Act.eval_put_same, Act.eval_put_ne, eval_const, f0, f1, f2]); all_goals rfl) (fun w' h => ev_load_at h.x)) hS ?_
        refine take_at 4 45 (v := .slice (some ⟨ab, ao, none⟩) n nc) rfl rfl (by kernel_rfl) (by kernel_rfl) (by kernel_rfl) (fun _ _ _ h => h) (yi_move rfl (.tmp 0) rfl (by (simp (discharger := (first | decide | omega | (simp only [Act.size_put]; omega))) only [Act.eval_put_same, Act.eval_put_ne, eval_const, f0, f1, f2]); all_goals rfl)) hS ?_
        refine take_at 5 46 (v := .int .i64 k) rfl rfl (by kernel_rfl) (by kernel_rfl) (by kernel_rfl) (fun _ _ _ h => h) (yi_move rfl (.tmp 12) rfl (by (simp (discharger := (first | decide | omega | (simp only [Act.size_put]; omega))) only [Act.eval_put_same, Act.eval_put_ne, eval_const, f0, f1, f2]); all_goals rfl)) hS ?_
        refine take_at 6 47 (v := .pointer (some ⟨ab, ao + k * 19, none⟩)) rfl rfl (by kernel_rfl) (by kernel_rfl) (by kernel_rfl) (fun _ _ _ h => h) (yi_index rfl 22 (.tmp 45) (.tmp 46) rfl (by (simp (discharger := (first | decide | omega | (simp only [Act.size_put]; omega))) only [Act.eval_put_same, Act.eval_put_ne, eval_const, f0, f1, f2]); all_goals rfl) (by (simp (discharger := (first | decide | omega | (simp only [Act.size_put]; omega))) only [Act.eval_put_same, Act.eval_put_ne, eval_const, f0, f1, f2]); all_goals rfl) hia) hS ?_
        refine take_at 7 48 (v := .agg (evcs e)) rfl rfl (by kernel_rfl) (by kernel_rfl) (by kernel_rfl) (fun _ _ _ h => h) (yi_load1 rfl 35 (.tmp 47) rfl (by (simp (discharger := (first | decide | omega | (simp only [Act.size_put]; omega))) only [Act.eval_put_same, Act.eval_put_ne, eval_const, f0, f1, f2]); all_goals rfl) (fun w' h => ev_load_at h.y)) hS ?_
        refine take_at 8 49 (v := .bool false) rfl rfl (by kernel_rfl) (by kernel_rfl) (by kernel_rfl) (fun _ _ _ h => h) (yi_neq rfl (.tmp 44) (.tmp 48) rfl (by (simp (discharger := (first | decide | omega | (simp only [Act.size_put]; omega))) only [Act.eval_put_same, Act.eval_put_ne, eval_const, f0, f1, f2]); all_goals rfl) (by (simp (discharger := (first | decide | omega | (simp only [Act.size_put]; omega))) only [Act.eval_put_same, Act.eval_put_ne, eval_const, f0, f1, f2]); all_goals rfl) (fun w' => run_eqGuard_agg w' _ _ _ _ _ _ (by kernel_rfl)) (ev_neq e)) hS ?_
        refine wpAnyH_done (by kernel_rfl) ?_ _
        clear hS f0 f1 f2 hsz hig hia
        subst ha
        simp only [Act.put, List.setIfInBounds_toArray, List.set_cons_zero, List.set_cons_succ]
        go_wp2_with fail
        go_roundg (n - (k + 1))
        case measure => have := HG.out; omega
        case rel => exact ⟨k + 1, by go_num, by omega, rfl, Below.drew HB.out⟩
      · have hkk : n = k := by omega
        subst hkk
        go_wp2_with fail
        go_ret
        exact ⟨rfl, HB5.out.trans (HB.out.mono HB5.out.size)⟩
end Go.Proofs.YtffjcojehiblnaaDoor
