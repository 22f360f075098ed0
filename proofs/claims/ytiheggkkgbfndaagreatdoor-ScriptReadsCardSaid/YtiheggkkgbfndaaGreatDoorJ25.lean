/- carouselref14: labels. -/
import Derived.Test.YtiheggkkgbfndaaGreatDoorJ24
namespace Go.Proofs.YtiheggkkgbfndaaGreatDoor
open Go.RowKit Go.Joins Go.ChangeShapes Go.WideShapes Go.Deep
set_option linter.unusedVariables false
set_option linter.unusedSimpArgs false
set_option maxRecDepth 100000
set_option maxHeartbeats 4000000 in
theorem labels_any {B : Nat} {w : World} {ab : Nat} {ov av nv lv : Value} {r : RSt} (hR : RaIs B w ab ov av nv lv r) (hB : B ≤ w.heap.size) (l : List Tok) (A : Option Addr) (n c : Nat)
  (hT : Reads w B 2 A n (rows tkc l)) (hc : n ≤ c) (hA : ∀ ad, A = some ad → ad.block ≠ ab) (hu : ∀ t ∈ l, t.s ≠ [] ∧ t.s.length ≤ 4294967296) (hn : n ≤ 4294967296) (hlab : r.labels.length ≤ 4294967295) :
  Calls Tryz.prog 141 #[.pointer (some ⟨ab, 0, none⟩), .slice A n c] w (LblPost B w ab (labL r l)) := by
 have hl := hT.1
 rw [rows_length tkc 2 tkc_len] at hl
 cases l with
 | nil =>
  have hn0 : n = 0 := by simp at hl; omega
  subst hn0
  have HR := Lib.hid hR
  have HT := Lib.hid hT
  clear hl hT hR
  go_enter Tryz.func141, Tryz.ntmps141
  go_upto_region 1 with fail
  go_quiet (fail)
  go_wp2_with fail
  go_ret3
  exact ⟨A, 0, c, ov, av, nv, lv, rfl, hc, HR.out.keep (below_drewN (Below.refl _ _) _), HT.out.drewN _, hA, Frm.of_below (below_drewN (Below.refl _ _) _)⟩
 | cons u rest =>
  have hnl : n = rest.length + 1 := by rw [List.length_cons] at hl; omega
  have z1 : ((n : Int) == 0) = false := by simp; omega
  have hn1 : 0 < n := by omega
  obtain ⟨bt, off, rfl, hbt, hcell⟩ := reads_flat hT (by omega) (by omega)
  obtain ⟨s, hs⟩ : ∃ s : ByteArray, s = ⟨u.s.toArray⟩ := ⟨_, rfl⟩
  have c0 : w.cell? ⟨bt, off, none⟩ = some (.string s) := hs ▸ hcell 0 _ rfl
  have c1 : w.cell? ⟨bt, off + 1, none⟩ = some (.int .i64 u.pos) := hcell 1 _ rfl
  have hsl : s.data.toList = u.s := by rw [hs]
  have hu1 := hu u (List.mem_cons_self ..)
  have hsz : s.size = u.s.length := by
   have e1 : s.size = s.data.toList.length := Array.length_toList.symm
   rw [e1, hsl]
  have hpos : 0 < s.size := by rw [hsz]; exact List.length_pos_iff.2 hu1.1
  have hss : s.size ≤ 4294967296 := by rw [hsz]; exact hu1.2
  obtain ⟨x, hx, hidx⟩ := last_idx s hpos
  rw [hsl] at hx
  have hbw : bt < w.heap.size := by omega
  have hba : bt ≠ ab := hA _ rfl
  obtain ⟨A1, hsl1, hT1, hc1, hA1⟩ := rtok_tail hT hc
  have HT := Lib.hid hT
  have HT1 := Lib.hid hT1
  have HA1 : Hid (∀ ad, A1 = some ad → ad.block ≠ ab) := Lib.hid (fun ad h => by
   obtain ⟨ad0, h1, h2⟩ := hA1 ad h
   rw [h2]
   exact hA ad0 h1)
  have HSZ := Lib.hid hsz
  have HNL := Lib.hid hnl
  have HR := Lib.hid hR
  have HSL := Lib.hid hsl
  clear hcell hs hl hA1 hT hT1 hsz hnl hsl
  by_cases hcol : x = 58
  ·have q1 : ((x.toNat : Int) != 58) = false := by rw [hcol]; rfl
   have hlast : (u.s.getLast? == some 58) = true := by rw [hx, hcol]; rfl
   obtain ⟨q, hq⟩ : ∃ q, q = s.extract 0 (s.size - 1) := ⟨_, rfl⟩
   have hql : q.data.toList = u.s.dropLast := by
    rw [hq, Go.Lib.extract_data, List.drop_zero, List.dropLast_eq_take, ← HSL.out, Array.length_toList]
    rfl
   have hqs : q.size ≤ 4294967296 := by
    have e1 : q.size = q.data.toList.length := Array.length_toList.symm
    rw [e1, hql, List.length_dropLast]
    have := hu1.2
    omega
   have hsl2 : ∀ W, (Instr.slice 9 (.string s) none (some (.int .i64 ((s.size : Int) - 1))) none).run Tryz.prog W = .ok (.string q) W := fun W => by
    rw [run_slice_string_h (P := Tryz.prog) W 9 s Tryz.underlying9 .i64 _ (by omega) (by omega), hq]
    have : ((s.size : Int) - 1).toNat = s.size - 1 := by omega
    rw [this]
   have HNM := Lib.hid (fun W => name_any q (by omega) W)
   rw [hql] at HNM
   obtain ⟨nm, hnm⟩ : ∃ nm, nm = u.s.dropLast := ⟨_, rfl⟩
   rw [← hnm] at HNM hql
   have HLL : Hid (labL r (u :: rest) = if nameF nm = false then .error (9, u.pos) else if (labF2 r.labels nm).isSome then .error (11, u.pos) else .ok (rest, ⟨r.labels ++ [(nm, r.size)], r.ins⟩)) := Lib.hid (by
    rw [hnm]; unfold labL; simp only [hlast, if_true])
   have HQL := Lib.hid hql
   have hql2 := hql
   clear hq hql hnm hlast hcol hx hu1
   cases hname : nameF nm with
   | false =>
    rw [hname] at HNM
    have HL : Hid (labL r (u :: rest) = .error (9, u.pos)) := Lib.hid (by rw [HLL.out, if_pos hname])
    clear hname
    go_enter Tryz.func141, Tryz.ntmps141
    go_upto_region 1 with fail
    go_quiet (fail)
    go_upto_region 3 with fail
    go_quiet (fail)
    go_upto_region 6 with (go_at_call 163; refine (HNM.out _).mono ?_; rintro e w1 ⟨rfl, hw⟩; obtain rfl := hw.symm)
    go_quiet (fail)
    go_wp2_with fail
    go_ret3
    rw [HL.out]
    exact ⟨rfl, Frm.of_below (by first | exact below_drewN (Below.refl _ _) _ | exact below_drewN (below_drewN (Below.refl _ _) _) _)⟩
   | true =>
    rw [hname] at HNM
    obtain ⟨Rl, cl, rfl, hcl, hRl⟩ := own_shapes HR.out.raw.lbs
    have hll : (r.labels.map labTok).length = r.labels.length := List.length_map ..
    have HLC0 := Lib.hid (fun k : Nat => rlabel_any (w := w.drewN k) (HR.out.raw.blk.drewN k) (hRl.drewN k) (by omega) q)
    rw [hql2] at HLC0
    cases hlb : labF2 r.labels nm with
    | some k =>
     rw [hlb] at HLC0
     have HLC : Hid (∀ j : Nat, Calls Tryz.prog 114 #[.pointer (some ⟨ab, 0, none⟩), .string q] (w.drewN j) fun e w' => e = .returned (.int .i64 (k : Int)) ∧ w' = w.drewN j) := Lib.hid HLC0.out
     have HL : Hid (labL r (u :: rest) = .error (11, u.pos)) := Lib.hid (by rw [HLL.out, if_neg (by rw [hname]; exact Bool.noConfusion), hlb]; rfl)
     have k1 : decide ((0 : Int) ≤ (k : Int)) = true := decide_eq_true (by omega)
     have k2 : decide ((k : Int) ≥ 0) = true := decide_eq_true (by omega)
     clear hname hlb hRl HLC0 hll
     go_enter Tryz.func141, Tryz.ntmps141
     go_upto_region 1 with fail
     go_quiet (fail)
     go_upto_region 3 with fail
     go_quiet (fail)
     go_upto_region 8 with (first | (go_at_call 163; refine (HNM.out _).mono ?_; rintro e w1 ⟨rfl, hw⟩; obtain rfl := hw.symm) | (go_at_call 114; refine (HLC.out _).mono ?_; rintro e w1 ⟨rfl, hw⟩; obtain rfl := hw.symm))
     go_quiet (fail)
     go_wp2_with fail
     go_ret3
     rw [HL.out]
     exact ⟨rfl, Frm.of_below (by first | exact below_drewN (Below.refl _ _) _ | exact below_drewN (below_drewN (Below.refl _ _) _) _)⟩
    | none =>
     rw [hlb] at HLC0
     have HLC : Hid (∀ j : Nat, Calls Tryz.prog 114 #[.pointer (some ⟨ab, 0, none⟩), .string q] (w.drewN j) fun e w' => e = .returned (.int .i64 (-1)) ∧ w' = w.drewN j) := Lib.hid HLC0.out
     have HL : Hid (labL r (u :: rest) = .ok (rest, ⟨r.labels ++ [(nm, r.size)], r.ins⟩)) := Lib.hid (by rw [HLL.out, if_neg (by rw [hname]; exact Bool.noConfusion), hlb]; rfl)
     clear hname hlb hRl HLC0 hll
     go_enter Tryz.func141, Tryz.ntmps141
     go_upto_region 1 with fail
     go_quiet (fail)
     go_upto_region 3 with fail
     go_quiet (fail)
     go_upto_region 9 with (first | (go_at_call 163; refine (HNM.out _).mono ?_; rintro e w1 ⟨rfl, hw⟩; obtain rfl := hw.symm) | (go_at_call 114; refine (HLC.out _).mono ?_; rintro e w1 ⟨rfl, hw⟩; obtain rfl := hw.symm))
     generalize hwq : World.drewN w _ = wq
     have hBq : Below w.heap.size w wq := hwq ▸ below_drewN (Below.refl _ _) _
     have hRq := HR.out.raw.keep hBq
     have hzq : wq.heap.size = w.heap.size := by rw [← hwq]; rfl
     have hBB : B ≤ wq.heap.size := by omega
     obtain ⟨m, hm⟩ : ∃ m, m = (r.labels.map labTok).length := ⟨_, rfl⟩
     have hm5 : m ≤ 4294967295 := by rw [hm, List.length_map]; exact hlab
     rw [← hm] at hRq
     have hown := hRq.lbs
     rw [← hm] at hown
     have hnb := own_ne_blk hown hRq.blk (by decide)
     have r4 : wq.cell? ⟨ab, 4, none⟩ = some (.slice Rl m cl) := (hRq.blk.cell 4).trans rfl
     have r3 : wq.cell? ⟨ab, 3, none⟩ = some (.int .i64 (r.size : Int)) := (hRq.blk.cell 3).trans rfl
     have hal := hRq.blk.lt
     have hblk := hRq.blk
     have HRQ := Lib.hid hRq
     have HBQ := Lib.hid hBq
     have HM := Lib.hid hm
     have hc63 : m + 1 ≤ maxLen := by unfold maxLen; omega
     have hcby : (m + 1) * 24 ≤ 140737488355328 := by omega
     have h1c : ∀ v ∈ [Value.string q, .int .i64 (r.size : Int)], v.oneCell' = true := by intro v hv; simp at hv; rcases hv with rfl | rfl <;> rfl
     obtain ⟨i0, hi, hz0, hz1, hz2⟩ := info_parts info_rtok
     have HWQ := Lib.hid hwq
     clear c0 c1 hRq hBq hm hwq hzq hlab hR
     go_region_law
      (refine step_append_lies _ (by rfl) _ _ _ (by rfl) B 159 i0 _ 2 24 Tryz.underlying149 hi hz0 hz1 hz2 rfl (by omega) (.slice Rl m cl) m (rows tkc (r.labels.map labTok)) (by rfl) (show _ from hown.alloc _)
        ⟨wq.heap.size, 0, none⟩ 1 1 [.string q, .int .i64 (r.size : Int)] (by rfl) (by rfl) (World.news_of_block (cs := #[.string q, .int .i64 (r.size : Int)]) (t := 159) (fr := (0, 0)) (heap_alloc_new wq _)) h1c
        (by omega) hc63 hcby (by simp; omega) (wq.heap.size + 1) (by simp) ?_; intro gg cap w3 hown3 hgrow hat hlt3; have hR3 : Blk w3 ab 151 #[ov, av, nv, .int .i64 (r.size : Int), .slice Rl m cl] := (hgrow.block ab (by simp; omega) (fun hh => hnb hh.symm)).trans ((Below.heap_alloc wq _ ab hal).trans hblk); have m4 : w3.cell? ⟨ab, 4, none⟩ = some (.slice Rl m cl) := (hR3.cell 4).trans rfl; have f4 : w3.frozen? ⟨ab, 4, none⟩ = false := hR3.frozen 4; have hrl3 : ab < w3.heap.size := hR3.lt)
     all_goals (have hq3 : q = ⟨nm.toArray⟩ := bytes_inj (by rw [HQL.out]))
     all_goals (have hfin := HRQ.out.put_lbs hBB (by first | exact ((Below.refl _ _).alloc (Nat.le_refl _) _).drew | exact ((Below.refl _ _).drew.alloc (Nat.le_refl _) _) | exact ((Below.refl _ _).alloc (Nat.le_refl _) _)) hgrow (hat.imp id fun h => by omega) (congrArg (· + 1) HM.out) (t := ⟨nm, r.size⟩) (by have h := hown3; rw [hq3] at h; exact h))
     all_goals (have HFIN := Lib.hid hfin)
     all_goals clear hfin hown3 hgrow hat hq3 m4 f4 r4 r3
     all_goals go_wp2_with (refine wpList_slice_g rfl 149 (.tmp 69) (some (.const (.int .i64 1))) none rfl rfl rfl rfl (hsl1 _) ?_)
     all_goals go_ret3
     all_goals (rw [HL.out])
     all_goals (refine ⟨A1, rest.length, c - 1, ov, av, nv, .slice (some ⟨gg, 0, none⟩) (m + 1) cap, rfl, hc1, ⟨?_, HR.out.size, HR.out.len⟩, reads_frm HT1.out HA1.out ((Frm.of_below HBQ.out).trans HFIN.out.2 fun _ h => .inl h) hB, HA1.out, (Frm.of_below HBQ.out).trans HFIN.out.2 fun _ h => .inl h⟩)
     all_goals (have h1 := HFIN.out.1)
     all_goals (rw [List.map_append])
     all_goals exact h1
  ·have q1 : ((x.toNat : Int) != 58) = true := by
    rw [bne_iff_ne]
    intro e
    exact hcol (UInt8.toNat_inj.1 (by show _ = 58; omega))
   have hlast : (u.s.getLast? == some 58) = false := by
    rw [hx, beq_eq_false_iff_ne]
    exact fun e => hcol (by injection e)
   have HL : Hid (labL r (u :: rest) = .ok (u :: rest, r)) := Lib.hid (by unfold labL; simp only [hlast]; rfl)
   clear hcol hlast hx hu1
   go_enter Tryz.func141, Tryz.ntmps141
   go_upto_region 1 with fail
   go_quiet (fail)
   go_wp2_with fail
   go_ret3
   rw [HL.out]
   exact ⟨_, n, c, ov, av, nv, lv, rfl, hc, HR.out.keep (below_drewN (Below.refl _ _) _), HT.out.drewN _, hA, Frm.of_below (below_drewN (Below.refl _ _) _)⟩
def preV (s : ByteArray) (i : Nat) : Nat := decV (s.data.toList.take i)
theorem preV_succ (s : ByteArray) (i : Nat) (h : i < s.size) : preV s (i + 1) = 10 * preV s i + ((s[i]).toNat - 48) := by
 unfold preV
 rw [List.take_add_one, List.getElem?_eq_getElem (by rw [Array.length_toList]; exact h)]
 exact decV_snoc _ _
theorem preV_all (s : ByteArray) : preV s s.size = decV s.data.toList := by
 unfold preV
 rw [List.take_of_length_le (by rw [Array.length_toList]; exact Nat.le_refl _)]
theorem decV_lt (l : List UInt8) (hd : ∀ c ∈ l, isDig c = true) : decV l < 10 ^ l.length := by
 induction l using snoc_ind' with
 | h0 => simp [decV]
 | h1 l c ih =>
  have h1 := ih fun x hx => hd x (List.mem_append_left _ hx)
  have h2 : 48 ≤ c.toNat ∧ c.toNat ≤ 57 := by simpa [isDig] using hd c (by simp)
  rw [decV_snoc, List.length_append, List.length_singleton, Nat.pow_succ]
  omega
theorem preV_lt18 (s : ByteArray) (i : Nat) (hi : i ≤ 18) (hd : ∀ j (h : j < s.size), j < i → 48 ≤ (s[j]).toNat ∧ (s[j]).toNat ≤ 57) : preV s i < 1000000000000000000 := by
 have h := decV_lt (s.data.toList.take i) (fun c hc => by
  obtain ⟨j, hj, rfl⟩ := List.mem_iff_getElem.1 hc
  rw [List.length_take, Array.length_toList] at hj
  have h2 := hd j (show j < s.data.size by omega) (by omega)
  rw [List.getElem_take]
  unfold isDig
  exact decide_eq_true h2)
 have h3 : (s.data.toList.take i).length ≤ 18 := by rw [List.length_take]; omega
 have h4 : (10 : Nat) ^ (s.data.toList.take i).length ≤ 10 ^ 18 := Nat.pow_le_pow_right (by omega) h3
 have h5 : (10 : Nat) ^ 18 = 1000000000000000000 := by decide
 unfold preV
 omega
def minS : ByteArray := ⟨#[45, 57, 50, 50, 51, 51, 55, 50, 48, 51, 54, 56, 53, 52, 55, 55, 53, 56, 48, 56]⟩
theorem minS_list : minS.data.toList = minB := by
 have h := canon (l := [57, 50, 50, 51, 51, 55, 50, 48, 51, 54, 56, 53, 52, 55, 55, 53, 56, 48, 56]) (by simp) (by decide) (by
  intro _ c r e
  injection e with e1 e2
  subst e1
  decide)
 have e2 : decV [57, 50, 50, 51, 51, 55, 50, 48, 51, 54, 56, 53, 52, 55, 55, 53, 56, 48, 56] = 9223372036854775808 := by decide +kernel
 rw [e2] at h
 unfold minB
 rw [← h]
 rfl
theorem numF_minus (r : List UInt8) (hm : 45 :: r ≠ minB) : numF (45 :: r) = match numF r with | some n => if 0 < n then some (-n) else none | none => none := by
 have key : ∀ n : Int, 0 < n → (numF r = some n ↔ natF r = some n.toNat) := by
  intro n hn
  rw [numF_some, natF_some]
  unfold i64ok0 Go.Lib.itoa
  rw [if_neg (by omega)]
  constructor
  ·rintro ⟨h1, h2⟩; exact ⟨by omega, h2⟩
  ·rintro ⟨h1, h2⟩; exact ⟨by omega, h2⟩
 unfold numF
 rw [if_neg hm]
 simp only [if_true]
 cases hn : natF r with
 | none =>
  simp only
  cases hq : numF r with
  | none => unfold numF at hq; rw [hq]
  | some n =>
   by_cases h0 : 0 < n
   ·have := (key n h0).1 hq
    rw [hn] at this
    cases this
   ·unfold numF at hq
    rw [hq]
    simp [h0]
 | some k =>
  simp only
  by_cases hk : 0 < k
  ·have := (key (k : Int) (by omega)).2 (by rw [hn]; congr 1)
   unfold numF at this
   rw [this, if_pos hk]
   simp only
   rw [if_pos (by omega)]
  ·rw [if_neg hk]
   cases hq : numF r with
   | none => unfold numF at hq; rw [hq]
   | some n =>
    by_cases h0 : 0 < n
    ·have := (key n h0).1 hq
     rw [hn] at this
     injection this with this
     omega
    ·unfold numF at hq
     rw [hq]
     simp [h0]
theorem natF_nodigit {l : List UInt8} {c : UInt8} (h : c ∈ l) (hd : isDig c = false) : natF l = none := by
 unfold natF
 rw [if_pos]
 exact .inr (.inr (.inr (.inl (List.any_eq_true.2 ⟨c, h, by rw [hd]; rfl⟩))))
theorem numF_plain (s : List UInt8) (hm : s ≠ minB) (h : ¬ (1 < s.length ∧ s.head? = some 45)) : numF s = (natF s).map fun (n : Nat) => (n : Int) := by
 unfold numF
 rw [if_neg hm]
 cases s with
 | nil => simp [natF]
 | cons c r =>
  simp only
  by_cases hc : c = 45
  ·subst hc
   have hr : r = [] := by
    cases r with
    | nil => rfl
    | cons x y => exact absurd ⟨by simp, rfl⟩ h
   subst hr
   rw [if_pos rfl]
   rfl
  ·rw [if_neg hc]
def NumPost (s : ByteArray) (w : World) (e : Ending) (w' : World) : Prop := w' = w ∧ ∃ n, i64ok n ∧ e = .returned (.tuple #[.int .i64 n, .bool (numF s.data.toList).isSome]) ∧ ∀ m, numF s.data.toList = some m → m = n
set_option maxHeartbeats 2000000 in
theorem number_digits (s : ByteArray) (w : World) (hs : s.size ≤ 4294967296) (hm : s ≠ minS) (h : ¬ (1 < s.size ∧ s.data.toList.head? = some 45)) :
  Calls Tryz.prog 164 #[.string s] w (NumPost s w) := by
 have hm1 : (s.toList == [45, 57, 50, 50, 51, 51, 55, 50, 48, 51, 54, 56, 53, 52, 55, 55, 53, 56, 48, 56]) = false := by
  rw [beq_eq_false_iff_ne, ByteArray.toList_eq]
  exact fun h => hm (bytes_inj h)
 have hsz : s.data.toList.length = s.size := Array.length_toList
 have HN : Hid (numF s.data.toList = (natF s.data.toList).map fun (n : Nat) => (n : Int)) := Lib.hid (numF_plain _ (by rw [← minS_list]; exact fun e => hm (bytes_inj e)) (by rw [hsz]; exact h))
 have HNF := HN
 clear HN
 by_cases h0 : s.size = 0
 ·have hs0 : s = ⟨#[]⟩ := bytes_inj (List.eq_nil_of_length_eq_zero (by rw [hsz]; exact h0))
  have HE : Hid (numF (⟨#[]⟩ : ByteArray).data.toList = none) := Lib.hid (by decide)
  subst hs0
  clear HNF hm h h0 hsz hs
  go_enter Tryz.func164, Tryz.ntmps164
  go_wp2
  go_ret2
  exact ⟨rfl, 0, by unfold i64ok; omega, by rw [HE.out]; rfl, fun m hm => by rw [HE.out] at hm; cases hm⟩
 ·have hp : 0 < s.size := by omega
  have hE : (s.toList == []) = false := by
   rw [beq_eq_false_iff_ne, ByteArray.toList_eq]
   intro h
   rw [h] at hsz
   exact h0 hsz.symm
  have hhead : s.data.toList.head? = some (s[0]) := by
   rw [List.head?_eq_getElem?, List.getElem?_eq_getElem (by rw [hsz]; exact hp)]
   rfl
  rw [hhead] at h
  have HHD := Lib.hid hhead
  clear h0 hhead
  have HSZ := Lib.hid hsz
  clear hsz hm
  have key : ∀ (b : Bool), decide (1 < s.size) = b → Calls Tryz.prog 164 #[.string s] w (NumPost s w) := by
   intro b hb
   cases b with
   | false =>
    have g1 := hb
    have g2 : decide ((1 : Int) < (s.size : Int)) = false := decide_eq_false (by have := of_decide_eq_false hb; omega)
    have g3 : decide (19 < s.size) = false := decide_eq_false (by have := of_decide_eq_false hb; omega)
    have g4 : decide ((19 : Int) < (s.size : Int)) = false := decide_eq_false (by have := of_decide_eq_false hb; omega)
    have HRR : Hid (s.data.toList ≠ [] ∧ ¬ 19 < s.data.toList.length ∧ (1 < s.data.toList.length → ¬ s.data.toList.head? = some 48)) := Lib.hid ⟨fun e => by have := HSZ.out; rw [e] at this; simp at this; omega, by rw [HSZ.out]; exact of_decide_eq_false g3, fun h1 => absurd h1 (by rw [HSZ.out]; exact of_decide_eq_false g1)⟩
    obtain ⟨n, hn⟩ : ∃ n, n = s.size := ⟨_, rfl⟩
    have hn1 : n ≤ s.size := by omega
    have hn2 : s.size ≤ n := by omega
    have hn19 : n ≤ 19 := by have := of_decide_eq_false g3; omega
    clear hn hb h
    go_enter Tryz.func164, Tryz.ntmps164
    go_wp2_with fail
    go_loopg [6, 7] n (fun gk nv iv wr => ∃ i : Nat, iv = .int .i64 i ∧ i ≤ n ∧ gk = n - i ∧ nv = .int .u64 (preV s i : Nat) ∧ wr = w ∧ ∀ j (hj : j < s.size), j < i → 48 ≤ (s[j]).toNat ∧ (s[j]).toNat ≤ 57)
    case atStart => exact ⟨0, rfl, Nat.zero_le _, rfl, rfl, rfl, fun j _ h => absurd h (by omega)⟩
    case round =>
     obtain ⟨i, rfl, hi, hgk, rfl, rfl, hdg⟩ := hrel
     have HG := Lib.hid hgk
     have HDG := Lib.hid hdg
     clear hgk hdg
     by_cases hil : i < n
     ·have e1 : decide ((i : Int) < (s.size : Int)) = true := decide_eq_true (by omega)
      have e2 : decide (i < s.size) = true := decide_eq_true (by omega)
      have hiz : i < s.size := by omega
      have HPL : Hid (preV s i < 1000000000000000000) := Lib.hid (preV_lt18 s i (by omega) HDG.out)
      have HPS := Lib.hid (preV_succ s i hiz)
      obtain ⟨P, hP⟩ : ∃ P, P = preV s i := ⟨_, rfl⟩
      rw [← hP] at HPL HPS ⊢
      have HMEM : Hid (s[i] ∈ s.data.toList) := Lib.hid (by
       have : s[i] = s.data.toList[i]'(by rw [Array.length_toList]; exact hiz) := rfl
       rw [this]
       exact List.getElem_mem _)
      clear hP
      by_cases hlo : (s[i]).toNat < 48
      ·have q1 : decide (((s[i]).toNat : Int) < 48) = true := decide_eq_true (by omega)
       have q2 : decide ((s[i]).toNat < 48) = true := decide_eq_true hlo
       have HE : Hid (numF s.data.toList = none) := Lib.hid (by rw [HNF.out, natF_nodigit HMEM.out (by unfold isDig; exact decide_eq_false (by omega))]; rfl)
       go_wp2
       go_ret2
       exact ⟨rfl, 0, by unfold i64ok; omega, by rw [HE.out]; rfl, fun m hm => by rw [HE.out] at hm; cases hm⟩
      ·have q1 : decide (((s[i]).toNat : Int) < 48) = false := decide_eq_false (by omega)
       have q2 : decide ((s[i]).toNat < 48) = false := decide_eq_false hlo
       by_cases hup : 57 < (s[i]).toNat
       ·have q3 : decide ((57 : Int) < ((s[i]).toNat : Int)) = true := decide_eq_true (by omega)
        have q4 : decide (57 < (s[i]).toNat) = true := decide_eq_true hup
        have HE : Hid (numF s.data.toList = none) := Lib.hid (by rw [HNF.out, natF_nodigit HMEM.out (by unfold isDig; exact decide_eq_false (by omega))]; rfl)
        go_wp2
        go_ret2
        exact ⟨rfl, 0, by unfold i64ok; omega, by rw [HE.out]; rfl, fun m hm => by rw [HE.out] at hm; cases hm⟩
       ·have q3 : decide ((57 : Int) < ((s[i]).toNat : Int)) = false := decide_eq_false (by omega)
        have q4 : decide (57 < (s[i]).toNat) = false := decide_eq_false hup
        have HLU := Lib.hid (And.intro hlo hup)
        clear hlo hup
        go_wp2
        go_roundg (n - (i + 1))
        case measure => have := HG.out; omega
        case rel =>
         have h1 := HLU.out
         refine ⟨i + 1, by simp, by omega, rfl, ?_, rfl, fun j hj hji => ?_⟩
         ·rw [HPS.out]
          have h2 := HPL.out
          have h3 := (s[i]).toNat_lt
          congr 1
          simp [IntKind.wrap, IntKind.bits, IntKind.signed]
          omega
         ·by_cases hji2 : j = i
          ·subst hji2; omega
          ·exact HDG.out j hj (by omega)
     ·have e1 : decide ((i : Int) < (s.size : Int)) = false := decide_eq_false (by omega)
      have e2 : decide (i < s.size) = false := decide_eq_false (by omega)
      have HI : Hid (i = s.size) := Lib.hid (by omega)
      have HVA : Hid (preV s i = decV s.data.toList) := Lib.hid (by rw [HI.out]; exact preV_all s)
      have HAD : Hid (∀ c ∈ s.data.toList, isDig c = true) := Lib.hid (fun c hc => by
       obtain ⟨j, hj, rfl⟩ := List.mem_iff_getElem.1 hc
       rw [Array.length_toList] at hj
       have hj' : j < s.size := hj
       have := HDG.out j hj' (by have := HI.out; omega)
       unfold isDig
       exact decide_eq_true this)
      obtain ⟨P, hP⟩ : ∃ P, P = preV s i := ⟨_, rfl⟩
      rw [← hP] at HVA ⊢
      clear hP
      by_cases hbig : 9223372036854775807 < P
      ·have q1 : decide ((9223372036854775807 : Int) < (P : Int)) = true := decide_eq_true (by omega)
       have q2 : decide (9223372036854775807 < P) = true := decide_eq_true hbig
       have HE : Hid (numF s.data.toList = none) := Lib.hid (by
        rw [HNF.out]
        unfold natF
        rw [if_pos (.inr (.inr (.inr (.inr (by rw [← HVA.out]; exact hbig)))))]
        rfl)
       clear hbig
       go_wp2
       go_ret2
       exact ⟨rfl, 0, by unfold i64ok; omega, by rw [HE.out]; rfl, fun m hm => by rw [HE.out] at hm; cases hm⟩
      ·have q1 : decide ((9223372036854775807 : Int) < (P : Int)) = false := decide_eq_false (by omega)
       have q2 : decide (9223372036854775807 < P) = false := decide_eq_false hbig
       have HE : Hid (numF s.data.toList = some (P : Int)) := Lib.hid (by
        rw [HNF.out]
        unfold natF
        rw [if_neg, ← HVA.out]
        ·rfl
        ·simp only [not_or, not_and, List.any_eq_true, Bool.not_eq_true', not_exists]
         obtain ⟨r1, r2, r3⟩ := HRR.out
         refine ⟨r1, r2, r3, fun c hc => by rw [HAD.out c hc]; exact Bool.noConfusion, by rw [← HVA.out]; exact hbig⟩)
       have HBG := Lib.hid hbig
       clear hbig
       go_wp2
       go_ret2
       have h3 := HBG.out
       have h4 : wrap64 (P : Int) = (P : Int) := by unfold wrap64; omega
       exact ⟨rfl, (P : Int), by unfold i64ok; omega, by rw [HE.out, h4]; rfl, fun m hm => by rw [HE.out] at hm; injection hm with hm; exact hm.symm⟩
   | true =>
    have g1 := hb
    have g2 : decide ((1 : Int) < (s.size : Int)) = true := decide_eq_true (by have := of_decide_eq_true hb; omega)
    have hne : s[0] ≠ 45 := fun e => h ⟨of_decide_eq_true hb, by rw [e]⟩
    have q45 : (((s[0]).toNat : Int) == 45) = false := by
     rw [beq_eq_false_iff_ne]
     intro e
     exact hne (UInt8.toNat_inj.1 (by show _ = 45; omega))
    clear hne h
    by_cases h19 : 19 < s.size
    ·have g3 : decide (19 < s.size) = true := decide_eq_true h19
     have g4 : decide ((19 : Int) < (s.size : Int)) = true := decide_eq_true (by omega)
     have HE : Hid (numF s.data.toList = none) := Lib.hid (by
      rw [HNF.out]
      unfold natF
      rw [if_pos (.inr (.inl (by rw [HSZ.out]; exact h19)))]
      rfl)
     clear h19 hb
     go_enter Tryz.func164, Tryz.ntmps164
     go_wp2
     go_ret2
     exact ⟨rfl, 0, by unfold i64ok; omega, by rw [HE.out]; rfl, fun m hm => by rw [HE.out] at hm; cases hm⟩
    ·have g3 : decide (19 < s.size) = false := decide_eq_false h19
     have g4 : decide ((19 : Int) < (s.size : Int)) = false := decide_eq_false (by omega)
     by_cases h48 : s[0] = 48
     ·have q48 : (((s[0]).toNat : Int) == 48) = true := by rw [h48]; rfl
      have HE : Hid (numF s.data.toList = none) := Lib.hid (by
       rw [HNF.out]
       unfold natF
       rw [if_pos (.inr (.inr (.inl ⟨by rw [HSZ.out]; exact of_decide_eq_true hb, by rw [HHD.out, h48]⟩)))]
       rfl)
      clear h19 hb h48
      go_enter Tryz.func164, Tryz.ntmps164
      go_wp2
      go_ret2
      exact ⟨rfl, 0, by unfold i64ok; omega, by rw [HE.out]; rfl, fun m hm => by rw [HE.out] at hm; cases hm⟩
     ·have q48 : (((s[0]).toNat : Int) == 48) = false := by
       rw [beq_eq_false_iff_ne]
       intro e
       exact h48 (UInt8.toNat_inj.1 (by show _ = 48; omega))
      have HRR : Hid (s.data.toList ≠ [] ∧ ¬ 19 < s.data.toList.length ∧ (1 < s.data.toList.length → ¬ s.data.toList.head? = some 48)) := Lib.hid ⟨fun e => by have := HSZ.out; rw [e] at this; simp at this; omega, by rw [HSZ.out]; exact of_decide_eq_false g3, fun h1 => by rw [HHD.out]; exact fun e => h48 (by injection e)⟩
      obtain ⟨n, hn⟩ : ∃ n, n = s.size := ⟨_, rfl⟩
      have hn1 : n ≤ s.size := by omega
      have hn2 : s.size ≤ n := by omega
      have hn19 : n ≤ 19 := by omega
      clear hn hb h19 h48
      go_enter Tryz.func164, Tryz.ntmps164
      go_wp2_with fail
      go_loopg [6, 7] n (fun gk nv iv wr => ∃ i : Nat, iv = .int .i64 i ∧ i ≤ n ∧ gk = n - i ∧ nv = .int .u64 (preV s i : Nat) ∧ wr = w ∧ ∀ j (hj : j < s.size), j < i → 48 ≤ (s[j]).toNat ∧ (s[j]).toNat ≤ 57)
      case atStart => exact ⟨0, rfl, Nat.zero_le _, rfl, rfl, rfl, fun j _ h => absurd h (by omega)⟩
      case round =>
       obtain ⟨i, rfl, hi, hgk, rfl, rfl, hdg⟩ := hrel
       have HG := Lib.hid hgk
       have HDG := Lib.hid hdg
       clear hgk hdg
       by_cases hil : i < n
       ·have e1 : decide ((i : Int) < (s.size : Int)) = true := decide_eq_true (by omega)
        have e2 : decide (i < s.size) = true := decide_eq_true (by omega)
        have hiz : i < s.size := by omega
        have HPL : Hid (preV s i < 1000000000000000000) := Lib.hid (preV_lt18 s i (by omega) HDG.out)
        have HPS := Lib.hid (preV_succ s i hiz)
        obtain ⟨P, hP⟩ : ∃ P, P = preV s i := ⟨_, rfl⟩
        rw [← hP] at HPL HPS ⊢
        have HMEM : Hid (s[i] ∈ s.data.toList) := Lib.hid (by
         have : s[i] = s.data.toList[i]'(by rw [Array.length_toList]; exact hiz) := rfl
         rw [this]
         exact List.getElem_mem _)
        clear hP
        by_cases hlo : (s[i]).toNat < 48
        ·have q1 : decide (((s[i]).toNat : Int) < 48) = true := decide_eq_true (by omega)
         have q2 : decide ((s[i]).toNat < 48) = true := decide_eq_true hlo
         have HE : Hid (numF s.data.toList = none) := Lib.hid (by rw [HNF.out, natF_nodigit HMEM.out (by unfold isDig; exact decide_eq_false (by omega))]; rfl)
         go_wp2
         go_ret2
         exact ⟨rfl, 0, by unfold i64ok; omega, by rw [HE.out]; rfl, fun m hm => by rw [HE.out] at hm; cases hm⟩
        ·have q1 : decide (((s[i]).toNat : Int) < 48) = false := decide_eq_false (by omega)
         have q2 : decide ((s[i]).toNat < 48) = false := decide_eq_false hlo
         by_cases hup : 57 < (s[i]).toNat
         ·have q3 : decide ((57 : Int) < ((s[i]).toNat : Int)) = true := decide_eq_true (by omega)
          have q4 : decide (57 < (s[i]).toNat) = true := decide_eq_true hup
          have HE : Hid (numF s.data.toList = none) := Lib.hid (by rw [HNF.out, natF_nodigit HMEM.out (by unfold isDig; exact decide_eq_false (by omega))]; rfl)
          go_wp2
          go_ret2
          exact ⟨rfl, 0, by unfold i64ok; omega, by rw [HE.out]; rfl, fun m hm => by rw [HE.out] at hm; cases hm⟩
         ·have q3 : decide ((57 : Int) < ((s[i]).toNat : Int)) = false := decide_eq_false (by omega)
          have q4 : decide (57 < (s[i]).toNat) = false := decide_eq_false hup
          have HLU := Lib.hid (And.intro hlo hup)
          clear hlo hup
          go_wp2
          go_roundg (n - (i + 1))
          case measure => have := HG.out; omega
          case rel =>
           have h1 := HLU.out
           refine ⟨i + 1, by simp, by omega, rfl, ?_, rfl, fun j hj hji => ?_⟩
           ·rw [HPS.out]
            have h2 := HPL.out
            have h3 := (s[i]).toNat_lt
            congr 1
            simp [IntKind.wrap, IntKind.bits, IntKind.signed]
            omega
           ·by_cases hji2 : j = i
            ·subst hji2; omega
            ·exact HDG.out j hj (by omega)
       ·have e1 : decide ((i : Int) < (s.size : Int)) = false := decide_eq_false (by omega)
        have e2 : decide (i < s.size) = false := decide_eq_false (by omega)
        have HI : Hid (i = s.size) := Lib.hid (by omega)
        have HVA : Hid (preV s i = decV s.data.toList) := Lib.hid (by rw [HI.out]; exact preV_all s)
        have HAD : Hid (∀ c ∈ s.data.toList, isDig c = true) := Lib.hid (fun c hc => by
         obtain ⟨j, hj, rfl⟩ := List.mem_iff_getElem.1 hc
         rw [Array.length_toList] at hj
         have hj' : j < s.size := hj
         have := HDG.out j hj' (by have := HI.out; omega)
         unfold isDig
         exact decide_eq_true this)
        obtain ⟨P, hP⟩ : ∃ P, P = preV s i := ⟨_, rfl⟩
        rw [← hP] at HVA ⊢
        clear hP
        by_cases hbig : 9223372036854775807 < P
        ·have q1 : decide ((9223372036854775807 : Int) < (P : Int)) = true := decide_eq_true (by omega)
         have q2 : decide (9223372036854775807 < P) = true := decide_eq_true hbig
         have HE : Hid (numF s.data.toList = none) := Lib.hid (by
          rw [HNF.out]
          unfold natF
          rw [if_pos (.inr (.inr (.inr (.inr (by rw [← HVA.out]; exact hbig)))))]
          rfl)
         clear hbig
         go_wp2
         go_ret2
         exact ⟨rfl, 0, by unfold i64ok; omega, by rw [HE.out]; rfl, fun m hm => by rw [HE.out] at hm; cases hm⟩
        ·have q1 : decide ((9223372036854775807 : Int) < (P : Int)) = false := decide_eq_false (by omega)
         have q2 : decide (9223372036854775807 < P) = false := decide_eq_false hbig
         have HE : Hid (numF s.data.toList = some (P : Int)) := Lib.hid (by
          rw [HNF.out]
          unfold natF
          rw [if_neg, ← HVA.out]
          ·rfl
          ·simp only [not_or, not_and, List.any_eq_true, Bool.not_eq_true', not_exists]
           obtain ⟨r1, r2, r3⟩ := HRR.out
           refine ⟨r1, r2, r3, fun c hc => by rw [HAD.out c hc]; exact Bool.noConfusion, by rw [← HVA.out]; exact hbig⟩)
         have HBG := Lib.hid hbig
         clear hbig
         go_wp2
         go_ret2
         have h3 := HBG.out
         have h4 : wrap64 (P : Int) = (P : Int) := by unfold wrap64; omega
         exact ⟨rfl, (P : Int), by unfold i64ok; omega, by rw [HE.out, h4]; rfl, fun m hm => by rw [HE.out] at hm; injection hm with hm; exact hm.symm⟩
  exact key _ rfl
theorem number_any : ∀ (n : Nat) (s : ByteArray), s.size ≤ n → s.size ≤ 4294967296 → ∀ w, Calls Tryz.prog 164 #[.string s] w (NumPost s w)
 | 0, s, h0, hs, w => number_digits s w hs (fun e => by rw [e] at h0; exact absurd h0 (by decide)) (fun e => by omega)
 | n + 1, s, h0, hs, w => by
  by_cases hm : s = minS
  ·subst hm
   have HE : Hid (numF minS.data.toList = some (-9223372036854775808)) := Lib.hid (by rw [minS_list]; unfold numF; rw [if_pos rfl])
   have hm1 : (minS.toList == [45, 57, 50, 50, 51, 51, 55, 50, 48, 51, 54, 56, 53, 52, 55, 55, 53, 56, 48, 56]) = true := by
    rw [ByteArray.toList_eq, beq_iff_eq]
    rfl
   obtain ⟨q, hq⟩ : ∃ q, q = minS := ⟨_, rfl⟩
   rw [← hq] at hm1 HE ⊢
   clear hq
   go_enter Tryz.func164, Tryz.ntmps164
   go_wp2
   go_ret2
   exact ⟨rfl, -9223372036854775808, by unfold i64ok; omega, by rw [HE.out]; rfl, fun m hm => by rw [HE.out] at hm; injection hm with hm; exact hm.symm⟩
  ·by_cases hd : 1 < s.size ∧ s.data.toList.head? = some 45
   ·obtain ⟨h1, h2⟩ := hd
    have hp : 0 < s.size := by omega
    have hsz : s.data.toList.length = s.size := Array.length_toList
    have hm1 : (s.toList == [45, 57, 50, 50, 51, 51, 55, 50, 48, 51, 54, 56, 53, 52, 55, 55, 53, 56, 48, 56]) = false := by
     rw [beq_eq_false_iff_ne, ByteArray.toList_eq]
     exact fun h => hm (bytes_inj h)
    have hhead : s.data.toList.head? = some (s[0]) := by
     rw [List.head?_eq_getElem?, List.getElem?_eq_getElem (by rw [hsz]; exact hp)]
     rfl
    have h45 : s[0] = 45 := by rw [hhead] at h2; injection h2
    have q45 : (((s[0]).toNat : Int) == 45) = true := by rw [h45]; rfl
    have g1 : decide (1 < s.size) = true := decide_eq_true h1
    have g2 : decide ((1 : Int) < (s.size : Int)) = true := decide_eq_true (by omega)
    obtain ⟨t, ht⟩ : ∃ t, t = s.extract 1 s.size := ⟨_, rfl⟩
    have htl : t.data.toList = s.data.toList.tail := by
     rw [ht, Go.Lib.extract_data, List.take_of_length_le (by rw [List.length_drop, Array.length_toList]; exact Nat.le_refl _), List.drop_one]
    have htz : t.size + 1 = s.size := by
     have h3 : t.size = t.data.toList.length := Array.length_toList.symm
     rw [h3, htl, List.length_tail, hsz]
     omega
    have hcons : s.data.toList = 45 :: t.data.toList := by
     rw [htl]
     cases hl : s.data.toList with
     | nil => rw [hl] at h2; cases h2
     | cons a r => rw [hl] at h2; injection h2 with h2; rw [h2]; rfl
    have HNM := Lib.hid (numF_minus t.data.toList (by rw [← hcons, ← minS_list]; exact fun e => hm (bytes_inj e)))
    have HC := Lib.hid hcons
    have hrun : ∀ W, (Instr.slice 9 (.string s) (some (.int .i64 1)) none none).run Tryz.prog W = .ok (.string t) W := by
     intro W
     rw [ht]
     exact run_slice_string_l (P := Tryz.prog) W 9 s Tryz.underlying9 .i64 1 (by omega) (by omega)
    have HI := Lib.hid (fun W => number_any n t (by omega) (by omega) W)
    clear hcons h2 hhead h45 htl hsz hm h0 ht h1 htz
    go_enter Tryz.func164, Tryz.ntmps164
    go_upto_region 5 with (go_at_call 164; refine (HI.out _).mono ?_; rintro e w1 ⟨hw, m, hm64, rfl, hmv⟩; obtain rfl := hw.symm)
    have HM6 := Lib.hid hm64
    have HMV := Lib.hid hmv
    clear hm64 hmv
    cases hq : numF t.data.toList with
    | none =>
     have HE : Hid (numF s.data.toList = none) := Lib.hid (by rw [HC.out, HNM.out, hq])
     simp only [Option.isSome_none]
     clear hq
     go_wp2
     go_ret2
     exact ⟨rfl, wrap64 (-m), by
      have := HM6.out
      unfold i64ok at this ⊢
      unfold wrap64
      omega, by rw [HE.out]; rfl, fun m hm => by rw [HE.out] at hm; cases hm⟩
    | some k =>
     obtain rfl := HMV.out k hq
     simp only [Option.isSome_some]
     have h6 := HM6.out
     unfold i64ok at h6
     by_cases h0 : 0 < k
     ·have HE : Hid (numF s.data.toList = some (-k)) := Lib.hid (by rw [HC.out, HNM.out, hq]; simp [h0])
      have q0 : decide (0 < k) = true := decide_eq_true h0
      have hw : wrap64 (-k) = -k := by unfold wrap64; omega
      clear hq
      go_wp2
      go_ret2
      exact ⟨rfl, -k, by unfold i64ok; omega, by rw [HE.out]; rfl, fun m hm => by rw [HE.out] at hm; injection hm with hm; exact hm.symm⟩
     ·have HE : Hid (numF s.data.toList = none) := Lib.hid (by rw [HC.out, HNM.out, hq]; simp [h0])
      have q0 : decide (0 < k) = false := decide_eq_false h0
      clear hq
      go_wp2
      go_ret2
      exact ⟨rfl, wrap64 (-k), by
       unfold i64ok wrap64
       omega, by rw [HE.out]; rfl, fun m hm => by rw [HE.out] at hm; cases hm⟩
   ·exact number_digits s w hs hm hd
end Go.Proofs.YtiheggkkgbfndaaGreatDoor
