/- script: the lines behind the first. -/
import Derived.Test.YtiheggkkgbfndaaGreatDoorJ37
import Derived.Test.YtiheggkkgbfndaaGreatDoorJ34
import Derived.Test.YtiheggkkgbfndaaGreatDoorJ01
import Derived.SizedLaws
import Derived.Carry
namespace Go.Proofs.YtiheggkkgbfndaaGreatDoor
open Go.RowKit Go.Joins Go.ChangeShapes Go.WideShapes Go.Deep
set_option linter.unusedVariables false
set_option linter.unusedSimpArgs false
set_option maxRecDepth 100000
def PRestRes (B : Nat) (w : World) (p : Nat) (s : ByteArray) : Except (Nat × Nat) SSt → Prop
 | .ok x => ∃ a n, PGood B w p s a n x
 | .error y => PBad w p y.1 y.2
theorem goL_err0 {n p : Nat} {x : SSt} {t : List UInt8} {y : Nat × Nat} (h : goL n p x t = .error y) : y.1 ≠ 0 := (goesL_err h).1
def RestSo (B : Nat) (s : ByteArray) (p : Nat) (G : Except (Nat × Nat) SSt) (W : World) (gk : Nat) (pv : Value) : Prop :=
 (∃ (n a q : Nat) (x : SSt), pv = .int .i64 q ∧ gk + n = s.size + 1 ∧ Rnd s x q n ∧ PGood B W p s a n x ∧ G = goL n q x (s.data.toList.drop n)) ∨ (∃ y, G = .error y ∧ y.1 ≠ 0 ∧ PBad W p y.1 y.2 ∧ gk = 0)
set_option maxHeartbeats 8000000 in
theorem prest_any {C : Nat} (B p a0 n0 : Nat) (s : ByteArray) (hs : s.size ≤ 65535) (x0 : SSt) (w : World) (hE : EnvP C w) (hCB : C ≤ B) (hG : PGood B w p s a0 n0 x0) (hBw : B ≤ w.heap.size) (hBp : B ≤ p) (hR : Rnd s x0 1 n0) :
  Calls Tryz.prog 18 #[.pointer (some ⟨p, 0, none⟩)] w fun e w' => e = .returned (.tuple #[]) ∧ Below B w w' ∧ PRestRes B w' p s (goL n0 1 x0 (s.data.toList.drop n0)) := by
 obtain ⟨G, hGG⟩ : ∃ G, G = goL n0 1 x0 (s.data.toList.drop n0) := ⟨_, rfl⟩
 rw [← hGG]
 have HGG := Lib.hid hGG
 have HG := Lib.hid hG
 have HR := Lib.hid hR
 have HEN : Hid (∀ W, Below B w W → EnvP C W) := Lib.hid fun W hW => hE.below (hW.mono hCB)
 have hn0 := hR.le
 clear hGG hG hR hE
 go_enter Tryz.func18, Tryz.ntmps18
 go_upto_region 1 with fail
 go_loopg [2, 3, 4, 5, 6] (s.size + 1 - n0) (fun gk pv _ _ _ _ W => Hid (RestSo B s p G W gk pv) ∧ Below B w W)
 case atStart => exact ⟨Lib.hid (.inl ⟨n0, a0, 1, x0, rfl, by omega, HR.out, HG.out, HGG.out⟩), Below.refl _ _⟩
 case round =>
  obtain ⟨HSO, hbw⟩ := hrel
  have HBW := Lib.hid hbw
  have hBr : B ≤ wr.heap.size := Nat.le_trans hBw hbw.size
  clear hbw
  rcases HSO.out with ⟨n, a, q, x, rfl, hgk, hrn, hgd, hge⟩ | ⟨y, hge, hy0, hbad, hgk⟩
  ·have HRN := Lib.hid hrn
   have HGE := Lib.hid hge
   have HGK := Lib.hid hgk
   have hnle := hrn.le
   obtain ⟨rv, pv, tv, lv, T, L, hbk, hS⟩ := hgd
   have x14 : wr.cell? ⟨p, 14, none⟩ = some (.int .i64 0) := (hbk.cell 14).trans rfl
   have hpl := hbk.lt
   have HS := Lib.hid hS
   have HBK := Lib.hid hbk
   clear hrn hge hgk hS HSO
   rcases ends_or s n with ⟨i, he⟩ | hno
   ·have HLN := Lib.hid (line_hit hs he p a x.set.cfg rv pv tv lv x.steps 0 0 wr hbk)
    have HE := Lib.hid he
    have hjs := he.2.1
    have hni := he.1
    have HGO := Lib.hid (goL_one (p := q) (x := x) he)
    obtain ⟨l, hl⟩ : ∃ l, l = s.extract n i := ⟨_, rfl⟩
    rw [← hl] at HLN HGO
    have HL := Lib.hid hl
    have hlz : l.size ≤ 65535 := by rw [hl, ByteArray.size_extract]; omega
    clear he hl hbk
    go_upto_region 3 with (go_at_call 42; refine HLN.out.mono ?_; rintro e w1 ⟨rfl, hF, hB1⟩; have HF := Lib.hid hF; have HB1 := Lib.hid hB1; clear hF hB1)
    have HBW1 : Hid (Below B w w1) := Lib.hid (HBW.out.trans (below_of_frm HF.out hBr hBp))
    have hB1s : B ≤ w1.heap.size := Nat.le_trans hBr HF.out.size
    have HG1 : Hid (PGood B w1 p s n (i + 1) x) := Lib.hid (PGood.frm HS.out HBK.out HF.out HB1.out)
    have HSP := Lib.hid (psplit_any (HEN.out w1 HBW1.out) l hlz)
    obtain ⟨h0, hh0⟩ : ∃ h0 : ByteArray, h0 = ⟨(headL l.data.toList).toArray⟩ := ⟨_, rfl⟩
    have hh0l : h0.data.toList = headL l.data.toList := by rw [hh0]
    have HHC : Hid (∀ (W : World) (g : Nat), WordsAt W W.heap.size g (splitF 32 l.data.toList) → W.cell? ⟨g, 0, none⟩ = some (.string h0)) := Lib.hid fun W g hw => by
     rw [hh0]
     refine hw.cell 0 _ ?_
     rw [← List.head?_eq_getElem?, head_some]
    have HPT := Lib.hid (fun W => part_any h0 W)
    rw [hh0l] at HPT
    obtain ⟨pt, hpt⟩ : ∃ pt, pt = partL (headL l.data.toList) := ⟨_, rfl⟩
    rw [← hpt] at HPT
    have HPTE := Lib.hid hpt
    obtain ⟨m, hm⟩ : ∃ m, m = (splitF 32 l.data.toList).length := ⟨_, rfl⟩
    have hm0 : (0 : Int) < (m : Int) := by rw [hm, splitF_length]; omega
    rw [← hm] at HSP
    have HMM := Lib.hid hm
    clear hh0 hh0l hpt hm
    go_upto_region 7 with (go_at_call 43; refine HSP.out.mono ?_; rintro e w2 ⟨g, rfl, hw, hb2⟩; have HW := Lib.hid hw; have HB2 := Lib.hid hb2; have c0 := HHC.out _ _ hw; have hgl := hw.lt; clear hw hb2)
    have HG2 := Lib.hid (HG1.out.below HB2.out)
    have HBW2 : Hid (Below B w w2) := Lib.hid (HBW1.out.trans (HB2.out.mono hB1s))
    have hB2s : B ≤ w2.heap.size := Nat.le_trans hB1s HB2.out.size
    by_cases hp : pt < q
    ·have q1 : decide ((pt : Int) < (q : Int)) = true := decide_eq_true (by omega)
     have q2 : decide (pt < q) = true := decide_eq_true hp
     have HER : Hid (G = .error (9, n)) := Lib.hid (by rw [HGE.out, HGO.out, oneR_no (by rw [← HPTE.out]; exact hp)])
     obtain ⟨rv2, pv2, tv2, lv2, T2, L2, hbk2, _⟩ := HG2.out
     have HFA := Lib.hid (fails_any s p n (i + 1) x.set.cfg rv2 pv2 tv2 lv2 x.steps 0 9 n w2 hbk2)
     obtain ⟨y1, hpl2⟩ := HG2.out.at1
     clear hbk2 hp
     go_wp2_with (first | (go_at_call 45; refine (HPT.out _).mono ?_; rintro e w3 ⟨rfl, rfl⟩) | (go_at_call 17; refine HFA.out.mono ?_; rintro e w3 ⟨rfl, hF, hB⟩))
     refine bodyPost_ret (results_none rfl _ _ _) rfl ?_
     refine ⟨rfl, HBW2.out.trans (below_of_frm hF hB2s hBp), ?_⟩
     rw [HER.out]
     exact ⟨_, _, _, _, _, _, _, _, _, hB⟩
    ·have q1 : decide ((pt : Int) < (q : Int)) = false := decide_eq_false (by omega)
     have q2 : decide (pt < q) = false := decide_eq_false hp
     have HON := Lib.hid (pone_any B p g m n (i + 1) s l hs (by omega) hlz x w2 (HEN.out w2 HBW2.out) hCB HG2.out hB2s hBp (HRN.out.lim hs) HW.out (by rw [← HMM.out]; exact Nat.le_refl _))
     rw [← HMM.out] at HON
     unfold PPostP at HON
     have HOP := Lib.hid (oneR_part (x := x) (s := s) (at_ := n) (n := i + 1) (l := l.data.toList) (part := q) (by rw [← HPTE.out]; omega))
     have HNX : Hid (∀ x' p' n', oneR x q s n (i + 1) l.data.toList = .ok (x', p', n') → Rnd s x' p' n' ∧ n < n') := Lib.hid fun x' p' n' ho => by
      rw [HL.out] at ho
      have h3 := HRN.out.next HE.out ho
      exact ⟨h3.1, h3.2.1⟩
     obtain ⟨R, hR⟩ : ∃ R, R = oneP x s n (i + 1) l.data.toList := ⟨_, rfl⟩
     rw [← hR] at HON HOP
     clear hR hp
     go_upto_region 11 with (go_at_call 45; refine (HPT.out _).mono ?_; rintro e w3 ⟨rfl, rfl⟩)
     go_wp2_with (go_at_call 46; refine HON.out.mono ?_; rintro e w3 ⟨rfl, hb3, hres⟩)
     cases R with
     | error y =>
      have HER : Hid (G = .error y) := Lib.hid (by rw [HGE.out, HGO.out, HOP.out])
      have hy0 : y.1 ≠ 0 := goL_err0 (by rw [← HGE.out]; exact HER.out)
      have HB3 := Lib.hid hb3
      have HBD := Lib.hid hres
      clear hb3 hres
      go_roundg 0
      case measure => have := HGK.out; omega
      case rel => exact ⟨Lib.hid (.inr ⟨y, HER.out, hy0, HBD.out, rfl⟩), HBW2.out.trans HB3.out⟩
     | ok z =>
      obtain ⟨x', n'⟩ := z
      obtain ⟨a', hg'⟩ := hres
      obtain ⟨hr', hnn⟩ := HNX.out x' (partL (headL l.data.toList)) n' HOP.out
      have HGE2 : Hid (G = goL n' (partL (headL l.data.toList)) x' (s.data.toList.drop n')) := Lib.hid (by rw [HGE.out, HGO.out, HOP.out])
      rw [← HPTE.out] at hr' HGE2
      have hle' := hr'.le
      have HB3 := Lib.hid hb3
      have HGD := Lib.hid hg'
      have HRD := Lib.hid hr'
      clear hb3 hg' hr'
      go_roundg (s.size + 1 - n')
      case measure => have := HGK.out; omega
      case rel => exact ⟨Lib.hid (.inl ⟨n', a', pt, x', rfl, by omega, HRD.out, HGD.out, HGE2.out⟩), HBW2.out.trans HB3.out⟩
   ·have HLN := Lib.hid (line_miss hs hnle hno p a x.set.cfg rv pv tv lv x.steps 0 0 wr hbk)
    have HNO := Lib.hid hno
    clear hno hbk
    go_upto_region 3 with (go_at_call 42; refine HLN.out.mono ?_; rintro e w1 ⟨rfl, hF, hB1⟩; have HF := Lib.hid hF; have HB1 := Lib.hid hB1; clear hF hB1)
    have HBW1 : Hid (Below B w w1) := Lib.hid (HBW.out.trans (below_of_frm HF.out hBr hBp))
    have hB1s : B ≤ w1.heap.size := Nat.le_trans hBr HF.out.size
    have HG1 : Hid (PGood B w1 p s n n x) := Lib.hid (PGood.frm HS.out HBK.out HF.out HB1.out)
    have y0 : w1.cell? ⟨p, 0, none⟩ = some (.string s) := (HB1.out.cell 0).trans rfl
    have y1 : w1.cell? ⟨p, 1, none⟩ = some (.int .i64 n) := (HB1.out.cell 1).trans rfl
    have hpl1 := HB1.out.lt
    by_cases hns : n < s.size
    ·have q1 : decide ((n : Int) < (s.size : Int)) = true := decide_eq_true (by omega)
     have q2 : decide (n < s.size) = true := decide_eq_true hns
     have HER : Hid (G = .error (9, n)) := Lib.hid (by rw [HGE.out, goL_none hns HNO.out])
     have HFA := Lib.hid (fun k => fails_any s p n n x.set.cfg rv pv tv lv x.steps 0 9 n (w1.drewN k) (HB1.out.drewN k))
     clear hns
     go_upto_region 4 with fail
     go_quiet (fail)
     go_wp2_with (go_at_call 17; refine (HFA.out _).mono ?_; rintro e w3 ⟨rfl, hF, hB⟩)
     refine bodyPost_ret (results_none rfl _ _ _) rfl ?_
     refine ⟨rfl, (below_drewN HBW1.out _).trans (below_of_frm hF hB1s hBp), ?_⟩
     rw [HER.out]
     exact ⟨_, _, _, _, _, _, _, _, _, hB⟩
    ·have q1 : decide ((n : Int) < (s.size : Int)) = false := decide_eq_false (by omega)
     have q2 : decide (n < s.size) = false := decide_eq_false hns
     have HER : Hid (G = .ok x) := Lib.hid (by rw [HGE.out, goL_last (by omega)])
     clear hns
     go_upto_region 4 with fail
     go_quiet (fail)
     go_wp2
     refine bodyPost_ret (results_none rfl _ _ _) rfl ?_
     refine ⟨rfl, below_drewN HBW1.out _, ?_⟩
     rw [HER.out]
     obtain ⟨rv2, pv2, tv2, lv2, T2, L2, hbk2, hS2⟩ := HG1.out
     exact ⟨n, n, _, _, _, _, _, _, hbk2.drewN _, ⟨own_drewN hS2.regs, own_drewN hS2.progs, own_drewN hS2.thr, ⟨fun y hy => own_drewN (hS2.jobs.own y hy), hS2.jobs.ne⟩, ⟨fun y hy => own_drewN (hS2.args.own y hy), hS2.args.ne⟩, hS2.thrEq, own_drewN hS2.lines, ⟨fun y hy => own_drewN (hS2.steps.own y hy), hS2.steps.ne⟩, hS2.linesEq⟩⟩
  ·have HER := Lib.hid hge
   have HBD := Lib.hid hbad
   obtain ⟨s', a', n', c', rv', pv', tv', lv', k', hb'⟩ := hbad
   have x14 : wr.cell? ⟨p, 14, none⟩ = some (.int .i64 y.1) := (hb'.cell 14).trans rfl
   have hpl := hb'.lt
   have q1 : (((y.1 : Nat) : Int) == 0) = false := by simp; omega
   clear hb' hge HSO
   go_wp2
   go_end0
   refine ⟨rfl, HBW.out, ?_⟩
   rw [HER.out]
   exact HBD.out
set_option maxHeartbeats 4000000 in
theorem rone_any (B q part at_ n : Nat) (s sl : ByteArray) (hs : s.size ≤ 65535) (hns : n ≤ s.size) (hsl : sl.size ≤ 65535) (x : SSt) (w : World) (hG : DGood B w q part x) (hBw : B ≤ w.heap.size) (hBq : B ≤ q) (hpt : part ≤ 4) (hlm : Lim x 65535) :
  Calls Tryz.prog 22 #[.pointer (some ⟨q, 0, none⟩), .string s, .int .i64 at_, .string sl, .int .i64 n] w (DPostO B q (oneR x part s at_ n sl.data.toList) w) := by
 obtain ⟨rv, pv, tv, lv, T, L, hb, hS⟩ := hG
 have HWO := Lib.hid (swords_any sl hsl w)
 have HLK := Lib.hid (fun W => look_any sl W)
 have hlz : sl.data.toList.length ≤ 65535 := by
  have h1 : sl.data.toList.length = sl.size := Array.length_toList
  omega
 have HBR := Lib.hid (brief_split hlz)
 have hql := hb.lt
 have HB := Lib.hid hb
 have HS := Lib.hid hS
 clear hb hS hlz
 go_enter Tryz.func22, Tryz.ntmps22
 go_upto_region 2 with (go_at_call 50; refine HWO.out.mono ?_; rintro e w1 ⟨v, rfl, hown, hb1⟩)
 obtain ⟨g, cap, rfl, hgB, hgl⟩ := hown.form (by have := splitF_length 32 sl.data.toList; omega)
 obtain ⟨ws, hws⟩ : ∃ ws, ws = splitF 32 sl.data.toList := ⟨_, rfl⟩
 rw [← hws] at hown
 have hW1 : WordsAt w1 w1.heap.size g ws := WordsAt.of_own hown
 obtain ⟨h0, hh0⟩ : ∃ h0 : ByteArray, h0 = ⟨(headL sl.data.toList).toArray⟩ := ⟨_, rfl⟩
 have hh0l : h0.data.toList = headL sl.data.toList := by rw [hh0]
 have c0 : w1.cell? ⟨g, 0, none⟩ = some (.string h0) := by
  rw [hh0]
  refine hW1.cell 0 _ ?_
  rw [hws, ← List.head?_eq_getElem?, head_some]
 have hwl : 0 < ws.length := by rw [hws, splitF_length]; omega
 obtain ⟨m, hm⟩ : ∃ m, m = ws.length := ⟨_, rfl⟩
 have hm0 : (0 : Int) < (m : Int) := by omega
 rw [← hws, ← hm]
 have HWS := Lib.hid hws
 have HMM := Lib.hid hm
 have HW1 := Lib.hid hW1
 have hB1 : B ≤ w1.heap.size := Nat.le_trans hBw hb1.size
 have HB1 := Lib.hid (HB.out.below hb1 hql)
 have HS1 := Lib.hid (HS.out.below hb1)
 have HBL := Lib.hid (hb1.mono hBw)
 have HBR1 : Hid (Brief ws) := Lib.hid (by rw [hws]; exact HBR.out)
 have hql1 := HB1.out.lt
 have HH0 := Lib.hid hh0l
 have HHD : Hid (headL sl.data.toList = (ws.head?.getD [])) := Lib.hid (by rw [hws]; rfl)
 clear hws hm hwl hh0 hown hgB hgl hb1 hW1 hql hh0l HWO
 have hgl1 := HW1.out.lt
 have HGY : Hid (∀ (k : Nat), part ≤ k → Calls Tryz.prog 53 #[.pointer (some ⟨q, 0, none⟩), .int .i64 k, .int .i64 at_] w1 fun r w' => r = .returned (.bool true) ∧ Below B w1 w' ∧ DGood B w' q k x ∧ WordsAt w' w'.heap.size g ws) := Lib.hid fun k hk =>
  (rgoes_yes q x.set.cfg rv pv tv lv 0 0 part x.steps k at_ w1 HB1.out hk).mono fun r w' ⟨h1, h2, h3⟩ => ⟨h1, below_of_frm h2 hB1 hBq, DGood.frm HS1.out HB1.out h2 h3, (HW1.out.frm HB1.out oth_st.b h2).more h2.size⟩
 have HGN : Hid (∀ (k : Nat), k < part → Calls Tryz.prog 53 #[.pointer (some ⟨q, 0, none⟩), .int .i64 k, .int .i64 at_] w1 fun r w' => r = .returned (.bool false) ∧ Below B w1 w' ∧ DBad w' q 9 at_) := Lib.hid fun k hk =>
  (rgoes_no q x.set.cfg rv pv tv lv 0 0 part x.steps k at_ w1 HB1.out hk).mono fun r w' ⟨h1, h2, h3⟩ => ⟨h1, below_of_frm h2 hB1 hBq, _, _, _, _, _, _, _, h3⟩
 have HFA : Hid (Calls Tryz.prog 56 #[.pointer (some ⟨q, 0, none⟩), .int .i64 9, .int .i64 at_] w1 fun r w' => r = .returned (.tuple #[]) ∧ Below B w1 w' ∧ DBad w' q 9 at_) := Lib.hid ((rfails_any q x.set.cfg rv pv tv lv 0 0 part x.steps 9 at_ w1 HB1.out).mono fun r w' ⟨h1, h2, h3⟩ => ⟨h1, below_of_frm h2 hB1 hBq, _, _, _, _, _, _, _, h3⟩)
 by_cases hr : headL sl.data.toList = wRegion
 ·have q1 : (h0.toList == [114, 101, 103, 105, 111, 110]) = true := str_yes (HH0.out.trans hr)
  have hpl := part_region hr
  by_cases hp : 1 < part
  ·have HC := Lib.hid (HGN.out 1 hp)
   go_wp2_with (first | (go_at_call 52; refine (HLK.out _).mono ?_; rintro e w2 ⟨rfl, rfl⟩) | (go_at_call 53; refine HC.out.mono ?_; rintro e w2 ⟨rfl, hb2, hbad⟩))
   go_ret
   exact ⟨HBL.out.trans hb2, _, rfl, DResO.no (by omega) hbad⟩
  ·have HC := Lib.hid (HGY.out 1 (by omega))
   go_upto_region 6 with (first | (go_at_call 52; refine (HLK.out _).mono ?_; rintro e w2 ⟨rfl, rfl⟩) | (go_at_call 53; refine HC.out.mono ?_; rintro e w2 ⟨rfl, hb2, hgd, hw2⟩))
   have HRG := Lib.hid (rregion_any B q 1 at_ g cap ws x w2 hgd (Nat.le_trans hB1 hb2.size) hBq hw2 HBR1.out hlm.regs)
   rw [← HMM.out] at HRG
   have HB2 := Lib.hid hb2
   clear hgd hw2 hb2
   go_wp2_with (go_at_call 54; refine HRG.out.mono ?_; rintro e w3 ⟨rfl, hb3, hres⟩)
   go_ret
   refine ⟨(HBL.out.trans HB2.out).trans hb3, _, rfl, DResO.plain (by omega) (fun e => by rw [e] at hr; exact absurd hr (by decide)) (plain_region hr) ?_⟩
   rw [hpl, ← HWS.out]
   exact hres
 ·have q1 : (h0.toList == [114, 101, 103, 105, 111, 110]) = false := str_no fun e => hr (HH0.out.symm.trans e)
  by_cases hpr : sl.data.toList = wProgram
  ·have q2 : (sl.toList == [112, 114, 111, 103, 114, 97, 109]) = true := str_yes hpr
   have hpl := part_program hpr
   by_cases hp : 2 < part
   ·have HC := Lib.hid (HGN.out 2 hp)
    go_wp2_with (first | (go_at_call 52; refine (HLK.out _).mono ?_; rintro e w2 ⟨rfl, rfl⟩) | (go_at_call 53; refine HC.out.mono ?_; rintro e w2 ⟨rfl, hb2, hbad⟩))
    go_ret
    exact ⟨HBL.out.trans hb2, _, rfl, DResO.no (by omega) hbad⟩
   ·have HC := Lib.hid (HGY.out 2 (by omega))
    go_upto_region 10 with (first | (go_at_call 52; refine (HLK.out _).mono ?_; rintro e w2 ⟨rfl, rfl⟩) | (go_at_call 53; refine HC.out.mono ?_; rintro e w2 ⟨rfl, hb2, hgd, hw2⟩))
    have HRG := Lib.hid (rprogram_any B q 2 at_ n s hs hns x w2 hgd (Nat.le_trans hB1 hb2.size) hBq hlm.progs)
    have HB2 := Lib.hid hb2
    clear hgd hw2 hb2
    go_wp2_with (go_at_call 55; refine HRG.out.mono ?_; rintro e w3 ⟨hb3, r, rfl, hres⟩)
    go_ret
    refine ⟨(HBL.out.trans HB2.out).trans hb3, _, rfl, ?_⟩
    rw [oneR_prog (by omega) hpr]
    cases hpq : progR x s at_ n with
    | error y => rw [hpq] at hres; exact hres
    | ok y => rw [hpq] at hres; exact hres
  ·have q2 : (sl.toList == [112, 114, 111, 103, 114, 97, 109]) = false := str_no hpr
   by_cases hth : sl.data.toList = wThread
   ·have q3 : (sl.toList == [116, 104, 114, 101, 97, 100]) = true := str_yes hth
    have hpl := part_thread hth
    have HTH := Lib.hid hth
    clear hth
    by_cases hp : 3 < part
    ·have HC := Lib.hid (HGN.out 3 hp)
     go_wp2_with (first | (go_at_call 52; refine (HLK.out _).mono ?_; rintro e w2 ⟨rfl, rfl⟩) | (go_at_call 53; refine HC.out.mono ?_; rintro e w2 ⟨rfl, hb2, hbad⟩))
     go_ret
     exact ⟨HBL.out.trans hb2, _, rfl, DResO.no (by omega) hbad⟩
    ·have HC := Lib.hid (HGY.out 3 (by omega))
     go_upto_region 14 with (first | (go_at_call 52; refine (HLK.out _).mono ?_; rintro e w2 ⟨rfl, rfl⟩) | (go_at_call 53; refine HC.out.mono ?_; rintro e w2 ⟨rfl, hb2, hgd, hw2⟩))
     obtain ⟨wm, rfl⟩ : ∃ wm, wm = w2 := ⟨_, rfl⟩
     obtain ⟨rv2, pv2, tv2, lv2, T2, L2, hbk, hS2⟩ := hgd
     obtain ⟨hTl, _⟩ := hS2.lens
     obtain ⟨Rt, ct, rfl, _, _⟩ := own_shapes hS2.thr
     have x8 : wm.cell? ⟨q, 8, none⟩ = some (.slice Rt T2.length ct) := (hbk.cell 8).trans rfl
     have hqm := hbk.lt
     have HBL2 := Lib.hid (HBL.out.trans hb2)
     have hBm : B ≤ wm.heap.size := Nat.le_trans hB1 hb2.size
     have HTL := Lib.hid hTl
     have HS2 := Lib.hid hS2
     by_cases h8 : T2.length = 8
     ·have q4 : ((T2.length : Int) == 8) = true := by simp; omega
      have HF := Lib.hid (rfails_any q x.set.cfg rv2 pv2 _ lv2 0 0 3 x.steps 2 at_ wm hbk)
      have HPL : Hid (plainL x sl.data.toList (splitF 32 sl.data.toList) = .error 2) := Lib.hid (by rw [plain_thread HTH.out, if_pos (by rw [← hTl]; exact h8)])
      clear hw2 hb2 hbk hS2 hTl h8
      go_wp2_with (go_at_call 56; refine HF.out.mono ?_; rintro e w3 ⟨rfl, hF, hB⟩)
      go_ret
      exact ⟨HBL2.out.trans (below_of_frm hF hBm hBq), _, rfl, DResO.plain (by omega) hpr HPL.out ⟨_, _, _, _, _, _, _, hB⟩⟩
     ·have q4 : ((T2.length : Int) == 8) = false := by simp; omega
      have HPL : Hid (plainL x sl.data.toList (splitF 32 sl.data.toList) = .ok { x with set := { x.set with thr := x.set.thr ++ [[]] } }) := Lib.hid (by rw [plain_thread HTH.out, if_neg (by rw [← hTl]; exact h8)])
      have hT8 : T2.length ≤ 8 := by rw [hTl]; exact hlm.thr
      obtain ⟨i0, hi, hz0, hz1, hz2⟩ := info_parts info_jobs
      have hc2 : ∀ u ∈ ([.slice none 0 0] : List Value), u.oneCell' = true := by intro u hu; simp at hu; subst hu; rfl
      have hc3 : T2.length + 1 ≤ maxLen := by unfold maxLen; omega
      have hc4 : (T2.length + 1) * 24 ≤ 140737488355328 := by omega
      have hc5 : B ≤ (wm.alloc (.cells #[.slice none 0 0] 50)).heap.size := by simp; omega
      have HA : Hid (Below wm.heap.size wm (wm.alloc (.cells #[.slice none 0 0] 50))) := Lib.hid ((Below.refl _ _).alloc (Nat.le_refl _) _)
      have HBLo := HBL
      clear HBL
      have HBL := Lib.hid hbk
      clear hw2 hb2 hbk hS2 hTl h8
      go_wp2_with (at_builtin; go_must (refine wpList_append_lies _ rfl _ _ 27 rfl B 50 i0 (.slice none 0 0) 1 24 Tryz.underlying27 (by assumption) hz0 hz1 hz2 rfl (by decide) (.slice Rt T2.length ct) T2.length (rows valC (T2.map (·.1))) rfl (HS2.out.thr.alloc _) ⟨wm.heap.size, 0, none⟩ 1 1 [.slice none 0 0] rfl rfl (World.news_of_block (cs := #[.slice none 0 0]) (t := 50) (fr := (0, 0)) (by simpa using heap_alloc_new wm (.cells #[.slice none 0 0] 50))) hc2 (by omega) hc3 hc4 hc5 (wm.heap.size + 1) (by simp) ?_; intro gg c' w2 hown2 hg2 hat hlt2; have hR3 := blk_past HBL.out (HS2.out.thr) oth_st.c HA.out hg2; have m6 : w2.cell? ⟨q, 8, none⟩ = some (.slice Rt T2.length ct) := (hR3.cell 8).trans rfl; have f6 : w2.frozen? ⟨q, 8, none⟩ = false := hR3.frozen 8; have hl3 := hR3.lt))
      go_ret
      obtain ⟨k1, k2, k3⟩ := HS2.out.put_thread HBL.out oth_st hBm hBq HA.out hg2 hown2 8
      refine ⟨HBL2.out.trans k3, _, rfl, DResO.plain (by omega) hpr HPL.out ?_⟩
      rw [hpl]
      exact ⟨_, _, _, _, _, _, k1, k2⟩
   ·have q3 : (sl.toList == [116, 104, 114, 101, 97, 100]) = false := str_no hth
    by_cases hj : headL sl.data.toList = wJob
    ·have q4 : (h0.toList == [106, 111, 98]) = true := str_yes (HH0.out.trans hj)
     have hpl := part_job hj
     by_cases hp : 3 < part
     ·have HC := Lib.hid (HGN.out 3 hp)
      go_wp2_with (first | (go_at_call 52; refine (HLK.out _).mono ?_; rintro e w2 ⟨rfl, rfl⟩) | (go_at_call 53; refine HC.out.mono ?_; rintro e w2 ⟨rfl, hb2, hbad⟩))
      go_ret
      exact ⟨HBL.out.trans hb2, _, rfl, DResO.no (by omega) hbad⟩
     ·have HC := Lib.hid (HGY.out 3 (by omega))
      go_upto_region 20 with (first | (go_at_call 52; refine (HLK.out _).mono ?_; rintro e w2 ⟨rfl, rfl⟩) | (go_at_call 53; refine HC.out.mono ?_; rintro e w2 ⟨rfl, hb2, hgd, hw2⟩))
      have HRG := Lib.hid (rjob_any B q 3 at_ g cap ws x w2 hgd (Nat.le_trans hB1 hb2.size) hBq hw2 HBR1.out hlm.progs hlm.thr hlm.jobs)
      rw [← HMM.out] at HRG
      have HB2 := Lib.hid hb2
      clear hgd hw2 hb2
      go_wp2_with (go_at_call 57; refine HRG.out.mono ?_; rintro e w3 ⟨rfl, hb3, hres⟩)
      go_ret
      refine ⟨(HBL.out.trans HB2.out).trans hb3, _, rfl, DResO.plain (by omega) hpr (plain_job hj) ?_⟩
      rw [hpl, ← HWS.out]
      exact hres
    ·have q4 : (h0.toList == [106, 111, 98]) = false := str_no fun e => hj (HH0.out.symm.trans e)
     have c12 : w1.cell? ⟨q, 12, none⟩ = some (.int .i64 part) := (HB1.out.cell 12).trans rfl
     have f12 : w1.frozen? ⟨q, 12, none⟩ = false := HB1.out.frozen 12
     obtain ⟨wp, hwp⟩ : ∃ wp, wp = w1.setCell ⟨q, 12, none⟩ (.int .i64 4) := ⟨_, rfl⟩
     have HBP : Hid (Blk wp q 61 (StV x.set.cfg rv pv tv lv 0 0 4 x.steps)) := Lib.hid (hwp ▸ HB1.out.set_ 12 _)
     have HSP : Hid (SetAt B wp x rv pv tv lv T L) := Lib.hid (hwp ▸ HS1.out.setO HB1.out oth_st _)
     have HBW : Hid (Below B w wp) := Lib.hid (hwp ▸ HBL.out.setCell hBq _)
     have HZ : Hid (wp.heap.size = w1.heap.size) := Lib.hid (by rw [hwp]; simp [World.setCell])
     have HWP : Hid (WordsAt wp wp.heap.size g ws) := Lib.hid (by rw [HZ.out, hwp]; exact HW1.out.set HB1.out oth_st.b _)
     have hBp : B ≤ wp.heap.size := by rw [HZ.out]; exact hB1
     by_cases hrn : headL sl.data.toList = wRun
     ·have q5 : (h0.toList == [114, 117, 110]) = true := str_yes (HH0.out.trans hrn)
      have hpl := part_run hrn
      have HRG := Lib.hid (rrun_any B q 4 at_ g cap ws x wp ⟨_, _, _, _, _, _, HBP.out, HSP.out⟩ hBp hBq HWP.out HBR1.out hlm.lines hlm.steps)
      rw [← HMM.out] at HRG
      go_upto_region 24 with (go_at_call 52; refine (HLK.out _).mono ?_; rintro e w2 ⟨rfl, rfl⟩)
      rw [← hwp]
      clear hwp
      go_wp2_with (go_at_call 58; refine HRG.out.mono ?_; rintro e w3 ⟨rfl, hb3, hres⟩)
      go_ret
      refine ⟨HBW.out.trans hb3, _, rfl, DResO.plain (by omega) hpr (plain_run hrn) ?_⟩
      rw [hpl, ← HWS.out]
      exact hres
     ·have q5 : (h0.toList == [114, 117, 110]) = false := str_no fun e => hrn (HH0.out.symm.trans e)
      have HPK : Hid (plainL x sl.data.toList (splitF 32 sl.data.toList) = lookR x (lookF sl.data.toList)) := Lib.hid (plain_look hr hth hj hrn)
      have HLP : Hid (∀ k, lookF sl.data.toList = some k → partL (headL sl.data.toList) = 4 ∧ 2 ≤ k ∧ k ≤ 7) := Lib.hid fun k hk => ⟨(look_part hk).1, (look_part hk).2.2⟩
      obtain ⟨ok, hok⟩ : ∃ ok, ok = lookF sl.data.toList := ⟨_, rfl⟩
      rw [← hok] at HLK HPK HLP
      clear hok
      cases ok with
      | none =>
       have hx : DResO B w1 q (n : Int) (.error (9, at_)) = DBad w1 q 9 at_ := rfl
       clear hwp hx
       go_wp2_with (first | (go_at_call 52; refine (HLK.out _).mono ?_; rintro e w2 ⟨rfl, rfl⟩) | (go_at_call 56; refine HFA.out.mono ?_; rintro e w3 ⟨rfl, hb3, hbad⟩))
       go_ret
       refine ⟨HBL.out.trans hb3, _, rfl, ?_⟩
       rw [oneR_bad hpr HPK.out]
       exact hbad
      | some k =>
       obtain ⟨hp4, hk2, hk7⟩ := HLP.out k rfl
       have q6 : decide ((0 : Int) < (k : Int)) = true := decide_eq_true (by omega)
       have q7 : decide (0 < k) = true := decide_eq_true (by omega)
       (try simp only [Option.getD_some] at HLK)
       go_upto_region 27 with (go_at_call 52; refine (HLK.out _).mono ?_; rintro e w2 ⟨rfl, rfl⟩)
       rw [← hwp]
       clear hwp
       obtain ⟨i0, hi, hz0, hz1, hz2⟩ := info_parts info_lin
       have hll : L.length ≤ 65535 := by rw [HSP.out.lens.2]; exact hlm.lines
       have x9 : wp.cell? ⟨q, 9, none⟩ = some lv := (HBP.out.cell 9).trans rfl
       have hqp := HBP.out.lt
       have hc2 : ∀ u ∈ ([.int .i64 k, .slice none 0 0] : List Value), u.oneCell' = true := by intro u hu; simp at hu; rcases hu with rfl | rfl <;> rfl
       have hc3 : L.length + 1 ≤ maxLen := by unfold maxLen; omega
       have hc4 : (L.length + 1) * 32 ≤ 140737488355328 := by omega
       have hc5 : B ≤ (wp.alloc (.cells #[.int .i64 k, .slice none 0 0] 49)).heap.size := by simp; omega
       have HA : Hid (Below wp.heap.size wp (wp.alloc (.cells #[.int .i64 k, .slice none 0 0] 49))) := Lib.hid ((Below.refl _ _).alloc (Nat.le_refl _) _)
       clear HBL
       have HBL := HBP
       go_wp2_with (at_builtin; go_must (refine wpList_append_lies _ rfl _ _ 30 rfl B 49 i0 (.agg #[.int .i64 0, .slice none 0 0]) 2 32 Tryz.underlying30 (by assumption) hz0 hz1 hz2 rfl (by decide) lv L.length (rows lnC L) rfl (HSP.out.lines.alloc _) ⟨wp.heap.size, 0, none⟩ 1 1 [.int .i64 k, .slice none 0 0] rfl rfl (World.news_of_block (cs := #[.int .i64 k, .slice none 0 0]) (t := 49) (fr := (0, 0)) (by simpa using heap_alloc_new wp (.cells #[.int .i64 k, .slice none 0 0] 49))) hc2 (by omega) hc3 hc4 hc5 (wp.heap.size + 1) (by simp) ?_; intro gg c' w2 hown2 hg2 hat hlt2; have hR3 := blk_past HBL.out (HSP.out.lines) oth_st.f HA.out hg2; have m6 : w2.cell? ⟨q, 9, none⟩ = some lv := (hR3.cell 9).trans rfl; have f6 : w2.frozen? ⟨q, 9, none⟩ = false := hR3.frozen 9; have hl3 := hR3.lt))
       go_ret
       obtain ⟨k1, k2, k3⟩ := HSP.out.put_line HBP.out oth_st hBp hBq HA.out hg2 ⟨k, []⟩ x.steps (v := .slice none 0 0) hown2 (World.ownsRow_nil _ _ _ _) (fun q hq => by cases hq) 9
       refine ⟨HBW.out.trans k3, _, rfl, DResO.plain (by omega) hpr HPK.out ?_⟩
       rw [hp4]
       exact ⟨_, _, _, _, _, _, k1, k2⟩
end Go.Proofs.YtiheggkkgbfndaaGreatDoor
namespace Go.Proofs.YtiheggkkgbfndaaGreatDoor
open Go.RowKit Go.Joins Go.ChangeShapes Go.WideShapes Go.ChangeAt Go.Deep
set_option linter.unusedVariables false
set_option linter.unusedSimpArgs false
theorem own : ownKnob Tryz.prog.godebug = none := by kernel_rfl
theorem laidOut : laidOutB Tryz.prog = true := by kernel_rfl


section
variable {H : Type} {enc : TypeId × Value → H} {P : Program} {w : World}

theorem Below.trodAll {ts : List TypeId} {vs : List Value} {ds : List (DataW H)} {p : List MemPlace} (hl : laidOutB P = true) (hr : ∀ t ∈ ts, P.readableRec t = true ∧ t < P.types.size) {W W' : World}
  (h : DataW.TrodAll enc P W 0 (fun _ => true) true ts vs ds p) (hb : Below W.heap.size W W') (hlt : ∀ x ∈ p, x.block < W.heap.size) :
  DataW.TrodAll enc P W' 0 (fun b => decide (b < W.heap.size)) true ts vs ds p := by
 induction ts generalizing vs ds p with
 | nil =>
  obtain ⟨rfl, rfl, rfl⟩ := trodAll_nil h
  exact trodAll_mk0
 | cons t ts ih =>
  obtain ⟨v0, vs0, d0, ds0, p0, q0, rfl, rfl, rfl, h0, r0⟩ := trodAll_cons h
  have ht := hr t (by simp)
  exact trodAll_cons_mk (Below.trod hl ht.1 ht.2 h0 hb (fun x hx => hlt x (by simp [hx]))) (ih (fun u hu => hr u (by simp [hu])) r0 (fun x hx => hlt x (by simp [hx])))

end
end Go.Proofs.YtiheggkkgbfndaaGreatDoor
