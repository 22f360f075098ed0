/- carouselref24: a line, walked. -/
import Derived.Test.YtiheggkkgbfndaaGreatDoorL30
import Derived.Test.YtiheggkkgbfndaaGreatDoorL01
import Derived.SizedLaws
import Derived.Carry
import Derived.Test.YtiheggkkgbfndaaGreatDoorL05
import Derived.BigQuiet
import Derived.Deep.QuietTactic
import Derived.Deep.DeepMust
import Derived.Deep.RegionWith
import Derived.Deep.LoopGhost
namespace Go.Proofs.YtiheggkkgbfndaaGreatDoor
open Go.RowKit Go.Joins Go.ChangeShapes Go.WideShapes Go.Deep
set_option linter.unusedVariables false
set_option linter.unusedSimpArgs false
set_option maxRecDepth 100000
set_option maxHeartbeats 4000000 in
theorem rone_any (B q part at_ n:Nat) (s sl:ByteArray) (hs:s.size ≤ 65535) (hns:n ≤ s.size) (hsl:sl.size ≤ 65535) (x:SSt) (w:World) (hG:DGood B w q part x) (hBw:B ≤ w.heap.size) (hBq:B ≤ q) (hpt:part ≤ 4) (hlm:Lim x 65535) :
  Calls Tryz.prog 22 #[.pointer (some ⟨q,0,none⟩),.string s,.int .i64 at_,.string sl,.int .i64 n] w (DPostO B q (oneR x part s at_ n sl.data.toList) w):=by
 obtain ⟨rv,pv,tv,lv,T,L,hb,hS⟩:=hG
 have HWO:=Lib.hid (swords_any sl hsl w)
 have HLK:=Lib.hid (fun W=>look_any sl W)
 have hlz:sl.data.toList.length ≤ 65535:=by
  have h1:sl.data.toList.length=sl.size:=Array.length_toList
  omega
 have HBR:=Lib.hid (brief_split hlz)
 have hql:=hb.lt
 have HB:=Lib.hid hb
 have HS:=Lib.hid hS
 clear hb hS hlz
 go_enter Tryz.func22,Tryz.ntmps22
 go_upto_region 2 with (go_at_call 50;refine HWO.out.mono ?_;rintro e w1 ⟨v,rfl,hown,hb1⟩)
 obtain ⟨g,cap,rfl,hgB,hgl⟩:=hown.form (by have:=splitF_length 32 sl.data.toList;omega)
 obtain ⟨ws,hws⟩:∃ ws,ws=splitF 32 sl.data.toList:=⟨_,rfl⟩
 rw [← hws] at hown
 have hW1:WordsAt w1 w1.heap.size g ws:=WordsAt.of_own hown
 obtain ⟨h0,hh0⟩:∃ h0:ByteArray,h0=⟨(headL sl.data.toList).toArray⟩:=⟨_,rfl⟩
 have hh0l:h0.data.toList=headL sl.data.toList:=by rw [hh0]
 have c0:w1.cell? ⟨g,0,none⟩=some (.string h0):=by
  rw [hh0]
  refine hW1.cell 0 _ ?_
  rw [hws,← List.head?_eq_getElem?,head_some]
 have hwl:0 < ws.length:=by rw [hws,splitF_length];omega
 obtain ⟨m,hm⟩:∃ m,m=ws.length:=⟨_,rfl⟩
 have hm0:(0:Int) < (m:Int):=by omega
 rw [← hws,← hm]
 have HWS:=Lib.hid hws
 have HMM:=Lib.hid hm
 have HW1:=Lib.hid hW1
 have hB1:B ≤ w1.heap.size:=Nat.le_trans hBw hb1.size
 have HB1:=Lib.hid (HB.out.below hb1 hql)
 have HS1:=Lib.hid (HS.out.below hb1)
 have HBL:=Lib.hid (hb1.mono hBw)
 have HBR1:Hid (Brief ws):=Lib.hid (by rw [hws];exact HBR.out)
 have hql1:=HB1.out.lt
 have HH0:=Lib.hid hh0l
 have HHD:Hid (headL sl.data.toList=(ws.head?.getD [])):=Lib.hid (by rw [hws];rfl)
 clear hws hm hwl hh0 hown hgB hgl hb1 hW1 hql hh0l HWO
 have hgl1:=HW1.out.lt
 have HGY:Hid (∀ (k:Nat),part ≤ k→Calls Tryz.prog 53 #[.pointer (some ⟨q,0,none⟩),.int .i64 k,.int .i64 at_] w1 fun r w'=>r=.returned (.bool true)∧Below B w1 w'∧DGood B w' q k x∧WordsAt w' w'.heap.size g ws):=Lib.hid fun k hk =>
  (rgoes_yes q x.set.cfg rv pv tv lv 0 0 part x.steps k at_ w1 HB1.out hk).mono fun r w' ⟨h1,h2,h3⟩=>⟨h1,below_of_frm h2 hB1 hBq,DGood.frm HS1.out HB1.out h2 h3,(HW1.out.frm HB1.out oth_st.b h2).more h2.size⟩
 have HGN:Hid (∀ (k:Nat),k < part→Calls Tryz.prog 53 #[.pointer (some ⟨q,0,none⟩),.int .i64 k,.int .i64 at_] w1 fun r w'=>r=.returned (.bool false)∧Below B w1 w'∧DBad w' q 9 at_):=Lib.hid fun k hk =>
  (rgoes_no q x.set.cfg rv pv tv lv 0 0 part x.steps k at_ w1 HB1.out hk).mono fun r w' ⟨h1,h2,h3⟩=>⟨h1,below_of_frm h2 hB1 hBq,_,_,_,_,_,_,_,h3⟩
 have HFA:Hid (Calls Tryz.prog 56 #[.pointer (some ⟨q,0,none⟩),.int .i64 9,.int .i64 at_] w1 fun r w'=>r=.returned (.tuple #[])∧Below B w1 w'∧DBad w' q 9 at_):=Lib.hid ((rfails_any q x.set.cfg rv pv tv lv 0 0 part x.steps 9 at_ w1 HB1.out).mono fun r w' ⟨h1,h2,h3⟩=>⟨h1,below_of_frm h2 hB1 hBq,_,_,_,_,_,_,_,h3⟩)
 by_cases hr:headL sl.data.toList=wRegion
 ·have q1:(h0.toList == [114,101,103,105,111,110])=true:=str_yes (HH0.out.trans hr)
  have hpl:=part_region hr
  by_cases hp:1 < part
  ·have HC:=Lib.hid (HGN.out 1 hp)
   go_wp2_with (first | (go_at_call 52;refine (HLK.out _).mono ?_;rintro e w2 ⟨rfl,rfl⟩) | (go_at_call 53;refine HC.out.mono ?_;rintro e w2 ⟨rfl,hb2,hbad⟩))
   go_ret
   exact ⟨HBL.out.trans hb2,_,rfl,DResO.no (by omega) hbad⟩
  ·have HC:=Lib.hid (HGY.out 1 (by omega))
   go_upto_region 6 with (first | (go_at_call 52;refine (HLK.out _).mono ?_;rintro e w2 ⟨rfl,rfl⟩) | (go_at_call 53;refine HC.out.mono ?_;rintro e w2 ⟨rfl,hb2,hgd,hw2⟩))
   have HRG:=Lib.hid (rregion_any B q 1 at_ g cap ws x w2 hgd (Nat.le_trans hB1 hb2.size) hBq hw2 HBR1.out hlm.regs)
   rw [← HMM.out] at HRG
   have HB2:=Lib.hid hb2
   clear hgd hw2 hb2
   go_wp2_with (go_at_call 54;refine HRG.out.mono ?_;rintro e w3 ⟨rfl,hb3,hres⟩)
   go_ret
   refine ⟨(HBL.out.trans HB2.out).trans hb3,_,rfl,DResO.plain (by omega) (fun e=>by rw [e] at hr;exact absurd hr (by decide)) (plain_region hr) ?_⟩
   rw [hpl,← HWS.out]
   exact hres
 ·have q1:(h0.toList == [114,101,103,105,111,110])=false:=str_no fun e=>hr (HH0.out.symm.trans e)
  by_cases hpr:sl.data.toList=wProgram
  ·have q2:(sl.toList == [112,114,111,103,114,97,109])=true:=str_yes hpr
   have hpl:=part_program hpr
   by_cases hp:2 < part
   ·have HC:=Lib.hid (HGN.out 2 hp)
    go_wp2_with (first | (go_at_call 52;refine (HLK.out _).mono ?_;rintro e w2 ⟨rfl,rfl⟩) | (go_at_call 53;refine HC.out.mono ?_;rintro e w2 ⟨rfl,hb2,hbad⟩))
    go_ret
    exact ⟨HBL.out.trans hb2,_,rfl,DResO.no (by omega) hbad⟩
   ·have HC:=Lib.hid (HGY.out 2 (by omega))
    go_upto_region 10 with (first | (go_at_call 52;refine (HLK.out _).mono ?_;rintro e w2 ⟨rfl,rfl⟩) | (go_at_call 53;refine HC.out.mono ?_;rintro e w2 ⟨rfl,hb2,hgd,hw2⟩))
    have HRG:=Lib.hid (rprogram_any B q 2 at_ n s hs hns x w2 hgd (Nat.le_trans hB1 hb2.size) hBq hlm.progs)
    have HB2:=Lib.hid hb2
    clear hgd hw2 hb2
    go_wp2_with (go_at_call 55;refine HRG.out.mono ?_;rintro e w3 ⟨hb3,r,rfl,hres⟩)
    go_ret
    refine ⟨(HBL.out.trans HB2.out).trans hb3,_,rfl,?_⟩
    rw [oneR_prog (by omega) hpr]
    cases hpq:progR x s at_ n with
    | error y=>rw [hpq] at hres;exact hres
    | ok y=>rw [hpq] at hres;exact hres
  ·have q2:(sl.toList == [112,114,111,103,114,97,109])=false:=str_no hpr
   by_cases hth:sl.data.toList=wThread
   ·have q3:(sl.toList == [116,104,114,101,97,100])=true:=str_yes hth
    have hpl:=part_thread hth
    have HTH:=Lib.hid hth
    clear hth
    by_cases hp:3 < part
    ·have HC:=Lib.hid (HGN.out 3 hp)
     go_wp2_with (first | (go_at_call 52;refine (HLK.out _).mono ?_;rintro e w2 ⟨rfl,rfl⟩) | (go_at_call 53;refine HC.out.mono ?_;rintro e w2 ⟨rfl,hb2,hbad⟩))
     go_ret
     exact ⟨HBL.out.trans hb2,_,rfl,DResO.no (by omega) hbad⟩
    ·have HC:=Lib.hid (HGY.out 3 (by omega))
     go_upto_region 14 with (first | (go_at_call 52;refine (HLK.out _).mono ?_;rintro e w2 ⟨rfl,rfl⟩) | (go_at_call 53;refine HC.out.mono ?_;rintro e w2 ⟨rfl,hb2,hgd,hw2⟩))
     obtain ⟨wm,rfl⟩:∃ wm,wm=w2:=⟨_,rfl⟩
     obtain ⟨rv2,pv2,tv2,lv2,T2,L2,hbk,hS2⟩:=hgd
     obtain ⟨hTl,_⟩:=hS2.lens
     obtain ⟨Rt,ct,rfl,_,_⟩:=own_shapes hS2.thr
     have x8:wm.cell? ⟨q,8,none⟩=some (.slice Rt T2.length ct):=(hbk.cell 8).trans rfl
     have hqm:=hbk.lt
     have HBL2:=Lib.hid (HBL.out.trans hb2)
     have hBm:B ≤ wm.heap.size:=Nat.le_trans hB1 hb2.size
     have HTL:=Lib.hid hTl
     have HS2:=Lib.hid hS2
     by_cases h8:T2.length=8
     ·have q4:((T2.length:Int) == 8)=true:=by simp;omega
      have HF:=Lib.hid (rfails_any q x.set.cfg rv2 pv2 _ lv2 0 0 3 x.steps 2 at_ wm hbk)
      have HPL:Hid (plainL x sl.data.toList (splitF 32 sl.data.toList)=.error 2):=Lib.hid (by rw [plain_thread HTH.out,if_pos (by rw [← hTl];exact h8)])
      clear hw2 hb2 hbk hS2 hTl h8
      go_wp2_with (go_at_call 56;refine HF.out.mono ?_;rintro e w3 ⟨rfl,hF,hB⟩)
      go_ret
      exact ⟨HBL2.out.trans (below_of_frm hF hBm hBq),_,rfl,DResO.plain (by omega) hpr HPL.out ⟨_,_,_,_,_,_,_,hB⟩⟩
     ·have q4:((T2.length:Int) == 8)=false:=by simp;omega
      have HPL:Hid (plainL x sl.data.toList (splitF 32 sl.data.toList)=.ok { x with set:={ x.set with thr:=x.set.thr ++ [[]] } }):=Lib.hid (by rw [plain_thread HTH.out,if_neg (by rw [← hTl];exact h8)])
      have hT8:T2.length ≤ 8:=by rw [hTl];exact hlm.thr
      obtain ⟨i0,hi,hz0,hz1,hz2⟩:=info_parts info_jobs
      have hc2:∀ u ∈ ([.slice none 0 0]:List Value),u.oneCell'=true:=by intro u hu;simp at hu;subst hu;rfl
      have hc3:T2.length + 1 ≤ maxLen:=by unfold maxLen;omega
      have hc4:(T2.length + 1) * 24 ≤ 140737488355328:=by omega
      have hc5:B ≤ (wm.alloc (.cells #[.slice none 0 0] 50)).heap.size:=by simp;omega
      have HA:Hid (Below wm.heap.size wm (wm.alloc (.cells #[.slice none 0 0] 50))):=Lib.hid ((Below.refl _ _).alloc (Nat.le_refl _) _)
      have HBLo:=HBL
      clear HBL
      have HBL:=Lib.hid hbk
      clear hw2 hb2 hbk hS2 hTl h8
      go_wp2_with (at_builtin;go_must (refine wpList_append_lies _ rfl _ _ 27 rfl B 50 i0 (.slice none 0 0) 1 24 Tryz.underlying27 (by assumption) hz0 hz1 hz2 rfl (by decide) (.slice Rt T2.length ct) T2.length (rows valC (T2.map (·.1))) rfl (HS2.out.thr.alloc _) ⟨wm.heap.size,0,none⟩ 1 1 [.slice none 0 0] rfl rfl (World.news_of_block (cs:=#[.slice none 0 0]) (t:=50) (fr:=(0,0)) (by simpa using heap_alloc_new wm (.cells #[.slice none 0 0] 50))) hc2 (by omega) hc3 hc4 hc5 (wm.heap.size + 1) (by simp) ?_;intro gg c' w2 hown2 hg2 hat hlt2;have hR3:=blk_past HBL.out (HS2.out.thr) oth_st.c HA.out hg2;have m6:w2.cell? ⟨q,8,none⟩=some (.slice Rt T2.length ct):=(hR3.cell 8).trans rfl;have f6:w2.frozen? ⟨q,8,none⟩=false:=hR3.frozen 8;have hl3:=hR3.lt))
      go_ret
      obtain ⟨k1,k2,k3⟩:=HS2.out.put_thread HBL.out oth_st hBm hBq HA.out hg2 hown2 8
      refine ⟨HBL2.out.trans k3,_,rfl,DResO.plain (by omega) hpr HPL.out ?_⟩
      rw [hpl]
      exact ⟨_,_,_,_,_,_,k1,k2⟩
   ·have q3:(sl.toList == [116,104,114,101,97,100])=false:=str_no hth
    by_cases hj:headL sl.data.toList=wJob
    ·have q4:(h0.toList == [106,111,98])=true:=str_yes (HH0.out.trans hj)
     have hpl:=part_job hj
     by_cases hp:3 < part
     ·have HC:=Lib.hid (HGN.out 3 hp)
      go_wp2_with (first | (go_at_call 52;refine (HLK.out _).mono ?_;rintro e w2 ⟨rfl,rfl⟩) | (go_at_call 53;refine HC.out.mono ?_;rintro e w2 ⟨rfl,hb2,hbad⟩))
      go_ret
      exact ⟨HBL.out.trans hb2,_,rfl,DResO.no (by omega) hbad⟩
     ·have HC:=Lib.hid (HGY.out 3 (by omega))
      go_upto_region 20 with (first | (go_at_call 52;refine (HLK.out _).mono ?_;rintro e w2 ⟨rfl,rfl⟩) | (go_at_call 53;refine HC.out.mono ?_;rintro e w2 ⟨rfl,hb2,hgd,hw2⟩))
      have HRG:=Lib.hid (rjob_any B q 3 at_ g cap ws x w2 hgd (Nat.le_trans hB1 hb2.size) hBq hw2 HBR1.out hlm.progs hlm.thr hlm.jobs)
      rw [← HMM.out] at HRG
      have HB2:=Lib.hid hb2
      clear hgd hw2 hb2
      go_wp2_with (go_at_call 57;refine HRG.out.mono ?_;rintro e w3 ⟨rfl,hb3,hres⟩)
      go_ret
      refine ⟨(HBL.out.trans HB2.out).trans hb3,_,rfl,DResO.plain (by omega) hpr (plain_job hj) ?_⟩
      rw [hpl,← HWS.out]
      exact hres
    ·have q4:(h0.toList == [106,111,98])=false:=str_no fun e=>hj (HH0.out.symm.trans e)
     have c12:w1.cell? ⟨q,12,none⟩=some (.int .i64 part):=(HB1.out.cell 12).trans rfl
     have f12:w1.frozen? ⟨q,12,none⟩=false:=HB1.out.frozen 12
     obtain ⟨wp,hwp⟩:∃ wp,wp=w1.setCell ⟨q,12,none⟩ (.int .i64 4):=⟨_,rfl⟩
     have HBP:Hid (Blk wp q 61 (StV x.set.cfg rv pv tv lv 0 0 4 x.steps)):=Lib.hid (hwp ▸ HB1.out.set_ 12 _)
     have HSP:Hid (SetAt B wp x rv pv tv lv T L):=Lib.hid (hwp ▸ HS1.out.setO HB1.out oth_st _)
     have HBW:Hid (Below B w wp):=Lib.hid (hwp ▸ HBL.out.setCell hBq _)
     have HZ:Hid (wp.heap.size=w1.heap.size):=Lib.hid (by rw [hwp];simp [World.setCell])
     have HWP:Hid (WordsAt wp wp.heap.size g ws):=Lib.hid (by rw [HZ.out,hwp];exact HW1.out.set HB1.out oth_st.b _)
     have hBp:B ≤ wp.heap.size:=by rw [HZ.out];exact hB1
     by_cases hrn:headL sl.data.toList=wRun
     ·have q5:(h0.toList == [114,117,110])=true:=str_yes (HH0.out.trans hrn)
      have hpl:=part_run hrn
      have HRG:=Lib.hid (rrun_any B q 4 at_ g cap ws x wp ⟨_,_,_,_,_,_,HBP.out,HSP.out⟩ hBp hBq HWP.out HBR1.out hlm.lines hlm.steps)
      rw [← HMM.out] at HRG
      go_upto_region 24 with (go_at_call 52;refine (HLK.out _).mono ?_;rintro e w2 ⟨rfl,rfl⟩)
      rw [← hwp]
      clear hwp
      go_wp2_with (go_at_call 58;refine HRG.out.mono ?_;rintro e w3 ⟨rfl,hb3,hres⟩)
      go_ret
      refine ⟨HBW.out.trans hb3,_,rfl,DResO.plain (by omega) hpr (plain_run hrn) ?_⟩
      rw [hpl,← HWS.out]
      exact hres
     ·have q5:(h0.toList == [114,117,110])=false:=str_no fun e=>hrn (HH0.out.symm.trans e)
      have HPK:Hid (plainL x sl.data.toList (splitF 32 sl.data.toList)=lookR x (lookF sl.data.toList)):=Lib.hid (plain_look hr hth hj hrn)
      have HLP:Hid (∀ k,lookF sl.data.toList=some k→partL (headL sl.data.toList)=4∧2 ≤ k∧k ≤ 7):=Lib.hid fun k hk=>⟨(look_part hk).1,(look_part hk).2.2⟩
      obtain ⟨ok,hok⟩:∃ ok,ok=lookF sl.data.toList:=⟨_,rfl⟩
      rw [← hok] at HLK HPK HLP
      clear hok
      cases ok with
      | none =>
       have hx:DResO B w1 q (n:Int) (.error (9,at_))=DBad w1 q 9 at_:=rfl
       clear hwp hx
       go_wp2_with (first | (go_at_call 52;refine (HLK.out _).mono ?_;rintro e w2 ⟨rfl,rfl⟩) | (go_at_call 56;refine HFA.out.mono ?_;rintro e w3 ⟨rfl,hb3,hbad⟩))
       go_ret
       refine ⟨HBL.out.trans hb3,_,rfl,?_⟩
       rw [oneR_bad hpr HPK.out]
       exact hbad
      | some k =>
       obtain ⟨hp4,hk2,hk7⟩:=HLP.out k rfl
       have q6:decide ((0:Int) < (k:Int))=true:=decide_eq_true (by omega)
       have q7:decide (0 < k)=true:=decide_eq_true (by omega)
       (try simp only [Option.getD_some] at HLK)
       go_upto_region 27 with (go_at_call 52;refine (HLK.out _).mono ?_;rintro e w2 ⟨rfl,rfl⟩)
       rw [← hwp]
       clear hwp
       obtain ⟨i0,hi,hz0,hz1,hz2⟩:=info_parts info_lin
       have hll:L.length ≤ 65535:=by rw [HSP.out.lens.2];exact hlm.lines
       have x9:wp.cell? ⟨q,9,none⟩=some lv:=(HBP.out.cell 9).trans rfl
       have hqp:=HBP.out.lt
       have hc2:∀ u ∈ ([.int .i64 k,.slice none 0 0]:List Value),u.oneCell'=true:=by intro u hu;simp at hu;rcases hu with rfl | rfl <;> rfl
       have hc3:L.length + 1 ≤ maxLen:=by unfold maxLen;omega
       have hc4:(L.length + 1) * 32 ≤ 140737488355328:=by omega
       have hc5:B ≤ (wp.alloc (.cells #[.int .i64 k,.slice none 0 0] 49)).heap.size:=by simp;omega
       have HA:Hid (Below wp.heap.size wp (wp.alloc (.cells #[.int .i64 k,.slice none 0 0] 49))):=Lib.hid ((Below.refl _ _).alloc (Nat.le_refl _) _)
       clear HBL
       have HBL:=HBP
       go_wp2_with (at_builtin;go_must (refine wpList_append_lies _ rfl _ _ 30 rfl B 49 i0 (.agg #[.int .i64 0,.slice none 0 0]) 2 32 Tryz.underlying30 (by assumption) hz0 hz1 hz2 rfl (by decide) lv L.length (rows lnC L) rfl (HSP.out.lines.alloc _) ⟨wp.heap.size,0,none⟩ 1 1 [.int .i64 k,.slice none 0 0] rfl rfl (World.news_of_block (cs:=#[.int .i64 k,.slice none 0 0]) (t:=49) (fr:=(0,0)) (by simpa using heap_alloc_new wp (.cells #[.int .i64 k,.slice none 0 0] 49))) hc2 (by omega) hc3 hc4 hc5 (wp.heap.size + 1) (by simp) ?_;intro gg c' w2 hown2 hg2 hat hlt2;have hR3:=blk_past HBL.out (HSP.out.lines) oth_st.f HA.out hg2;have m6:w2.cell? ⟨q,9,none⟩=some lv:=(hR3.cell 9).trans rfl;have f6:w2.frozen? ⟨q,9,none⟩=false:=hR3.frozen 9;have hl3:=hR3.lt))
       go_ret
       obtain ⟨k1,k2,k3⟩:=HSP.out.put_line HBP.out oth_st hBp hBq HA.out hg2 ⟨k,[]⟩ x.steps (v:=.slice none 0 0) hown2 (World.ownsRow_nil _ _ _ _) (fun q hq=>by cases hq) 9
       refine ⟨HBW.out.trans k3,_,rfl,DResO.plain (by omega) hpr HPK.out ?_⟩
       rw [hp4]
       exact ⟨_,_,_,_,_,_,k1,k2⟩
end Go.Proofs.YtiheggkkgbfndaaGreatDoor
namespace Go.Proofs.YtiheggkkgbfndaaGreatDoor
open Go.RowKit Go.Joins Go.ChangeShapes Go.WideShapes Go.ChangeAt Go.Deep
set_option linter.unusedVariables false
set_option linter.unusedSimpArgs false
theorem own:ownKnob Tryz.prog.godebug=none:=by kernel_rfl
theorem laidOut:laidOutB Tryz.prog=true:=by kernel_rfl


section
variable {H:Type} {enc:TypeId × Value→H} {P:Program} {w:World}

theorem Below.trodAll {ts:List TypeId} {vs:List Value} {ds:List (DataW H)} {p:List MemPlace} (hl:laidOutB P=true) (hr:∀ t ∈ ts,P.readableRec t=true∧t < P.types.size) {W W':World}
  (h:DataW.TrodAll enc P W 0 (fun _=>true) true ts vs ds p) (hb:Below W.heap.size W W') (hlt:∀ x ∈ p,x.block < W.heap.size) :
  DataW.TrodAll enc P W' 0 (fun b=>decide (b < W.heap.size)) true ts vs ds p:=by
 induction ts generalizing vs ds p with
 | nil =>
  obtain ⟨rfl,rfl,rfl⟩:=trodAll_nil h
  exact trodAll_mk0
 | cons t ts ih =>
  obtain ⟨v0,vs0,d0,ds0,p0,q0,rfl,rfl,rfl,h0,r0⟩:=trodAll_cons h
  have ht:=hr t (by simp)
  exact trodAll_cons_mk (Below.trod hl ht.1 ht.2 h0 hb (fun x hx=>hlt x (by simp [hx]))) (ih (fun u hu=>hr u (by simp [hu])) r0 (fun x hx=>hlt x (by simp [hx])))

end
end Go.Proofs.YtiheggkkgbfndaaGreatDoor
namespace Go.Proofs.YtiheggkkgbfndaaGreatDoor
open Go.RowKit Go.Joins Go.ChangeShapes Go.WideShapes Go.Deep
set_option linter.unusedVariables false
set_option linter.unusedSimpArgs false
set_option maxRecDepth 100000
def Reg.cells (r:Reg):List Value:=[.int .i64 r.kind,.int .i64 r.cap]
def sizeI (r:Reg):Int:=if r.kind=1 then r.cap else if r.kind=2 then r.cap + 2 else if r.kind=3 then 3 * r.cap + 1 else 2 * r.cap + 3
def checkF (c:Cfg) (l:List Reg):Int:=if cfgOk c l then 0 else 13

theorem within_any (n a b:Int) (w:World):Calls Tryz.prog 47 #[.int .i64 n,.int .i64 a,.int .i64 b] w fun e w'=>e=.returned (.bool (decide (a ≤ n∧n ≤ b)))∧w=w':=by
 by_cases h1:a ≤ n
 ·by_cases h2:n ≤ b
  ·have hr:decide (a ≤ n∧n ≤ b)=true:=by simp [h1,h2]
   rw [hr]
   go_enter Tryz.func47,Tryz.ntmps47
   go_wp2
   go_ret
   exact ⟨rfl,rfl⟩
  ·have hr:decide (a ≤ n∧n ≤ b)=false:=by simp [h2]
   rw [hr]
   have e2:decide (n ≤ b)=false:=by simp [h2]
   clear hr
   go_enter Tryz.func47,Tryz.ntmps47
   go_wp2
   go_ret
   exact ⟨rfl,rfl⟩
 ·have hr:decide (a ≤ n∧n ≤ b)=false:=by simp [h1]
  rw [hr]
  have e1:decide (a ≤ n)=false:=by simp [h1]
  clear hr
  go_enter Tryz.func47,Tryz.ntmps47
  go_wp2
  go_ret
  exact ⟨rfl,rfl⟩
theorem within64_any (n a b:Int) (w:World):Calls Tryz.prog 48 #[.int .i64 n,.int .i64 a,.int .i64 b] w fun e w'=>e=.returned (.bool (decide (a ≤ n∧n ≤ b)))∧w=w':=by
 by_cases h1:a ≤ n
 ·by_cases h2:n ≤ b
  ·have hr:decide (a ≤ n∧n ≤ b)=true:=by simp [h1,h2]
   rw [hr]
   go_enter Tryz.func48,Tryz.ntmps48
   go_wp2
   go_ret
   exact ⟨rfl,rfl⟩
  ·have hr:decide (a ≤ n∧n ≤ b)=false:=by simp [h2]
   rw [hr]
   have e2:decide (n ≤ b)=false:=by simp [h2]
   clear hr
   go_enter Tryz.func48,Tryz.ntmps48
   go_wp2
   go_ret
   exact ⟨rfl,rfl⟩
 ·have hr:decide (a ≤ n∧n ≤ b)=false:=by simp [h1]
  rw [hr]
  have e1:decide (a ≤ n)=false:=by simp [h1]
  clear hr
  go_enter Tryz.func48,Tryz.ntmps48
  go_wp2
  go_ret
  exact ⟨rfl,rfl⟩

theorem csize_any (m:Int) (w:World) (h0:0 ≤ m) (h1:m ≤ 16):Calls Tryz.prog 82 #[.int .i64 m] w fun e w'=>e=.returned (.int .i64 (m))∧w=w':=by
 have g1:decide (m < 0)=false:=by simp;omega
 have g2:decide (16 < m)=false:=by simp;omega
 go_enter Tryz.func82,Tryz.ntmps82
 go_wp2
 go_ret
 exact ⟨rfl,rfl⟩
theorem qsize_any (m:Int) (w:World) (h0:0 ≤ m) (h1:m ≤ 16):Calls Tryz.prog 83 #[.int .i64 m] w fun e w'=>e=.returned (.int .i64 (m + 2))∧w=w':=by
 have g1:decide (m < 0)=false:=by simp;omega
 have g2:decide (16 < m)=false:=by simp;omega
 go_enter Tryz.func83,Tryz.ntmps83
 go_wp2
 go_ret
 exact ⟨rfl,rfl⟩
theorem dsize_any (m:Int) (w:World) (h0:0 ≤ m) (h1:m ≤ 16):Calls Tryz.prog 84 #[.int .i64 m] w fun e w'=>e=.returned (.int .i64 (3 * m + 1))∧w=w':=by
 have g1:decide (m < 0)=false:=by simp;omega
 have g2:decide (16 < m)=false:=by simp;omega
 go_enter Tryz.func84,Tryz.ntmps84
 go_wp2
 go_ret
 exact ⟨rfl,rfl⟩
theorem hsize_any (m:Int) (w:World) (h0:0 ≤ m) (h1:m ≤ 16):Calls Tryz.prog 85 #[.int .i64 m] w fun e w'=>e=.returned (.int .i64 (2 * m + 3))∧w=w':=by
 have g1:decide (m < 0)=false:=by simp;omega
 have g2:decide (16 < m)=false:=by simp;omega
 go_enter Tryz.func85,Tryz.ntmps85
 go_wp2
 go_ret
 exact ⟨rfl,rfl⟩
theorem right_any (m:Int) (w:World):Calls Tryz.prog 90 #[.int .i64 m] w fun e w'=>e=.returned (.bool (decide (0 ≤ m∧m ≤ 16)))∧w=w':=by
 by_cases h1:0 ≤ m
 ·by_cases h2:m ≤ 16
  ·have hr:decide (0 ≤ m∧m ≤ 16)=true:=by simp [h1,h2]
   rw [hr]
   go_enter Tryz.func90,Tryz.ntmps90
   go_wp2
   go_ret
   exact ⟨rfl,rfl⟩
  ·have hr:decide (0 ≤ m∧m ≤ 16)=false:=by simp [h2]
   rw [hr]
   have e2:decide (m ≤ 16)=false:=by simp [h2]
   clear hr
   go_enter Tryz.func90,Tryz.ntmps90
   go_wp2
   go_ret
   exact ⟨rfl,rfl⟩
 ·have hr:decide (0 ≤ m∧m ≤ 16)=false:=by simp [h1]
  rw [hr]
  have e1:decide (0 ≤ m)=false:=by simp [h1]
  clear hr
  go_enter Tryz.func90,Tryz.ntmps90
  go_wp2
  go_ret
  exact ⟨rfl,rfl⟩

theorem r15size_any (m:Int) (w:World) (h0:0 ≤ m) (h1:m ≤ 16):Calls Tryz.prog 91 #[.int .i64 m] w fun e w'=>e=.returned (.int .i64 (m))∧w=w':=by
 have em:decide (0 ≤ m∧m ≤ 16)=true:=by simp [h0,h1]
 have HR:=right_any m
 rw [em] at HR
 clear em
 go_enter Tryz.func91,Tryz.ntmps91
 go_wp2_with fail
 refine (HR _).mono ?_
 rintro e w2 ⟨rfl,rfl⟩
 go_wp2_with fail
 go_ret
 exact ⟨rfl,rfl⟩
theorem r16size_any (m:Int) (w:World) (h0:0 ≤ m) (h1:m ≤ 16):Calls Tryz.prog 92 #[.int .i64 m] w fun e w'=>e=.returned (.int .i64 (m + 2))∧w=w':=by
 have em:decide (0 ≤ m∧m ≤ 16)=true:=by simp [h0,h1]
 have HR:=right_any m
 rw [em] at HR
 clear em
 go_enter Tryz.func92,Tryz.ntmps92
 go_wp2_with fail
 refine (HR _).mono ?_
 rintro e w2 ⟨rfl,rfl⟩
 go_wp2_with fail
 go_ret
 exact ⟨rfl,rfl⟩
theorem r17size_any (m:Int) (w:World) (h0:0 ≤ m) (h1:m ≤ 16):Calls Tryz.prog 93 #[.int .i64 m] w fun e w'=>e=.returned (.int .i64 (3 * m + 1))∧w=w':=by
 have em:decide (0 ≤ m∧m ≤ 16)=true:=by simp [h0,h1]
 have HR:=right_any m
 rw [em] at HR
 clear em
 go_enter Tryz.func93,Tryz.ntmps93
 go_wp2_with fail
 refine (HR _).mono ?_
 rintro e w2 ⟨rfl,rfl⟩
 go_wp2_with fail
 go_ret
 exact ⟨rfl,rfl⟩
theorem r18size_any (m:Int) (w:World) (h0:0 ≤ m) (h1:m ≤ 16):Calls Tryz.prog 94 #[.int .i64 m] w fun e w'=>e=.returned (.int .i64 (2 * m + 3))∧w=w':=by
 have em:decide (0 ≤ m∧m ≤ 16)=true:=by simp [h0,h1]
 have HR:=right_any m
 rw [em] at HR
 clear em
 go_enter Tryz.func94,Tryz.ntmps94
 go_wp2_with fail
 refine (HR _).mono ?_
 rintro e w2 ⟨rfl,rfl⟩
 go_wp2_with fail
 go_ret
 exact ⟨rfl,rfl⟩
def sizeE (r:Reg):Int:=if regOk r then 0 else 13
def sizeV (r:Reg):Int:=if regOk r then sizeI r else 0

theorem psize_1 (cap:Int) (w:World) (h0:0 ≤ cap) (h1:cap ≤ 16):Calls Tryz.prog 49 #[.agg #[.int .i64 1,.int .i64 cap]] w fun e w'=>e=.returned (.tuple #[.int .i64 (cap),.int .i64 0])∧Below w.heap.size w w':=by
 have em:decide ((0:Int) ≤ cap∧cap ≤ 16)=true:=by simp [h0,h1]
 have HW:=within_any cap 0 16
 rw [em] at HW
 have HK:=within_any 1 1 4
 rw [show decide ((1:Int) ≤ 1∧(1:Int) ≤ 4)=true from by decide] at HK
 clear em
 go_enter Tryz.func49,Tryz.ntmps49
 go_wp2_with fail
 refine (HK _).mono ?_
 rintro e w2 ⟨rfl,rfl⟩
 go_wp2_with fail
 refine (HW _).mono ?_
 rintro e w2 ⟨rfl,rfl⟩
 clear HW HK
 go_wp2_with fail
 go_quiet (exact Calls.quiet_of_same ((csize_any cap _ h0 h1).mono fun _ _ h=>⟨h.1,h.2.symm⟩))
 go_wp2
 go_ret2
 exact ⟨rfl,by repeat (first | with_reducible exact Below.refl _ _ | with_reducible refine Below.drew ?_ | with_reducible refine below_drewN ?_ _ | ((with_reducible refine Below.alloc ?_ ?_ _);(rotate_left;focus (first | with_reducible exact Nat.le_refl _ | omega | (simp;done) | (simp;omega) | (simp [World.setCell];done) | (simp [World.setCell];omega)))) | ((with_reducible refine Below.setCell ?_ ?_ _);(rotate_left;focus (first | with_reducible exact Nat.le_refl _ | omega | (simp;done) | (simp;omega) | (simp [World.setCell];done) | (simp [World.setCell];omega)))))⟩
theorem psize_2 (cap:Int) (w:World) (h0:0 ≤ cap) (h1:cap ≤ 16):Calls Tryz.prog 49 #[.agg #[.int .i64 2,.int .i64 cap]] w fun e w'=>e=.returned (.tuple #[.int .i64 (cap + 2),.int .i64 0])∧Below w.heap.size w w':=by
 have em:decide ((0:Int) ≤ cap∧cap ≤ 16)=true:=by simp [h0,h1]
 have HW:=within_any cap 0 16
 rw [em] at HW
 have HK:=within_any 2 1 4
 rw [show decide ((1:Int) ≤ 2∧(2:Int) ≤ 4)=true from by decide] at HK
 clear em
 go_enter Tryz.func49,Tryz.ntmps49
 go_wp2_with fail
 refine (HK _).mono ?_
 rintro e w2 ⟨rfl,rfl⟩
 go_wp2_with fail
 refine (HW _).mono ?_
 rintro e w2 ⟨rfl,rfl⟩
 clear HW HK
 go_wp2_with fail
 go_quiet (exact Calls.quiet_of_same ((qsize_any cap _ h0 h1).mono fun _ _ h=>⟨h.1,h.2.symm⟩))
 go_wp2
 go_ret2
 exact ⟨rfl,by repeat (first | with_reducible exact Below.refl _ _ | with_reducible refine Below.drew ?_ | with_reducible refine below_drewN ?_ _ | ((with_reducible refine Below.alloc ?_ ?_ _);(rotate_left;focus (first | with_reducible exact Nat.le_refl _ | omega | (simp;done) | (simp;omega) | (simp [World.setCell];done) | (simp [World.setCell];omega)))) | ((with_reducible refine Below.setCell ?_ ?_ _);(rotate_left;focus (first | with_reducible exact Nat.le_refl _ | omega | (simp;done) | (simp;omega) | (simp [World.setCell];done) | (simp [World.setCell];omega)))))⟩
theorem psize_3 (cap:Int) (w:World) (h0:0 ≤ cap) (h1:cap ≤ 16):Calls Tryz.prog 49 #[.agg #[.int .i64 3,.int .i64 cap]] w fun e w'=>e=.returned (.tuple #[.int .i64 (3 * cap + 1),.int .i64 0])∧Below w.heap.size w w':=by
 have em:decide ((0:Int) ≤ cap∧cap ≤ 16)=true:=by simp [h0,h1]
 have HW:=within_any cap 0 16
 rw [em] at HW
 have HK:=within_any 3 1 4
 rw [show decide ((1:Int) ≤ 3∧(3:Int) ≤ 4)=true from by decide] at HK
 clear em
 go_enter Tryz.func49,Tryz.ntmps49
 go_wp2_with fail
 refine (HK _).mono ?_
 rintro e w2 ⟨rfl,rfl⟩
 go_wp2_with fail
 refine (HW _).mono ?_
 rintro e w2 ⟨rfl,rfl⟩
 clear HW HK
 go_wp2_with fail
 go_quiet (exact Calls.quiet_of_same ((dsize_any cap _ h0 h1).mono fun _ _ h=>⟨h.1,h.2.symm⟩))
 go_wp2
 go_ret2
 exact ⟨rfl,by repeat (first | with_reducible exact Below.refl _ _ | with_reducible refine Below.drew ?_ | with_reducible refine below_drewN ?_ _ | ((with_reducible refine Below.alloc ?_ ?_ _);(rotate_left;focus (first | with_reducible exact Nat.le_refl _ | omega | (simp;done) | (simp;omega) | (simp [World.setCell];done) | (simp [World.setCell];omega)))) | ((with_reducible refine Below.setCell ?_ ?_ _);(rotate_left;focus (first | with_reducible exact Nat.le_refl _ | omega | (simp;done) | (simp;omega) | (simp [World.setCell];done) | (simp [World.setCell];omega)))))⟩
theorem psize_4 (cap:Int) (w:World) (h0:0 ≤ cap) (h1:cap ≤ 16):Calls Tryz.prog 49 #[.agg #[.int .i64 4,.int .i64 cap]] w fun e w'=>e=.returned (.tuple #[.int .i64 (2 * cap + 3),.int .i64 0])∧Below w.heap.size w w':=by
 have em:decide ((0:Int) ≤ cap∧cap ≤ 16)=true:=by simp [h0,h1]
 have HW:=within_any cap 0 16
 rw [em] at HW
 have HK:=within_any 4 1 4
 rw [show decide ((1:Int) ≤ 4∧(4:Int) ≤ 4)=true from by decide] at HK
 clear em
 go_enter Tryz.func49,Tryz.ntmps49
 go_wp2_with fail
 refine (HK _).mono ?_
 rintro e w2 ⟨rfl,rfl⟩
 go_wp2_with fail
 refine (HW _).mono ?_
 rintro e w2 ⟨rfl,rfl⟩
 clear HW HK
 go_wp2_with fail
 go_quiet (exact Calls.quiet_of_same ((hsize_any cap _ h0 h1).mono fun _ _ h=>⟨h.1,h.2.symm⟩))
 go_wp2
 go_ret2
 exact ⟨rfl,by repeat (first | with_reducible exact Below.refl _ _ | with_reducible refine Below.drew ?_ | with_reducible refine below_drewN ?_ _ | ((with_reducible refine Below.alloc ?_ ?_ _);(rotate_left;focus (first | with_reducible exact Nat.le_refl _ | omega | (simp;done) | (simp;omega) | (simp [World.setCell];done) | (simp [World.setCell];omega)))) | ((with_reducible refine Below.setCell ?_ ?_ _);(rotate_left;focus (first | with_reducible exact Nat.le_refl _ | omega | (simp;done) | (simp;omega) | (simp [World.setCell];done) | (simp [World.setCell];omega)))))⟩
theorem psize_no (kind cap:Int) (w:World) (hno:¬ regOk ⟨kind,cap⟩):Calls Tryz.prog 49 #[.agg #[.int .i64 kind,.int .i64 cap]] w fun e w'=>e=.returned (.tuple #[.int .i64 0,.int .i64 13])∧Below w.heap.size w w':=by
 by_cases hk:1 ≤ kind∧kind ≤ 4
 ·have hc:¬ (0 ≤ cap∧cap ≤ 16):=fun h=>hno ⟨hk.1,hk.2,h.1,h.2⟩
  have HK:=within_any kind 1 4
  rw [show decide (1 ≤ kind∧kind ≤ 4)=true from by simpa using hk] at HK
  have HW:=within_any cap 0 16
  rw [show decide (0 ≤ cap∧cap ≤ 16)=false from decide_eq_false hc] at HW
  clear hno hk hc
  go_enter Tryz.func49,Tryz.ntmps49
  go_wp2_with fail
  refine (HK _).mono ?_
  rintro e w2 ⟨rfl,rfl⟩
  go_wp2_with fail
  refine (HW _).mono ?_
  rintro e w2 ⟨rfl,rfl⟩
  go_wp2_with fail
  go_ret2
  exact ⟨rfl,by repeat (first | with_reducible exact Below.refl _ _ | with_reducible refine Below.drew ?_ | with_reducible refine below_drewN ?_ _ | ((with_reducible refine Below.alloc ?_ ?_ _);(rotate_left;focus (first | with_reducible exact Nat.le_refl _ | omega | (simp;done) | (simp;omega) | (simp [World.setCell];done) | (simp [World.setCell];omega)))) | ((with_reducible refine Below.setCell ?_ ?_ _);(rotate_left;focus (first | with_reducible exact Nat.le_refl _ | omega | (simp;done) | (simp;omega) | (simp [World.setCell];done) | (simp [World.setCell];omega)))))⟩
 ·have HK:=within_any kind 1 4
  rw [show decide (1 ≤ kind∧kind ≤ 4)=false from decide_eq_false hk] at HK
  clear hno hk
  go_enter Tryz.func49,Tryz.ntmps49
  go_wp2_with fail
  refine (HK _).mono ?_
  rintro e w2 ⟨rfl,rfl⟩
  go_wp2_with fail
  go_ret2
  exact ⟨rfl,by repeat (first | with_reducible exact Below.refl _ _ | with_reducible refine Below.drew ?_ | with_reducible refine below_drewN ?_ _ | ((with_reducible refine Below.alloc ?_ ?_ _);(rotate_left;focus (first | with_reducible exact Nat.le_refl _ | omega | (simp;done) | (simp;omega) | (simp [World.setCell];done) | (simp [World.setCell];omega)))) | ((with_reducible refine Below.setCell ?_ ?_ _);(rotate_left;focus (first | with_reducible exact Nat.le_refl _ | omega | (simp;done) | (simp;omega) | (simp [World.setCell];done) | (simp [World.setCell];omega)))))⟩

theorem psize_any (r:Reg) (w:World):Calls Tryz.prog 49 #[.agg #[.int .i64 r.kind,.int .i64 r.cap]] w fun e w'=>e=.returned (.tuple #[.int .i64 (sizeV r),.int .i64 (sizeE r)])∧Below w.heap.size w w':=by
 obtain ⟨kind,cap⟩:=r
 by_cases hok:regOk ⟨kind,cap⟩
 ·have h:=hok
  obtain ⟨h1,h2,h3,h4⟩:=hok
  simp only at h1 h2 h3 h4
  have e2:sizeE ⟨kind,cap⟩=0:=by simp [sizeE,h]
  have e1:sizeV ⟨kind,cap⟩=sizeI ⟨kind,cap⟩:=by simp [sizeV,h]
  rw [e1,e2]
  clear h e1 e2
  rcases show kind=1 ∨ kind=2 ∨ kind=3 ∨ kind=4 by omega with rfl | rfl | rfl | rfl
  ·exact psize_1 cap w h3 h4
  ·exact psize_2 cap w h3 h4
  ·exact psize_3 cap w h3 h4
  ·exact psize_4 cap w h3 h4
 ·have e2:sizeE ⟨kind,cap⟩=13:=by simp [sizeE,hok]
  have e1:sizeV ⟨kind,cap⟩=0:=by simp [sizeV,hok]
  rw [e1,e2]
  exact psize_no kind cap w hok

theorem rsize_1 (cap:Int) (w:World) (h0:0 ≤ cap) (h1:cap ≤ 16):Calls Tryz.prog 59 #[.agg #[.int .i64 1,.int .i64 cap]] w fun e w'=>e=.returned (.tuple #[.int .i64 (cap),.int .i64 0])∧Below w.heap.size w w':=by
 have HW:=right_any cap
 rw [show decide ((0:Int) ≤ cap∧cap ≤ 16)=true from by simp [h0,h1]] at HW
 go_enter Tryz.func59,Tryz.ntmps59
 go_wp2_with fail
 refine (HW _).mono ?_
 rintro e w2 ⟨rfl,rfl⟩
 clear HW
 go_wp2_with fail
 refine (r15size_any cap _ h0 h1).mono ?_
 rintro e w2 ⟨rfl,rfl⟩
 go_wp2_with fail
 go_ret2
 exact ⟨rfl,by repeat (first | with_reducible exact Below.refl _ _ | with_reducible refine Below.drew ?_ | with_reducible refine below_drewN ?_ _ | ((with_reducible refine Below.alloc ?_ ?_ _);(rotate_left;focus (first | with_reducible exact Nat.le_refl _ | omega | (simp;done) | (simp;omega) | (simp [World.setCell];done) | (simp [World.setCell];omega)))) | ((with_reducible refine Below.setCell ?_ ?_ _);(rotate_left;focus (first | with_reducible exact Nat.le_refl _ | omega | (simp;done) | (simp;omega) | (simp [World.setCell];done) | (simp [World.setCell];omega)))))⟩
theorem rsize_2 (cap:Int) (w:World) (h0:0 ≤ cap) (h1:cap ≤ 16):Calls Tryz.prog 59 #[.agg #[.int .i64 2,.int .i64 cap]] w fun e w'=>e=.returned (.tuple #[.int .i64 (cap + 2),.int .i64 0])∧Below w.heap.size w w':=by
 have HW:=right_any cap
 rw [show decide ((0:Int) ≤ cap∧cap ≤ 16)=true from by simp [h0,h1]] at HW
 go_enter Tryz.func59,Tryz.ntmps59
 go_wp2_with fail
 refine (HW _).mono ?_
 rintro e w2 ⟨rfl,rfl⟩
 clear HW
 go_wp2_with fail
 refine (r16size_any cap _ h0 h1).mono ?_
 rintro e w2 ⟨rfl,rfl⟩
 go_wp2_with fail
 go_ret2
 exact ⟨rfl,by repeat (first | with_reducible exact Below.refl _ _ | with_reducible refine Below.drew ?_ | with_reducible refine below_drewN ?_ _ | ((with_reducible refine Below.alloc ?_ ?_ _);(rotate_left;focus (first | with_reducible exact Nat.le_refl _ | omega | (simp;done) | (simp;omega) | (simp [World.setCell];done) | (simp [World.setCell];omega)))) | ((with_reducible refine Below.setCell ?_ ?_ _);(rotate_left;focus (first | with_reducible exact Nat.le_refl _ | omega | (simp;done) | (simp;omega) | (simp [World.setCell];done) | (simp [World.setCell];omega)))))⟩
theorem rsize_3 (cap:Int) (w:World) (h0:0 ≤ cap) (h1:cap ≤ 16):Calls Tryz.prog 59 #[.agg #[.int .i64 3,.int .i64 cap]] w fun e w'=>e=.returned (.tuple #[.int .i64 (3 * cap + 1),.int .i64 0])∧Below w.heap.size w w':=by
 have HW:=right_any cap
 rw [show decide ((0:Int) ≤ cap∧cap ≤ 16)=true from by simp [h0,h1]] at HW
 go_enter Tryz.func59,Tryz.ntmps59
 go_wp2_with fail
 refine (HW _).mono ?_
 rintro e w2 ⟨rfl,rfl⟩
 clear HW
 go_wp2_with fail
 refine (r17size_any cap _ h0 h1).mono ?_
 rintro e w2 ⟨rfl,rfl⟩
 go_wp2_with fail
 go_ret2
 exact ⟨rfl,by repeat (first | with_reducible exact Below.refl _ _ | with_reducible refine Below.drew ?_ | with_reducible refine below_drewN ?_ _ | ((with_reducible refine Below.alloc ?_ ?_ _);(rotate_left;focus (first | with_reducible exact Nat.le_refl _ | omega | (simp;done) | (simp;omega) | (simp [World.setCell];done) | (simp [World.setCell];omega)))) | ((with_reducible refine Below.setCell ?_ ?_ _);(rotate_left;focus (first | with_reducible exact Nat.le_refl _ | omega | (simp;done) | (simp;omega) | (simp [World.setCell];done) | (simp [World.setCell];omega)))))⟩
theorem rsize_4 (cap:Int) (w:World) (h0:0 ≤ cap) (h1:cap ≤ 16):Calls Tryz.prog 59 #[.agg #[.int .i64 4,.int .i64 cap]] w fun e w'=>e=.returned (.tuple #[.int .i64 (2 * cap + 3),.int .i64 0])∧Below w.heap.size w w':=by
 have HW:=right_any cap
 rw [show decide ((0:Int) ≤ cap∧cap ≤ 16)=true from by simp [h0,h1]] at HW
 go_enter Tryz.func59,Tryz.ntmps59
 go_wp2_with fail
 refine (HW _).mono ?_
 rintro e w2 ⟨rfl,rfl⟩
 clear HW
 go_wp2_with fail
 refine (r18size_any cap _ h0 h1).mono ?_
 rintro e w2 ⟨rfl,rfl⟩
 go_wp2_with fail
 go_ret2
 exact ⟨rfl,by repeat (first | with_reducible exact Below.refl _ _ | with_reducible refine Below.drew ?_ | with_reducible refine below_drewN ?_ _ | ((with_reducible refine Below.alloc ?_ ?_ _);(rotate_left;focus (first | with_reducible exact Nat.le_refl _ | omega | (simp;done) | (simp;omega) | (simp [World.setCell];done) | (simp [World.setCell];omega)))) | ((with_reducible refine Below.setCell ?_ ?_ _);(rotate_left;focus (first | with_reducible exact Nat.le_refl _ | omega | (simp;done) | (simp;omega) | (simp [World.setCell];done) | (simp [World.setCell];omega)))))⟩
theorem rsize_no (kind cap:Int) (w:World) (hno:¬ regOk ⟨kind,cap⟩):Calls Tryz.prog 59 #[.agg #[.int .i64 kind,.int .i64 cap]] w fun e w'=>e=.returned (.tuple #[.int .i64 0,.int .i64 13])∧Below w.heap.size w w':=by
 by_cases hc:0 ≤ cap∧cap ≤ 16
 ·have HW:=right_any cap
  rw [show decide (0 ≤ cap∧cap ≤ 16)=true from by simpa using hc] at HW
  have e1:(kind == 1)=false:=by simp;rintro rfl;exact hno ⟨by simp,by simp,hc.1,hc.2⟩
  have e2:(kind == 2)=false:=by simp;rintro rfl;exact hno ⟨by simp,by simp,hc.1,hc.2⟩
  have e3:(kind == 3)=false:=by simp;rintro rfl;exact hno ⟨by simp,by simp,hc.1,hc.2⟩
  have e4:(kind == 4)=false:=by simp;rintro rfl;exact hno ⟨by simp,by simp,hc.1,hc.2⟩
  clear hno hc
  go_enter Tryz.func59,Tryz.ntmps59
  go_wp2_with fail
  refine (HW _).mono ?_
  rintro e w2 ⟨rfl,rfl⟩
  go_wp2_with fail
  go_ret2
  exact ⟨rfl,by repeat (first | with_reducible exact Below.refl _ _ | with_reducible refine Below.drew ?_ | with_reducible refine below_drewN ?_ _ | ((with_reducible refine Below.alloc ?_ ?_ _);(rotate_left;focus (first | with_reducible exact Nat.le_refl _ | omega | (simp;done) | (simp;omega) | (simp [World.setCell];done) | (simp [World.setCell];omega)))) | ((with_reducible refine Below.setCell ?_ ?_ _);(rotate_left;focus (first | with_reducible exact Nat.le_refl _ | omega | (simp;done) | (simp;omega) | (simp [World.setCell];done) | (simp [World.setCell];omega)))))⟩
 ·have HW:=right_any cap
  rw [show decide (0 ≤ cap∧cap ≤ 16)=false from decide_eq_false hc] at HW
  clear hno hc
  go_enter Tryz.func59,Tryz.ntmps59
  go_wp2_with fail
  refine (HW _).mono ?_
  rintro e w2 ⟨rfl,rfl⟩
  go_wp2_with fail
  go_ret2
  exact ⟨rfl,by repeat (first | with_reducible exact Below.refl _ _ | with_reducible refine Below.drew ?_ | with_reducible refine below_drewN ?_ _ | ((with_reducible refine Below.alloc ?_ ?_ _);(rotate_left;focus (first | with_reducible exact Nat.le_refl _ | omega | (simp;done) | (simp;omega) | (simp [World.setCell];done) | (simp [World.setCell];omega)))) | ((with_reducible refine Below.setCell ?_ ?_ _);(rotate_left;focus (first | with_reducible exact Nat.le_refl _ | omega | (simp;done) | (simp;omega) | (simp [World.setCell];done) | (simp [World.setCell];omega)))))⟩

theorem rsize_any (r:Reg) (w:World):Calls Tryz.prog 59 #[.agg #[.int .i64 r.kind,.int .i64 r.cap]] w fun e w'=>e=.returned (.tuple #[.int .i64 (sizeV r),.int .i64 (sizeE r)])∧Below w.heap.size w w':=by
 obtain ⟨kind,cap⟩:=r
 by_cases hok:regOk ⟨kind,cap⟩
 ·have h:=hok
  obtain ⟨h1,h2,h3,h4⟩:=hok
  simp only at h1 h2 h3 h4
  have e2:sizeE ⟨kind,cap⟩=0:=by simp [sizeE,h]
  have e1:sizeV ⟨kind,cap⟩=sizeI ⟨kind,cap⟩:=by simp [sizeV,h]
  rw [e1,e2]
  clear h e1 e2
  rcases show kind=1 ∨ kind=2 ∨ kind=3 ∨ kind=4 by omega with rfl | rfl | rfl | rfl
  ·exact rsize_1 cap w h3 h4
  ·exact rsize_2 cap w h3 h4
  ·exact rsize_3 cap w h3 h4
  ·exact rsize_4 cap w h3 h4
 ·have e2:sizeE ⟨kind,cap⟩=13:=by simp [sizeE,hok]
  have e1:sizeV ⟨kind,cap⟩=0:=by simp [sizeV,hok]
  rw [e1,e2]
  exact rsize_no kind cap w hok
end Go.Proofs.YtiheggkkgbfndaaGreatDoor
