/- script: a line, walked (one). -/
import Derived.Test.YtiheggkkgbfndaaGreatDoorL15
import Derived.Test.YtiheggkkgbfndaaGreatDoorL18
import Derived.Test.YtiheggkkgbfndaaGreatDoorL28
import Derived.Test.YtiheggkkgbfndaaGreatDoorL29
import Derived.Test.YtiheggkkgbfndaaGreatDoorL30
namespace Go.Proofs.YtiheggkkgbfndaaGreatDoor
open Go.RowKit Go.Joins Go.ChangeShapes Go.WideShapes Go.Deep
set_option linter.unusedVariables false
set_option linter.unusedSimpArgs false
set_option maxRecDepth 100000

def oneP (x:SSt) (s:ByteArray) (at_ n:Nat) (l:List UInt8):Except (Nat × Nat) (SSt × Nat):=if l=wProgram then progR x s at_ n else match plainL x l (splitF 32 l) with
 | .error e=>.error (e,at_)
 | .ok x'=>.ok (x',n)
theorem oneR_part {x:SSt} {part:Nat} {s:ByteArray} {at_ n:Nat} {l:List UInt8} (hp:part ≤ partL (headL l)):oneR x part s at_ n l=match oneP x s at_ n l with
  | .error y=>.error y
  | .ok (x',m)=>.ok (x',partL (headL l),m):=by
 unfold oneR oneP
 rw [if_neg (by omega)]
 by_cases hl:l=wProgram
 ·rw [if_pos hl,if_pos hl]
  cases progR x s at_ n <;> rfl
 ·rw [if_neg hl,if_neg hl]
  cases plainL x l (splitF 32 l) <;> rfl
theorem PResP.plain {B p a n:Nat} {w':World} {x:SSt} {s:ByteArray} {l:List UInt8} {P:Except Nat SSt} (hl:l ≠ wProgram) (hP:plainL x l (splitF 32 l)=P) (h:PResL B w' p s a n P):PResP B w' p s a (oneP x s a n l):=by
 unfold oneP
 rw [if_neg hl,hP]
 cases P with
 | error e=>exact h
 | ok x'=>exact ⟨a,h⟩
theorem PGood.at1 {B:Nat} {w:World} {p:Nat} {s:ByteArray} {a n:Nat} {x:SSt} (h:PGood B w p s a n x):w.cell? ⟨p,1,none⟩=some (.int .i64 a)∧p < w.heap.size:=by
 obtain ⟨rv,pv,tv,lv,T,L,h1,h2⟩:=h
 exact ⟨(h1.cell 1).trans rfl,h1.lt⟩
theorem lookF_at {i:Nat} (hi:i < 6):lookF (looksL.getD i [])=some (i + 2):=by
 revert hi
 revert i
 decide
theorem lookV_at {i:Nat} (hi:i < 6):lookV[i]?=some (.string ⟨(looksL.getD i []).toArray⟩):=by
 match i,hi with
 | 0,_=>rfl
 | 1,_=>rfl
 | 2,_=>rfl
 | 3,_=>rfl
 | 4,_=>rfl
 | 5,_=>rfl
set_option maxHeartbeats 8000000 in
theorem pone_any {C:Nat} (B p b c a n:Nat) (s sl:ByteArray) (hs:s.size ≤ 65535) (hns:n ≤ s.size) (hsl:sl.size ≤ 65535) (x:SSt) (w:World) (hE:EnvP C w) (hCB:C ≤ B) (hG:PGood B w p s a n x) (hBw:B ≤ w.heap.size) (hBp:B ≤ p) (hlm:Lim x 65535)
  (hW:WordsAt w w.heap.size b (splitF 32 sl.data.toList)) (hcap:(splitF 32 sl.data.toList).length ≤ c) :
  Calls Tryz.prog 46 #[.pointer (some ⟨p,0,none⟩),.string sl,.slice (some ⟨b,0,none⟩) (splitF 32 sl.data.toList).length c] w (PPostP B p s a (oneP x s a n sl.data.toList) w):=by
 have hlz:sl.data.toList.length ≤ 65535:=by
  have h1:sl.data.toList.length=sl.size:=Array.length_toList
  omega
 have HBR:=Lib.hid (brief_split hlz)
 obtain ⟨ws,hws⟩:∃ ws,ws=splitF 32 sl.data.toList:=⟨_,rfl⟩
 rw [← hws] at hW hcap HBR ⊢
 obtain ⟨h0,hh0⟩:∃ h0:ByteArray,h0=⟨(headL sl.data.toList).toArray⟩:=⟨_,rfl⟩
 have hh0l:h0.data.toList=headL sl.data.toList:=by rw [hh0]
 have c0:w.cell? ⟨b,0,none⟩=some (.string h0):=by
  rw [hh0]
  refine hW.cell 0 _ ?_
  rw [hws,← List.head?_eq_getElem?,head_some]
 have hwl:0 < ws.length:=by rw [hws,splitF_length];omega
 obtain ⟨m,hm⟩:∃ m,m=ws.length:=⟨_,rfl⟩
 have hm0:(0:Int) < (m:Int):=by omega
 rw [← hm]
 have HWS:=Lib.hid hws
 have HMM:=Lib.hid hm
 have HW:=Lib.hid hW
 have HCAP:=Lib.hid hcap
 have HH0:=Lib.hid hh0l
 have HG:=Lib.hid hG
 have HE:=Lib.hid hE
 have hbl:=hW.lt
 have HFA:Hid (∀ (y:Nat) (W:World),∀ x',PGood B W p s a n x'→B ≤ W.heap.size→Calls Tryz.prog 17 #[.pointer (some ⟨p,0,none⟩),.int .i64 y,.int .i64 a] W fun r w'=>r=.returned (.tuple #[])∧Below B W w'∧PBad w' p y a):=Lib.hid fun y W x' hG' hB'=>by
  obtain ⟨rv,pv,tv,lv,T,L,h1,h2⟩:=hG'
  exact (fails_any s p a n x'.set.cfg rv pv tv lv x'.steps 0 y a W h1).mono fun r w' ⟨g1,g2,g3⟩=>⟨g1,below_of_frm g2 hB' hBp,_,_,_,_,_,_,_,_,_,g3⟩
 clear hws hm hwl hh0 hlz hh0l hW hcap hG hE
 by_cases hr:headL sl.data.toList=wRegion
 ·have q1:(h0.toList == [114,101,103,105,111,110])=true:=str_yes (HH0.out.trans hr)
  have HRG:=Lib.hid (pregion_any B p b c s a n ws x w HE.out hCB HG.out hBw hBp HW.out HBR.out hlm.regs)
  rw [← HMM.out] at HRG
  have hnp:sl.data.toList ≠ wProgram:=fun e=>by rw [e] at hr;exact absurd hr (by decide)
  have HPL:=Lib.hid (plain_region (x:=x) hr)
  rw [← HWS.out] at HPL
  unfold PRegPost at HRG
  unfold regionR at HPL
  obtain ⟨R,hR⟩:∃ R,R=regionL ws:=⟨_,rfl⟩
  rw [← hR] at HRG HPL
  clear hR
  cases R with
  | none =>
   have HPL2:Hid (plainL x sl.data.toList (splitF 32 sl.data.toList)=.error 9):=Lib.hid (by rw [← HWS.out];exact HPL.out)
   go_enter Tryz.func46,Tryz.ntmps46
   go_upto_region 9 with (go_at_call 78;refine HRG.out.mono ?_;rintro e w1 ⟨hb1,rfl,hg1⟩)
   have hB1:B ≤ w1.heap.size:=Nat.le_trans hBw hb1.size
   have HFX:=Lib.hid (HFA.out 9 w1 x hg1 hB1)
   obtain ⟨y1,hpl1⟩:=hg1.at1
   have HB1:=Lib.hid hb1
   clear hg1 hb1
   go_wp2_with (go_at_call 17;refine HFX.out.mono ?_;rintro e w2 ⟨rfl,hF,hB⟩)
   go_end0
   exact ⟨rfl,HB1.out.trans hF,PResP.plain hnp HPL2.out hB⟩
  | some r =>
   have HPL2:Hid (plainL x sl.data.toList (splitF 32 sl.data.toList)=.ok { x with set:={ x.set with regs:=x.set.regs ++ [r] } }):=Lib.hid (by rw [← HWS.out];exact HPL.out)
   go_enter Tryz.func46,Tryz.ntmps46
   go_wp2_with (go_at_call 78;refine HRG.out.mono ?_;rintro e w1 ⟨hb1,rfl,hg1⟩)
   go_end0
   exact ⟨rfl,hb1,PResP.plain hnp HPL2.out hg1⟩
 ·have q1:(h0.toList == [114,101,103,105,111,110])=false:=str_no fun e=>hr (HH0.out.symm.trans e)
  by_cases hpr:sl.data.toList=wProgram
  ·have q2:(sl.toList == [112,114,111,103,114,97,109])=true:=str_yes hpr
   have HPG:=Lib.hid (pprogram_any B p a n s hs hns x w HE.out hCB HG.out hBw hBp hlm.progs)
   have HON:Hid (oneP x s a n sl.data.toList=progR x s a n):=Lib.hid (by unfold oneP;rw [if_pos hpr])
   clear hpr hr
   go_enter Tryz.func46,Tryz.ntmps46
   go_wp2_with (go_at_call 79;refine HPG.out.mono ?_;rintro e w1 ⟨rfl,hb1,hres⟩)
   go_end0
   exact ⟨rfl,hb1,by rw [HON.out];exact hres⟩
  ·have q2:(sl.toList == [112,114,111,103,114,97,109])=false:=str_no hpr
   by_cases hth:sl.data.toList=wThread
   ·have q3:(sl.toList == [116,104,114,101,97,100])=true:=str_yes hth
    have HTH:=Lib.hid hth
    clear hth hr
    obtain ⟨rv,pv,tv,lv,T,L,hbk,hS⟩:=HG.out
    obtain ⟨hTl,_⟩:=hS.lens
    obtain ⟨Rt,ct,rfl,_,_⟩:=own_shapes hS.thr
    have x11:w.cell? ⟨p,11,none⟩=some (.slice Rt T.length ct):=(hbk.cell 11).trans rfl
    have x1:w.cell? ⟨p,1,none⟩=some (.int .i64 a):=(hbk.cell 1).trans rfl
    have hqm:=hbk.lt
    have HS:=Lib.hid hS
    have HBL0:=Lib.hid hbk
    have hT8:T.length ≤ 8:=by rw [hTl];exact hlm.thr
    obtain ⟨i0,hi,hz0,hz1,hz2⟩:=info_parts info_jobs
    have hc2:∀ u ∈ ([.slice none 0 0]:List Value),u.oneCell'=true:=by intro u hu;simp at hu;subst hu;rfl
    have hc3:T.length + 1 ≤ maxLen:=by unfold maxLen;omega
    have hc4:(T.length + 1) * 24 ≤ 140737488355328:=by omega
    by_cases h8:T.length=8
    ·have q4:((T.length:Int) == 8)=true:=by simp;omega
     have HF:=Lib.hid (fails_any s p a n x.set.cfg rv pv (.slice Rt T.length ct) lv x.steps 0 2 a w hbk)
     have HPL:Hid (plainL x sl.data.toList (splitF 32 sl.data.toList)=.error 2):=Lib.hid (by rw [plain_thread HTH.out,if_pos (by rw [← hTl];exact h8)])
     clear hbk hS hTl h8
     go_enter Tryz.func46,Tryz.ntmps46
     go_upto_region 15 with (go_at_call 17;refine HF.out.mono ?_;rintro e wf ⟨rfl,hF,hB⟩)
     have HS2:=Lib.hid (HS.out.frm HBL0.out oth_rd hF)
     have HBL:=Lib.hid hB
     have hBf:B ≤ wf.heap.size:=Nat.le_trans hBw hF.size
     have HBF:Hid (Below B w wf):=Lib.hid (below_of_frm hF hBw hBp)
     have x11':wf.cell? ⟨p,11,none⟩=some (.slice Rt T.length ct):=(hB.cell 11).trans rfl
     have hqf:=hB.lt
     have hc5:B ≤ (wf.alloc (.cells #[.slice none 0 0] 50)).heap.size:=by simp;omega
     have HA:Hid (Below wf.heap.size wf (wf.alloc (.cells #[.slice none 0 0] 50))):=Lib.hid ((Below.refl _ _).alloc (Nat.le_refl _) _)
     clear hF hB
     go_wp2_with (at_builtin;go_must (refine wpList_append_lies _ rfl _ _ 27 rfl B 50 i0 (.slice none 0 0) 1 24 Tryz.underlying27 (by assumption) hz0 hz1 hz2 rfl (by decide) (.slice Rt T.length ct) T.length (rows valC (T.map (·.1))) rfl (HS2.out.thr.alloc _) ⟨wf.heap.size,0,none⟩ 1 1 [.slice none 0 0] rfl rfl (World.news_of_block (cs:=#[.slice none 0 0]) (t:=50) (fr:=(0,0)) (by simpa using heap_alloc_new wf (.cells #[.slice none 0 0] 50))) hc2 (by omega) hc3 hc4 hc5 (wf.heap.size + 1) (by simp) ?_;intro gg c' w2 hown2 hg2 hat hlt2;have hR3:=blk_past HBL.out (HS2.out.thr) oth_rd.c HA.out hg2;have m6:w2.cell? ⟨p,11,none⟩=some (.slice Rt T.length ct):=(hR3.cell 11).trans rfl;have f6:w2.frozen? ⟨p,11,none⟩=false:=hR3.frozen 11;have hl3:=hR3.lt))
     go_end0
     obtain ⟨k1,k2,k3⟩:=HS2.out.put_thread HBL.out oth_rd hBf hBp HA.out hg2 hown2 11
     exact ⟨rfl,HBF.out.trans k3,PResP.plain hpr HPL.out ⟨_,_,_,_,_,_,_,_,_,k1⟩⟩
    ·have q4:((T.length:Int) == 8)=false:=by simp;omega
     have HPL:Hid (plainL x sl.data.toList (splitF 32 sl.data.toList)=.ok { x with set:={ x.set with thr:=x.set.thr ++ [[]] } }):=Lib.hid (by rw [plain_thread HTH.out,if_neg (by rw [← hTl];exact h8)])
     have HBL:=HBL0
     have hc5:B ≤ (w.alloc (.cells #[.slice none 0 0] 50)).heap.size:=by simp;omega
     have HA:Hid (Below w.heap.size w (w.alloc (.cells #[.slice none 0 0] 50))):=Lib.hid ((Below.refl _ _).alloc (Nat.le_refl _) _)
     clear hbk hS hTl h8
     go_enter Tryz.func46,Tryz.ntmps46
     go_wp2_with (at_builtin;go_must (refine wpList_append_lies _ rfl _ _ 27 rfl B 50 i0 (.slice none 0 0) 1 24 Tryz.underlying27 (by assumption) hz0 hz1 hz2 rfl (by decide) (.slice Rt T.length ct) T.length (rows valC (T.map (·.1))) rfl (HS.out.thr.alloc _) ⟨w.heap.size,0,none⟩ 1 1 [.slice none 0 0] rfl rfl (World.news_of_block (cs:=#[.slice none 0 0]) (t:=50) (fr:=(0,0)) (by simpa using heap_alloc_new w (.cells #[.slice none 0 0] 50))) hc2 (by omega) hc3 hc4 hc5 (w.heap.size + 1) (by simp) ?_;intro gg c' w2 hown2 hg2 hat hlt2;have hR3:=blk_past HBL.out (HS.out.thr) oth_rd.c HA.out hg2;have m6:w2.cell? ⟨p,11,none⟩=some (.slice Rt T.length ct):=(hR3.cell 11).trans rfl;have f6:w2.frozen? ⟨p,11,none⟩=false:=hR3.frozen 11;have hl3:=hR3.lt))
     go_end0
     obtain ⟨k1,k2,k3⟩:=HS.out.put_thread HBL.out oth_rd hBw hBp HA.out hg2 hown2 11
     exact ⟨rfl,k3,PResP.plain hpr HPL.out ⟨_,_,_,_,_,_,k1,k2⟩⟩
   ·have q3:(sl.toList == [116,104,114,101,97,100])=false:=str_no hth
    by_cases hj:headL sl.data.toList=wJob
    ·have q4:(h0.toList == [106,111,98])=true:=str_yes (HH0.out.trans hj)
     have HRG:=Lib.hid (pjob_any B p b c s a n ws x w HE.out hCB HG.out hBw hBp HW.out HBR.out HCAP.out hlm.progs hlm.thr hlm.jobs)
     rw [← HMM.out] at HRG
     have HPL:=Lib.hid (plain_job (x:=x) hj)
     clear hj hth hr
     go_enter Tryz.func46,Tryz.ntmps46
     go_wp2_with (go_at_call 80;refine HRG.out.mono ?_;rintro e w1 ⟨rfl,hb1,hres⟩)
     go_end0
     exact ⟨rfl,hb1,PResP.plain hpr HPL.out (by rw [← HWS.out];exact hres)⟩
    ·have q4:(h0.toList == [106,111,98])=false:=str_no fun e=>hj (HH0.out.symm.trans e)
     by_cases hrn:headL sl.data.toList=wRun
     ·have q5:(h0.toList == [114,117,110])=true:=str_yes (HH0.out.trans hrn)
      have HRG:=Lib.hid (prun_any B p b c s a n ws x w HE.out hCB HG.out hBw hBp HW.out HBR.out HCAP.out hlm.lines hlm.steps)
      rw [← HMM.out] at HRG
      have HPL:=Lib.hid (plain_run (x:=x) hrn)
      clear hrn hj hth hr
      go_enter Tryz.func46,Tryz.ntmps46
      go_wp2_with (go_at_call 81;refine HRG.out.mono ?_;rintro e w1 ⟨rfl,hb1,hres⟩)
      go_end0
      exact ⟨rfl,hb1,PResP.plain hpr HPL.out (by rw [← HWS.out];exact hres)⟩
     ·have q5:(h0.toList == [114,117,110])=false:=str_no fun e=>hrn (HH0.out.symm.trans e)
      have HPK:Hid (plainL x sl.data.toList (splitF 32 sl.data.toList)=lookR x (lookF sl.data.toList)):=Lib.hid (plain_look hr hth hj hrn)
      have HPR:=Lib.hid hpr
      obtain ⟨w2,hw2⟩:∃ w2,w2=w.alloc (.cells lookV 9):=⟨_,rfl⟩
      obtain ⟨kb,hkb⟩:∃ kb,kb=w.heap.size:=⟨_,rfl⟩
      have HK2:Hid (Blk w2 kb 9 lookV):=Lib.hid (by rw [hw2,hkb];exact Blk.new _ _ _)
      have HB2:Hid (Below w.heap.size w w2):=Lib.hid (hw2 ▸ (Below.refl _ _).alloc (Nat.le_refl _) _)
      clear hrn hj hth hr hpr
      go_enter Tryz.func46,Tryz.ntmps46
      go_upto_region 1 with (go_at_call 33;refine (looks_any _).mono ?_;rintro e w1 ⟨rfl,rfl⟩)
      rw [← hw2,← hkb]
      clear hw2 hkb
      have hG2:=HG.out.below HB2.out
      have hB2:B ≤ w2.heap.size:=Nat.le_trans hBw HB2.out.size
      have hkbl:=HK2.out.lt
      have HG2:=Lib.hid hG2
      obtain ⟨y1,hpl2⟩:=hG2.at1
      clear hG2
      go_loopg [6,7,10] 6 (fun gk _ _ iv W=>∃ i:Nat,iv=.int .i64 i∧i ≤ 6∧gk + i=6∧Hid (∀ j,j < i→looksL.getD j [] ≠ sl.data.toList)∧W=w2)
      case atStart=>exact ⟨0,rfl,by omega,rfl,Lib.hid fun j hj=>absurd hj (by omega),rfl⟩
      case round =>
       obtain ⟨i,rfl,hi5,hgk,HNO,rfl⟩:=hrel
       obtain ⟨wq,rfl⟩:∃ w0,w0=wr:=⟨_,rfl⟩
       have HGK:=Lib.hid hgk
       clear hgk
       by_cases hil:i < 6
       ·have e1:decide ((i:Int) < 6)=true:=decide_eq_true (by omega)
        have e2:decide (i < 6)=true:=decide_eq_true hil
        have e3:(i:Int) < 6:=by omega
        obtain ⟨kk,hkk⟩:∃ kk:ByteArray,kk=⟨(looksL.getD i []).toArray⟩:=⟨_,rfl⟩
        have hkkl:kk.data.toList=looksL.getD i []:=by rw [hkk]
        have ck:wq.cell? ⟨kb,i,none⟩=some (.string kk):=by rw [hkk];exact (HK2.out.cell i).trans (lookV_at hil)
        have zw:IntKind.i64.wrap ((i:Int) + 1)=(i:Int) + 1:=by rw [IntKind.wrap_i64];omega
        obtain ⟨k2,hk2⟩:∃ k2,k2=i + 2:=⟨_,rfl⟩
        have zw2:IntKind.i64.wrap (2 + (i:Int))=(k2:Int):=by rw [IntKind.wrap_i64];omega
        have HKK:=Lib.hid hkkl
        have HK22:=Lib.hid hk2
        clear hkk hkkl hk2
        by_cases heq:looksL.getD i []=sl.data.toList
        ·have q6:(kk.toList == sl.toList)=true:=by rw [beq_iff_eq,ByteArray.toList_eq,ByteArray.toList_eq,HKK.out];exact heq
         have HLF:Hid (lookF sl.data.toList=some k2):=Lib.hid (by rw [← heq,lookF_at hil,HK22.out])
         have HPL:Hid (plainL x sl.data.toList (splitF 32 sl.data.toList)=.ok { x with lines:=x.lines ++ [⟨k2,[]⟩] }):=Lib.hid (by rw [HPK.out,HLF.out];rfl)
         obtain ⟨rv,pv,tv,lv,T,L,hbk,hS⟩:=HG2.out
         have HS:=Lib.hid hS
         have HBL:=Lib.hid hbk
         have hll:L.length ≤ 65535:=by rw [hS.lens.2];exact hlm.lines
         have x12:wq.cell? ⟨p,12,none⟩=some lv:=(hbk.cell 12).trans rfl
         obtain ⟨i0,hi,hz0,hz1,hz2⟩:=info_parts info_lin
         have hc2:∀ u ∈ ([.int .i64 (k2:Int),.slice none 0 0]:List Value),u.oneCell'=true:=by intro u hu;simp at hu;rcases hu with rfl | rfl <;> rfl
         have hc3:L.length + 1 ≤ maxLen:=by unfold maxLen;omega
         have hc4:(L.length + 1) * 32 ≤ 140737488355328:=by omega
         have hc5:B ≤ (wq.alloc (.cells #[.int .i64 (k2:Int),.slice none 0 0] 49)).heap.size:=by simp;omega
         have HA:Hid (Below wq.heap.size wq (wq.alloc (.cells #[.int .i64 (k2:Int),.slice none 0 0] 49))):=Lib.hid ((Below.refl _ _).alloc (Nat.le_refl _) _)
         have HBB:Hid (Below B w wq):=Lib.hid (HB2.out.mono hBw)
         clear hS hbk heq
         go_wp2_with (at_builtin;go_must (refine wpList_append_lies _ rfl _ _ 30 rfl B 49 i0 (.agg #[.int .i64 0,.slice none 0 0]) 2 32 Tryz.underlying30 (by assumption) hz0 hz1 hz2 rfl (by decide) lv L.length (rows lnC L) rfl (HS.out.lines.alloc _) ⟨wq.heap.size,0,none⟩ 1 1 [.int .i64 (k2:Int),.slice none 0 0] rfl rfl (World.news_of_block (cs:=#[.int .i64 (k2:Int),.slice none 0 0]) (t:=49) (fr:=(0,0)) (by simpa using heap_alloc_new wq (.cells #[.int .i64 (k2:Int),.slice none 0 0] 49))) hc2 (by omega) hc3 hc4 hc5 (wq.heap.size + 1) (by simp) ?_;intro gg c' w2 hown2 hg2 hat hlt2;have hR3:=blk_past HBL.out (HS.out.lines) oth_rd.f HA.out hg2;have m6:w2.cell? ⟨p,12,none⟩=some lv:=(hR3.cell 12).trans rfl;have f6:w2.frozen? ⟨p,12,none⟩=false:=hR3.frozen 12;have hl3:=hR3.lt))
         go_end0
         obtain ⟨g1,g2,g3⟩:=HS.out.put_line HBL.out oth_rd hB2 hBp HA.out hg2 ⟨k2,[]⟩ x.steps (v:=.slice none 0 0) hown2 (World.ownsRow_nil _ _ _ _) (fun q hq=>by cases hq) 12
         exact ⟨rfl,HBB.out.trans g3,PResP.plain HPR.out HPL.out ⟨_,_,_,_,_,_,g1,g2⟩⟩
        ·have q6:(kk.toList == sl.toList)=false:=by rw [beq_eq_false_iff_ne,ByteArray.toList_eq,ByteArray.toList_eq,HKK.out];exact heq
         have HEQ:=Lib.hid heq
         clear heq
         go_wp2
         go_roundg (6 - (i + 1))
         case measure=>have:=HGK.out;omega
         case rel =>
          refine ⟨i + 1,by simp,by omega,by omega,Lib.hid fun j hj=>?_,rfl⟩
          rcases Nat.lt_or_ge j i with h1 | h1
          ·exact HNO.out j h1
          ·have:j=i:=by omega
           subst this
           exact HEQ.out
       ·have e1:decide ((i:Int) < 6)=false:=decide_eq_false (by omega)
        have e2:decide (i < 6)=false:=decide_eq_false hil
        have HPL:Hid (plainL x sl.data.toList (splitF 32 sl.data.toList)=.error 9):=Lib.hid (by rw [HPK.out,lookF_none fun j hj=>HNO.out j (by omega)];rfl)
        have HFX:=Lib.hid (HFA.out 9 wq x HG2.out hB2)
        have HBB:Hid (Below B w wq):=Lib.hid (HB2.out.mono hBw)
        go_wp2_with (go_at_call 17;refine HFX.out.mono ?_;rintro e w3 ⟨rfl,hF,hB⟩)
        go_end0
        exact ⟨rfl,HBB.out.trans hF,PResP.plain HPR.out HPL.out hB⟩
end Go.Proofs.YtiheggkkgbfndaaGreatDoor
