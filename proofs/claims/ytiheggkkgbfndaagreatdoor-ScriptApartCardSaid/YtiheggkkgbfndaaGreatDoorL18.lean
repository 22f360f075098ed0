/- script: a job's line, walked. -/
import Derived.Test.YtiheggkkgbfndaaGreatDoorL17
import Derived.Test.YtiheggkkgbfndaaGreatDoorL06
import Derived.Test.YtiheggkkgbfndaaGreatDoorL14
import Derived.Laws.RangeAny
import Derived.Test.YtiheggkkgbfndaaGreatDoorL09
import Derived.Deep.QuietTactic
import Derived.BigQuiet
namespace Go.Proofs.YtiheggkkgbfndaaGreatDoor
open Go.RowKit Go.Joins Go.ChangeShapes Go.WideShapes Go.Deep
set_option linter.unusedVariables false
set_option linter.unusedSimpArgs false
set_option maxRecDepth 100000
set_option maxHeartbeats 8000000 in
theorem pjob_any {C:Nat} (B p0 b c:Nat) (s:ByteArray) (a nx:Nat) (ws:List (List UInt8)) (x:SSt) (w:World) (hE:EnvP C w) (hCB:C ≤ B) (hG:PGood B w p0 s a nx x) (hBw:B ≤ w.heap.size) (hBq:B ≤ p0) (hW:WordsAt w w.heap.size b ws) (hws:Brief ws) (hcap:ws.length ≤ c) (hpl:x.set.progs.length ≤ 16) (htl:x.set.thr.length ≤ 8) (hjl:∀ l ∈ x.set.thr,l.length ≤ 32) :
  Calls Tryz.prog 80 #[.pointer (some ⟨p0,0,none⟩),.slice (some ⟨b,0,none⟩) ws.length c] w (PPostL B p0 s a nx (jobR x ws) w):=by
 obtain ⟨rv,pv,tv,lv,T,L,hb,hS⟩:=hG
 have hBF:∀ {w'},Frm w w' (fun z=>z=p0)→Below B w w':=fun h=>below_of_frm h hBw hBq
 obtain ⟨hTl,hLl⟩:=hS.lens
 have x8:w.cell? ⟨p0,11,none⟩=some tv:=(hb.cell 11).trans rfl
 have hql:=hb.lt
 have x1:w.cell? ⟨p0,1,none⟩=some (.int .i64 a):=(hb.cell 1).trans rfl
 have HFA:=Lib.hid (fails_any s p0 a nx x.set.cfg rv pv tv lv x.steps 0 9 a w hb)
 obtain ⟨n,hn⟩:∃ n,n=ws.length:=⟨_,rfl⟩
 rw [← hn]
 by_cases hT:T=[]
 ·subst hT
  have HR:Hid (jobR x ws=.error 9):=Lib.hid (jobR_none (.inl (List.eq_nil_of_length_eq_zero hTl.symm)))
  obtain ⟨R,cR,rfl,_,_⟩:=own_shapes hS.thr
  have x8':w.cell? ⟨p0,11,none⟩=some (.slice R 0 cR):=x8
  clear x8 hS hb hW hws hTl hLl hjl htl
  go_enter Tryz.func80,Tryz.ntmps80
  go_wp2_with (go_at_call 17;refine HFA.out.mono ?_;rintro e w2 ⟨rfl,hF,hB⟩)
  go_end0
  rw [HR.out]
  exact ⟨rfl,hBF hF,_,_,_,_,_,_,_,_,_,hB⟩
 ·obtain ⟨T0,⟨v,js⟩,rfl⟩:∃ T0 y,T=T0 ++ [y]:=⟨T.dropLast,T.getLast hT,(List.dropLast_concat_getLast hT).symm⟩
  obtain ⟨N,hN⟩:∃ N,N=T0.length:=⟨_,rfl⟩
  have hT1:(T0 ++ [(v,js)]).length=N + 1:=by rw [List.length_append,List.length_singleton,hN]
  have hN8:N ≤ 7:=by omega
  have hth:=hS.thr
  rw [hT1] at hth
  obtain ⟨g,cap,rfl,hgB,hgl⟩:=hth.form (by omega)
  have z1:IntKind.i64.wrap ((N:Int) + 1 - 1)=(N:Int):=by rw [IntKind.wrap_i64];omega
  have z2:IntKind.i64.wrap (N:Int)=(N:Int):=by rw [IntKind.wrap_i64];omega
  have z3:decide ((N:Int) < 0)=false:=decide_eq_false (by omega)
  by_cases hl2:ws.length < 2
  ·have HR:Hid (jobR x ws=.error 9):=Lib.hid (jobR_none (.inr hl2))
   have e1:decide ((n:Int) < 2)=true:=decide_eq_true (by omega)
   have e2:decide (n < 2)=true:=decide_eq_true (by omega)
   clear hS hb hW hws hTl hLl hjl htl hth hT hl2 hT1 hn
   go_enter Tryz.func80,Tryz.ntmps80
   go_wp2_with (go_at_call 17;refine HFA.out.mono ?_;rintro e w2 ⟨rfl,hF,hB⟩)
   go_end0
   rw [HR.out]
   exact ⟨rfl,hBF hF,_,_,_,_,_,_,_,_,_,hB⟩
  ·obtain ⟨u,p,rs,rfl⟩:∃ u p rs,ws=u :: p :: rs:=by
    match ws,hl2 with
    | [],h=>exact absurd (by decide) h
    | [_],h=>exact absurd (by simp) h
    | u :: p :: rs,_=>exact ⟨u,p,rs,rfl⟩
   have hRJ:=jobR_eqP (x:=x) (fun h=>by rw [h] at hTl;simp at hTl) u p rs
   have hlen:n=rs.length + 2:=by rw [hn];simp
   have hrz:n ≤ 65536:=by have:=hws.len;rw [← hn] at this;omega
   have e1:decide ((n:Int) < 2)=false:=decide_eq_false (by omega)
   have e2:decide (n < 2)=false:=decide_eq_false (by omega)
   have g1:((1:Int) < (n:Int)):=by omega
   obtain ⟨sp,hsp⟩:∃ sp:ByteArray,sp=⟨p.toArray⟩:=⟨_,rfl⟩
   have hpl2:sp.data.toList=p:=by rw [hsp]
   have c1:w.cell? ⟨b,1,none⟩=some (.string sp):=by rw [hsp];exact hW.cell 1 p rfl
   have hbl:=hW.lt
   have hspz:sp.size ≤ 4294967296:=by
    have h1:sp.size=sp.data.toList.length:=Array.length_toList.symm
    have:=hws.each p (by simp)
    rw [h1,hpl2];omega
   have HN:=Lib.hid (number_fit hE sp hspz 0 9223372036854775807)
   unfold NumberPost at HN
   rw [hpl2] at HN
   have HPO:Hid (∀ v,numIn p 0 9223372036854775807=some v→0 ≤ v):=Lib.hid fun v hv=>by
    unfold numIn at hv
    split at hv
    ·split at hv
     ·rename_i h0
      injection hv with hv
      rw [← hv]
      exact h0.1
     ·cases hv
    ·cases hv
   obtain ⟨on,hon⟩:∃ on,on=numIn p 0 9223372036854775807:=⟨_,rfl⟩
   rw [← hon] at HPO
   obtain ⟨A2,hrun,hA2⟩:=words_cut b n c 2 2 rfl (by omega) (by rw [hn];exact hcap)
   have HA2:=Lib.hid hA2
   have HEN:Hid (∀ W,Below w.heap.size w W→EnvP C W):=Lib.hid fun W hW=>hE.below (hW.mono (Nat.le_trans hCB hBw))
   rw [← hon] at HN hRJ
   have HRJ:=Lib.hid hRJ
   have HWS:=Lib.hid hW
   have HEA:=Lib.hid hws.each
   have HB:=Lib.hid hb
   have HS:=Lib.hid hS
   have HTH:=Lib.hid hth
   have HTN:=Lib.hid hN
   have HLEN:=Lib.hid hlen
   have HJL:Hid (js.length ≤ 32):=Lib.hid (by
    have h1:=hS.thrEq
    have h2:=hjl (js.map (·.1)) (by rw [← h1];simp)
    simpa using h2)
   have HFB:Hid (∀ (y:Nat) (W:World),Below w.heap.size w W→Calls Tryz.prog 17 #[.pointer (some ⟨p0,0,none⟩),.int .i64 y,.int .i64 a] W fun r w'=>r=.returned (.tuple #[])∧Below B w w'∧PBad w' p0 y a):=Lib.hid fun y W hW=>(fails_any s p0 a nx x.set.cfg rv pv _ lv x.steps 0 y a W (HB.out.below hW hql)).mono fun r w' ⟨h1,h2,h3⟩=>⟨h1,(hW.mono hBw).trans (below_of_frm h2 (Nat.le_trans hBw hW.size) hBq),_,_,_,_,_,_,_,_,_,h3⟩
   have HLASTJ:Hid ((x.set.thr.getLast?.getD []).length=js.length):=Lib.hid (by rw [← hS.thrEq];simp)
   clear hRJ hon hpl2 hsp hspz hT hl2 hlen hW hws hb hS hth hT1 hN hLl hTl HFA hBF hn hjl hA2 hE hcap
   go_enter Tryz.func80,Tryz.ntmps80
   go_upto_region 4 with (go_at_call 44;refine HN.out.mono ?_;rintro e w1 ⟨hb1,m,bn,rfl,hbn,hmv⟩;have HB1:=Lib.hid hb1;have HBN:=Lib.hid hbn;have HMV:=Lib.hid hmv;clear hb1 hbn hmv)
   clear c1 HN
   have hbl1:b < w1.heap.size:=Nat.lt_of_lt_of_le hbl HB1.out.size
   have hB1w:=HB1.out.size
   go_upto_region 6 with fail
   obtain ⟨i0,hi,hz0,hz1,hz2⟩:=info_parts info_i64
   obtain ⟨nr,hnr⟩:∃ nr,nr=n - 2:=⟨_,rfl⟩
   rw [← hnr]
   have hnr2:nr=rs.length:=by have:=HLEN.out;omega
   have HNR:=Lib.hid hnr2
   have hnrz:nr ≤ 65536:=by omega
   have HNR2:=Lib.hid hnr
   clear hnr hnr2
   go_loopg [6,7,9,10,11,42] nr (fun gk okv av _ _ _ iv W=>∃ (k:Nat) (A:List Int) (bb:Bool),iv=.int .i64 k∧k ≤ nr∧gk + k=nr∧okv=.bool bb∧Hid (bb=(bn && (argsL (rs.take k)).isSome)∧∀ r,argsL (rs.take k)=some r→r=A)∧A.length=k∧W.ownsRow w.heap.size 2 1 av A.length (rows i64C A)∧Below w.heap.size w W)
   case atStart=>exact ⟨0,[],bn,rfl,Nat.zero_le _,rfl,rfl,Lib.hid ⟨by simp [argsL],fun r hr=>by simpa [argsL] using hr.symm⟩,rfl,World.ownsRow_nil _ _ _ _,HB1.out⟩
   case round =>
    obtain ⟨k,A,bb,rfl,hkn,hgk,rfl,HI,hAl,hown,hbw⟩:=hrel
    have HG:=Lib.hid hgk
    clear hgk
    by_cases hil:k < nr
    ·have e3:decide ((k:Int) < (nr:Int))=true:=decide_eq_true (by omega)
     have e4:decide (k < nr)=true:=decide_eq_true hil
     have e5:(k:Int) < (nr:Int):=by omega
     have hkr:k < rs.length:=by have:=HNR.out;omega
     obtain ⟨sw,hs⟩:∃ s,rs[k]?=some s:=⟨_,List.getElem?_eq_getElem hkr⟩
     obtain ⟨ss,hss⟩:∃ ss:ByteArray,ss=⟨sw.toArray⟩:=⟨_,rfl⟩
     have hsl:ss.data.toList=sw:=by rw [hss]
     have ci:wr.cell? ⟨b,2 + k,none⟩=some (.string ss):=by
      rw [hss]
      exact (HWS.out.below hbw).cell (2 + k) sw (by rw [show 2 + k=k + 2 by omega];simpa using hs)
     have ci2:wr.cell? ⟨b,k + 2,none⟩=some (.string ss):=by rw [Nat.add_comm];exact ci
     have hssz:ss.size ≤ 4294967296:=by
      have h1:ss.size=ss.data.toList.length:=Array.length_toList.symm
      have:=HEA.out sw (List.mem_cons_of_mem _ (List.mem_cons_of_mem _ (List.mem_of_getElem? hs)))
      rw [h1,hsl];omega
     have hbl2:b < wr.heap.size:=Nat.lt_of_lt_of_le hbl hbw.size
     have zw:IntKind.i64.wrap ((k:Int) + 1)=(k:Int) + 1:=by rw [IntKind.wrap_i64];omega
     have HII:=Lib.hid (number_fit (HEN.out wr hbw) ss hssz (-9223372036854775808) 9223372036854775807)
     unfold NumberPost at HII
     rw [hsl] at HII
     have HSS:=Lib.hid hs
     have HBW:=Lib.hid hbw
     have HOW:=Lib.hid hown
     have hs0:=hbw.size
     have hA2':A2=some ⟨b,2,none⟩:=HA2.out (by have:=HNR2.out;omega)
     clear hs hss hsl hssz hkr hbw hown
     subst hA2'
     go_upto_region 9 with (go_at_call 44;refine HII.out.mono ?_;rintro e w2 ⟨hb2,y,b2,rfl,hy1,hy2⟩;have HY:=Lib.hid (And.intro hy1 hy2);have HB2:=Lib.hid hb2;clear hy1 hy2 hb2)
     have hs2:=HB2.out.size
     have HOW2:=Lib.hid (own_beb HOW.out HB2.out)
     have HBW2:Hid (Below w.heap.size w w2):=Lib.hid (HBW.out.trans (HB2.out.mono hs0))
     have hc2:∀ u ∈ ([.int .i64 y]:List Value),u.oneCell'=true:=by intro u hu;simp at hu;subst hu;rfl
     have hc3:A.length + 1 ≤ maxLen:=by unfold maxLen;omega
     have hc4:(A.length + 1) * 8 ≤ 140737488355328:=by omega
     have hc5:w.heap.size ≤ (w2.alloc (.cells #[.int .i64 y] 2)).heap.size:=by simp;omega
     obtain ⟨wq,rfl⟩:∃ wq,wq=w2:=⟨_,rfl⟩
     cases bb
     ·go_wp2_with (at_builtin;go_must (refine wpList_append_own _ rfl _ _ 51 rfl w.heap.size 2 i0 (.int .i64 0) 1 8 Tryz.underlying51 hi hz0 hz1 hz2 rfl (by decide) _ _ _ rfl (HOW2.out.alloc _) ⟨wq.heap.size,0,none⟩ 1 1 [.int .i64 y] rfl rfl (cell_one_new _ _ _) hc2 hc3 hc4 hc5 ?_;intro v' w3 hown2 hgrow2 _))
      go_roundg (nr - (k + 1))
      case measure=>have:=HG.out;omega
      case rel =>
       have hnx:=args_nextP HI.out.1 HI.out.2 HSS.out HY.out.1 HY.out.2
       refine ⟨k + 1,A ++ [y],false,by simp,by omega,by omega,rfl,Lib.hid ⟨by rw [← hnx.1];rfl,hnx.2⟩,by rw [List.length_append,List.length_singleton];omega,?_,(HBW2.out.alloc (by omega) _).trans (below_grown (HOW2.out.alloc _) hgrow2 hc5)⟩
       rw [List.length_append,List.length_singleton,rows_snoc]
       exact hown2
     ·go_wp2_with (at_builtin;go_must (refine wpList_append_own _ rfl _ _ 51 rfl w.heap.size 2 i0 (.int .i64 0) 1 8 Tryz.underlying51 hi hz0 hz1 hz2 rfl (by decide) _ _ _ rfl (HOW2.out.alloc _) ⟨wq.heap.size,0,none⟩ 1 1 [.int .i64 y] rfl rfl (cell_one_new _ _ _) hc2 hc3 hc4 hc5 ?_;intro v' w3 hown2 hgrow2 _))
      go_roundg (nr - (k + 1))
      case measure=>have:=HG.out;omega
      case rel =>
       have hnx:=args_nextP HI.out.1 HI.out.2 HSS.out HY.out.1 HY.out.2
       refine ⟨k + 1,A ++ [y],b2,by simp,by omega,by omega,rfl,Lib.hid ⟨by rw [← hnx.1];rfl,hnx.2⟩,by rw [List.length_append,List.length_singleton];omega,?_,(HBW2.out.alloc (by omega) _).trans (below_grown (HOW2.out.alloc _) hgrow2 hc5)⟩
       rw [List.length_append,List.length_singleton,rows_snoc]
       exact hown2
    ·have e3:decide ((k:Int) < (nr:Int))=false:=decide_eq_false (by omega)
     have e4:decide (k < nr)=false:=decide_eq_false hil
     have htk:rs.take k=rs:=List.take_of_length_le (by have:=HNR.out;omega)
     have hI:=HI.out
     rw [htk] at hI
     have HOW:=Lib.hid hown
     have HBW:=Lib.hid hbw
     have HAL:Hid (A.length=nr):=Lib.hid (by omega)
     have hA64:A.length ≤ 65536:=by omega
     clear hAl
     have hW8:wr.cell? ⟨p0,11,none⟩=some (.slice (some ⟨g,0,none⟩) (N + 1) cap):=(hbw.cell (p:=⟨p0,11,none⟩) hql).trans x8
     have xw1:wr.cell? ⟨p0,1,none⟩=some (.int .i64 a):=(hbw.cell (p:=⟨p0,1,none⟩) hql).trans x1
     have hql2:p0 < wr.heap.size:=Nat.lt_of_lt_of_le hql hbw.size
     have hgl2:g < wr.heap.size:=Nat.lt_of_lt_of_le hgl hbw.size
     obtain ⟨RA,cA,rfl,_,_⟩:=own_shapes hown
     cases bb
     ·have HR:Hid (jobR x (u :: p :: rs)=.error 9):=Lib.hid (by
       rw [HRJ.out]
       have h1:=hI.1
       rw [HBN.out] at h1
       cases ho:on with
       | none=>rfl
       | some n0 =>
        cases ha:argsL rs with
        | none=>rfl
        | some r=>rw [ho,ha] at h1;simp at h1)
      clear hown hbw htk hI HI
      go_wp2_with (go_at_call 17;refine (HFB.out 9 _ HBW.out).mono ?_;rintro e w2 ⟨rfl,hF,hB⟩)
      go_end0
      rw [HR.out]
      exact ⟨rfl,hF,hB⟩
     ·obtain ⟨n0,ho,ha⟩:∃ n0,on=some n0∧argsL rs=some A:=by
       have h1:=hI.1
       rw [HBN.out] at h1
       cases ho:on with
       | none=>rw [ho] at h1;simp at h1
       | some n0 =>
        cases ha:argsL rs with
        | none=>rw [ha] at h1;simp at h1
        | some r=>exact ⟨n0,rfl,by rw [hI.2 r ha]⟩
      have hm0:n0=m:=HMV.out n0 ho
      have hmp:0 ≤ m:=by rw [← hm0];exact HPO.out n0 ho
      obtain ⟨mN,rfl⟩:∃ mN:Nat,m=(mN:Int):=⟨m.toNat,by omega⟩
      have HR0:Hid (jobR x (u :: p :: rs)=jobP x (some (mN:Int)) (some A)):=Lib.hid (by rw [HRJ.out,ho,ha,hm0])
      have hjo:w.ownsRow B 53 2 v js.length (rows jbC js):=HS.out.jobs.own (v,js) (by simp)
      obtain ⟨Rv,cv,rfl,_,_⟩:=own_shapes hjo
      obtain ⟨Rp,cp,rfl,_,_⟩:=own_shapes HS.out.progs
      have x7:wr.cell? ⟨p0,10,none⟩=some (.slice Rp x.set.progs.length cp):=(hbw.cell (p:=⟨p0,10,none⟩) hql).trans ((HB.out.cell 10).trans rfl)
      have hgv:wr.cell? ⟨g,N,none⟩=some (.slice Rv js.length cv):=(hbw.cell (p:=⟨g,N,none⟩) hgl).trans (by
       have h1:=HTH.out.cellAt N (by omega)
       rw [h1,HTN.out]
       rw [rows_val,List.map_append]
       simp)
      clear hown hbw htk hI HI ho ha hm0 hmp
      by_cases h4:4 < A.length
      ·have q1:decide ((4:Int) < (A.length:Int))=true:=decide_eq_true (by omega)
       have q2:decide (4 < A.length)=true:=decide_eq_true h4
       have HR:Hid (jobR x (u :: p :: rs)=.error 2):=Lib.hid (by rw [HR0.out,jobP_some,if_pos (.inl h4)])
       clear h4 hjo
       go_wp2_with (go_at_call 17;refine (HFB.out 2 _ HBW.out).mono ?_;rintro e w2 ⟨rfl,hF,hB⟩)
       go_end0
       rw [HR.out]
       exact ⟨rfl,hF,hB⟩
      ·have q1:decide ((4:Int) < (A.length:Int))=false:=decide_eq_false (by omega)
       have q2:decide (4 < A.length)=false:=decide_eq_false h4
       by_cases h32:js.length=32
       ·have q3:((js.length:Int) == 32)=true:=by simp;omega
        have HR:Hid (jobR x (u :: p :: rs)=.error 2):=Lib.hid (by rw [HR0.out,jobP_some,if_pos (.inr (by rw [HLASTJ.out];exact h32))])
        clear h4 hjo h32
        go_wp2_with (go_at_call 17;refine (HFB.out 2 _ HBW.out).mono ?_;rintro e w2 ⟨rfl,hF,hB⟩)
        go_end0
        rw [HR.out]
        exact ⟨rfl,hF,hB⟩
       ·have q3:((js.length:Int) == 32)=false:=by simp;omega
        have HR1:Hid (jobR x (u :: p :: rs)=if (x.set.progs.length:Int) ≤ (mN:Int) then .error 11 else .ok { x with set:={ x.set with thr:=addJob x.set.thr ⟨mN,A⟩ } }):=Lib.hid (by rw [HR0.out,jobP_some,if_neg (by rw [HLASTJ.out];omega),Int.toNat_natCast])
        by_cases h11:x.set.progs.length ≤ mN
        ·have q4:decide ((x.set.progs.length:Int) ≤ (mN:Int))=true:=decide_eq_true (by omega)
         have q5:decide (x.set.progs.length ≤ mN)=true:=decide_eq_true h11
         have HR:Hid (jobR x (u :: p :: rs)=.error 11):=Lib.hid (by rw [HR1.out,if_pos (by omega)])
         clear h4 hjo h32 h11
         go_wp2_with (go_at_call 17;refine (HFB.out 11 _ HBW.out).mono ?_;rintro e w2 ⟨rfl,hF,hB⟩)
         go_end0
         rw [HR.out]
         exact ⟨rfl,hF,hB⟩
        ·have q4:decide ((x.set.progs.length:Int) ≤ (mN:Int))=false:=decide_eq_false (by omega)
         have q5:decide (x.set.progs.length ≤ mN)=false:=decide_eq_false h11
         have HR:Hid (jobR x (u :: p :: rs)=.ok { x with set:={ x.set with thr:=addJob x.set.thr ⟨mN,A⟩ } }):=Lib.hid (by rw [HR1.out,if_neg (by omega)])
         have hjl:=HJL.out
         clear h4 h32 h11 HR1 HR0
         go_upto_region 12 with fail
         obtain ⟨j0,hj,ha0,ha1,ha2⟩:=info_parts info_job
         have gN:(N:Int) < (N:Int) + 1:=by omega
         have hjoW:=own_keep hjo (w':=wr) fun qq hqq=>HBW.out.block qq (hjo.lt qq hqq).2
         obtain ⟨csg,hbg⟩:=own_blk HTH.out (b:=g) rfl
         have hbgW:Blk wr g 50 csg:=hbg.below HBW.out hgl
         have hng:=own_ne_blk hjoW hbgW (by decide)
         have HCG:Hid (csg[N]?=some (.slice Rv js.length cv)):=Lib.hid ((hbgW.cell N).symm.trans hgv)
         have HGW:=Lib.hid hbgW
         have hnq:=own_ne_blk hjoW (HB.out.below HBW.out hql) oth_rd.d
         have HBQ:=Lib.hid (HB.out.below HBW.out hql)
         have h1c:∀ v ∈ [Value.int .i64 (mN:Int),.slice RA A.length cA],v.oneCell'=true:=by intro v hv;simp at hv;rcases hv with rfl | rfl <;> rfl
         have hc63:js.length + 1 ≤ maxLen:=by unfold maxLen;omega
         have hcb:(js.length + 1) * 32 ≤ 140737488355328:=by omega
         have hBwr:B ≤ wr.heap.size:=Nat.le_trans hBw HBW.out.size
         have HFIN:Hid (∀ (WA w3:World) (gg cap':Nat),WA.grownBy w3 (Value.slice Rv js.length cv).ownBlock→w3.ownsRow B 53 2 (.slice (some ⟨gg,0,none⟩) (js.length + 1) cap') (js.length + 1) (rows jbC js ++ [.int .i64 (mN:Int),.slice RA A.length cA])→((Value.slice Rv js.length cv).ownBlock=some gg ∨ gg=wr.heap.size + 1)→Below wr.heap.size wr WA →
           PPostL B p0 s a nx (.ok { x with set:={ x.set with thr:=addJob x.set.thr ⟨mN,A⟩ } }) w (.returned (.tuple #[])) (w3.setCell ⟨g,N,none⟩ (.slice (some ⟨gg,0,none⟩) (js.length + 1) cap'))):=Lib.hid fun WA w3 gg cap' hg hv hat hA=>by
          obtain ⟨k1,k2,k3⟩:=HS.out.put_job HTN.out (j:=⟨mN,A⟩) (av:=.slice RA A.length cA) HB.out oth_rd hBw hgB HBW.out hA HOW.out hg hv hat
          exact ⟨rfl,k3,_,_,_,_,_,_,k1,k2⟩
         go_region_law
          (refine step_append_lies _ (by rfl) _ _ _ (by rfl) B 53 j0 _ 2 32 Tryz.underlying50 hj ha0 ha1 ha2 rfl (by omega) (.slice Rv js.length cv) js.length (rows jbC js) (by rfl) (show _ from hjoW.alloc _)
            ⟨wr.heap.size,0,none⟩ 1 1 [.int .i64 (mN:Int),.slice RA A.length cA] (by rfl) (by rfl) (World.news_of_block (cs:=#[.int .i64 (mN:Int),.slice RA A.length cA]) (t:=53) (fr:=(0,0)) (heap_alloc_new wr _)) h1c
            (by omega) hc63 hcb (by simp;omega) (wr.heap.size + 1) (by simp) ?_;intro gg cap' w3 hown3 hgrow hat hlt3;have hR3:Blk w3 g 50 csg:=(hgrow.block g (by simp;omega) (fun hh=>hng hh.symm)).trans ((Below.heap_alloc wr _ g hgl2).trans HGW.out);have m4:w3.cell? ⟨g,N,none⟩=some (.slice Rv js.length cv):=(hR3.cell N).trans HCG.out;have f4:w3.frozen? ⟨g,N,none⟩=false:=hR3.frozen N;have hrl3:g < w3.heap.size:=hR3.lt;have hQ3:=(hgrow.block p0 (by simp;omega) (fun hh=>hnq hh.symm)).trans ((Below.heap_alloc wr _ p0 hql2).trans HBQ.out);have m8:w3.cell? ⟨p0,11,none⟩=some (.slice (some ⟨g,0,none⟩) (N + 1) cap):=(Blk.cell hQ3 11).trans rfl;have hql3:p0 < w3.heap.size:=Blk.lt hQ3)
         all_goals go_wp2_with fail
         all_goals go_end0
         all_goals (rw [HR.out])
         all_goals exact HFIN.out _ _ _ _ hgrow hown3 hat (by first | exact ((Below.refl _ _).alloc (Nat.le_refl _) _).drew | exact ((Below.refl _ _).drew.alloc (Nat.le_refl _) _) | exact ((Below.refl _ _).alloc (Nat.le_refl _) _))
def RLinePost (s : ByteArray) (n : Nat) (w : World) (r : Ending) (w' : World) : Prop := w = w' ∧
  ((∃ i, n ≤ i ∧ i < s.size ∧ s.get! i = 10 ∧ (∀ j, n ≤ j → j < i → s.get! j ≠ 10) ∧ r = .returned (.tuple #[.string (s.extract n i), .int .i64 ((i : Int) + 1)])) ∨
   ((∀ j, n ≤ j → j < s.size → s.get! j ≠ 10) ∧ r = .returned (.tuple #[.string ⟨#[]⟩, .int .i64 (-1)])))
set_option maxHeartbeats 2000000 in
theorem rline_any (s:ByteArray) (hs:s.size ≤ 65535) (n:Nat) (hn:n ≤ s.size) (w:World):Calls Tryz.prog 20 #[.string s,.int .i64 n] w (RLinePost s n w):=by
 go_enter Tryz.func20,Tryz.ntmps20
 go_wp2
 go_loopg [6] (s.size - n) (fun gk iv wr=>∃ i:Nat,iv=.int .i64 i∧n ≤ i∧i ≤ s.size∧gk=s.size - i∧wr=w∧∀ j,n ≤ j→j < i→s.get! j ≠ 10)
 case atStart=>exact ⟨n,rfl,Nat.le_refl _,hn,rfl,rfl,fun j h1 h2=>absurd h1 (by omega)⟩
 case round =>
  obtain ⟨i,rfl,hni,hi,hgk,rfl,hno⟩:=hrel
  have HG:=Lib.hid hgk
  have HNO:=Lib.hid hno
  clear hgk hno
  by_cases hil:i < s.size
  ·have e1:decide ((i:Int) < (s.size:Int))=true:=decide_eq_true (by omega)
   have e2:decide (i < s.size)=true:=decide_eq_true hil
   have hgi:s.get! i=s[i]'hil:=by have:=get_at s i hil;rwa [Nat.add_zero] at this
   have zw:IntKind.i64.wrap ((i:Int) + 1)=(i:Int) + 1:=by rw [IntKind.wrap_i64];omega
   by_cases h10:s[i]'hil=10
   ·have q10:(((s[i]'hil).toNat:Int) == 10)=true:=by rw [h10];rfl
    have HT:Hid (s.get! i=10):=Lib.hid (by rw [hgi,h10])
    have i2:(n:Int) ≤ (i:Int):=by omega
    have i3:(i:Int) ≤ (s.size:Int):=by omega
    clear hgi h10
    go_wp2
    go_ret2
    exact ⟨rfl,.inl ⟨i,hni,hil,HT.out,HNO.out,rfl⟩⟩
   ·have q10:(((s[i]'hil).toNat:Int) == 10)=false:=by
     rw [beq_eq_false_iff_ne]
     intro e
     exact h10 (UInt8.toNat_inj.1 (by show _=10;omega))
    have HT:Hid (s.get! i ≠ 10):=Lib.hid (by rw [hgi];exact h10)
    clear hgi h10
    go_wp2
    go_roundg (s.size - (i + 1))
    case measure=>have:=HG.out;omega
    case rel =>
     refine ⟨i + 1,by simp,by omega,by omega,rfl,rfl,fun j h1 h2=>?_⟩
     rcases Nat.lt_or_ge j i with h3 | h3
     ·exact HNO.out j h1 h3
     ·have:j=i:=by omega
      subst this
      exact HT.out
  ·have e1:decide ((i:Int) < (s.size:Int))=false:=decide_eq_false (by omega)
   have e2:decide (i < s.size)=false:=decide_eq_false hil
   go_wp2
   go_ret2
   exact ⟨rfl,.inr ⟨fun j h1 h2=>HNO.out j h1 (by omega),rfl⟩⟩
end Go.Proofs.YtiheggkkgbfndaaGreatDoor
namespace Go.Proofs.YtiheggkkgbfndaaGreatDoor
open Go Go.Lib
set_option linter.unusedVariables false
set_option linter.unusedSimpArgs false
theorem get_list (s:ByteArray) (j:Nat) (h:j < s.size):s.data.toList[j]?=some (s.get! j):=by
 have h1:=get_at s j h
 rw [Nat.add_zero] at h1
 rw [h1,Array.getElem?_toList]
 exact Array.getElem?_eq_getElem h
theorem ext_list (s:ByteArray) (n i:Nat):(s.extract n i).data.toList=(s.data.toList.take i).drop n:=by
 rw [ByteArray.data_extract,Array.toList_extract]
 simp [List.extract,List.drop_take]
theorem nextL_of (s:ByteArray) (n i:Nat) (hni:n ≤ i) (hi:i < s.size) (h10:s.get! i=10) (hb:∀ j,n ≤ j→j < i→s.get! j ≠ 10):nextL (s.data.toList.drop n)=some ((s.extract n i).data.toList,s.data.toList.drop (i + 1)):=by
 have h1:=nextL_at (s.data.toList.drop n) (i - n) (fun j hj he=>by
  rw [List.getElem?_drop,get_list s (n + j) (by omega)] at he
  injection he with he
  exact hb (n + j) (by omega) (by omega) he) (by rw [List.getElem?_drop,show n + (i - n)=i by omega,get_list s i hi,h10])
 rw [h1,ext_list,List.drop_drop,show n + (i - n + 1)=i + 1 by omega,List.take_drop,show n + (i - n)=i by omega]
theorem nextL_no (s:ByteArray) (n:Nat) (hb:∀ j,n ≤ j→j < s.size→s.get! j ≠ 10):nextL (s.data.toList.drop n)=none:=by
 refine nextL_none _ fun j he=>?_
 rw [List.getElem?_drop] at he
 have hlt:n + j < s.size:=by
  have:=(List.getElem?_eq_some_iff.1 he).1
  rw [Array.length_toList] at this
  exact this
 rw [get_list s (n + j) hlt] at he
 injection he with he
 exact hb (n + j) (by omega) hlt he
/-! ### a program's text, line by line -/
theorem bodyL_fuel:∀ (f f':Nat) (t:List UInt8),t.length < f→t.length < f'→bodyL f t=bodyL f' t
 | 0,f',t,h,_=>absurd h (by omega)
 | f + 1,0,t,_,h=>absurd h (by omega)
 | f + 1,f' + 1,t,h,h'=>by
  unfold bodyL
  cases hn:nextL t with
  | none=>rfl
  | some x =>
   obtain ⟨l,r⟩:=x
   have h1:=(nextL_len hn).1
   have h2:r.length < t.length:=by rw [h1,List.length_append,List.length_cons];omega
   simp only
   rw [bodyL_fuel f f' r (by omega) (by omega)]
def bodyG (t:List UInt8):Option (List UInt8 × List UInt8):=bodyL (t.length + 1) t
theorem bodyG_none {t:List UInt8} (h:nextL t=none):bodyG t=none:=by
 unfold bodyG bodyL
 rw [h]
theorem bodyG_end {t r:List UInt8} (h:nextL t=some (wEnd,r)):bodyG t=some ([],r):=by
 unfold bodyG bodyL
 rw [h]
 simp only
 rw [if_pos trivial]
theorem bodyG_line {t l r:List UInt8} (h:nextL t=some (l,r)) (hl:l ≠ wEnd):bodyG t=(bodyG r).map fun x=>(l ++ 10 :: x.1,x.2):=by
 have h1:=(nextL_len h).1
 have h2:r.length < t.length:=by rw [h1,List.length_append,List.length_cons];omega
 unfold bodyG
 rw [bodyL,h]
 simp only
 rw [if_neg hl,bodyL_fuel t.length (r.length + 1) r h2 (by omega)]
/-! ### the lines behind the first, one by one -/
theorem goL_eq (pos part : Nat) (x : SSt) (t : List UInt8) : goL pos part x t = (if t = [] then .ok x else match nextL t with
  | none => .error (9, pos)
  | some (l, r) =>
   if partL ((splitF 32 l).head?.getD []) < part then .error (9, pos)
   else if l = wProgram then
    (if x.set.progs.length = 16 then .error (2, pos) else match bodyG r with
     | none => .error (9, pos + t.length)
     | some (b, r') => match parseF b with
      | .error e => .error (e.1, pos + l.length + 1 + e.2)
      | .ok L => goL (pos + (t.length - r'.length)) (partL ((splitF 32 l).head?.getD [])) { x with set := { x.set with progs := x.set.progs ++ [bytesOf L] } } r')
   else match plainL x l (splitF 32 l) with
    | .error e => .error (e, pos)
    | .ok x' => goL (pos + l.length + 1) (partL ((splitF 32 l).head?.getD [])) x' r) := by
 unfold goL
 rw [goesL]
 by_cases ht : t = []
 ·rw [if_pos ht, if_pos ht]
 ·rw [if_neg ht, if_neg ht]
  cases hn : nextL t with
  | none => rfl
  | some y =>
   obtain ⟨l, r⟩ := y
   have h1 := (nextL_len hn).1
   have h2 : r.length < t.length := by rw [h1, List.length_append, List.length_cons]; omega
   simp only
   split
   ·rfl
   ·split
    ·split
     ·rfl
     ·show (match bodyL (r.length + 1) r with | none => _ | some (b, r') => _) = (match bodyL (r.length + 1) r with | none => _ | some (b, r') => _)
      cases hb : bodyL (r.length + 1) r with
      | none => rfl
      | some z =>
       obtain ⟨b, r'⟩ := z
       have h3 := bodyL_len hb
       simp only
       cases parseF b with
       | error e => rfl
       | ok L => exact goesL_fuel _ _ _ _ _ _ (by omega) (by omega)
    ·cases plainL x l (splitF 32 l) with
     | error e => rfl
     | ok x' => exact goesL_fuel _ _ _ _ _ _ (by omega) (by omega)
theorem parseS_eq (t:List UInt8):parseS t=(if 65535 < t.length then .error (9,65535) else match nextL t with
  | none=>.error (9,0)
  | some (l,r)=>match configL l with
   | none=>.error (9,0)
   | some c=>match goL (l.length + 1) 1 ⟨⟨c,[],[],[]⟩,[],0⟩ r with
    | .error e=>.error e
    | .ok x=>if cfgOk x.set.cfg x.set.regs then .ok x else .error (13,0)):=rfl
end Go.Proofs.YtiheggkkgbfndaaGreatDoor
namespace Go.Proofs.YtiheggkkgbfndaaGreatDoor
open Go.RowKit Go.Joins Go.ChangeShapes Go.WideShapes Go.Deep
set_option linter.unusedVariables false
set_option linter.unusedSimpArgs false
set_option maxRecDepth 100000
def insC (c:Nat) (n:Int) (p:Nat) (nm:Tok):Array Value:=#[.int .i64 c,.int .i64 n,.int .i64 p,.string ⟨nm.s.toArray⟩,.int .i64 nm.pos]
def OprPost (w:World) (b c p:Nat) (t:Tok) (e:Ending) (w':World):Prop:=Frm w w' (fun q=>q=b)∧match oprL c t with
 | .error x=>e=.panicked [{ v:=faultV x t.pos,recovered:=false }]
 | .ok (n,nm)=>e=.returned (.tuple #[])∧Blk w' b 204 (insC c n p nm)
set_option maxHeartbeats 4000000 in
theorem operand_none {B:Nat} {w:World} (hE:EnvP B w) (c:Nat) (hc:c < 41) (p:Nat) (t:Tok) (ht:t.s.length ≤ 4294967296) (b:Nat) (hb:Blk w b 204 (insC c 0 p noTok)) (hnum:numF t.s=none) :
  Calls Tryz.prog 171 #[.pointer (some ⟨b,0,none⟩),.agg #[.string ⟨t.s.toArray⟩,.int .i64 t.pos]] w (OprPost w b c p t):=by
 obtain ⟨s,hs⟩:∃ s:ByteArray,s=⟨t.s.toArray⟩:=⟨_,rfl⟩
 have hsl:s.data.toList=t.s:=by rw [hs]
 have hsz:s.size=t.s.length:=by rw [hs];show t.s.toArray.size=_;simp
 obtain ⟨w0,hw0⟩:∃ w0,w0=w.alloc (.cells #[.string s,.int .i64 t.pos] 202):=⟨_,rfl⟩
 have hb0:Below w.heap.size w w0:=hw0 ▸ (Below.refl _ _).alloc (Nat.le_refl _) _
 have hE0:=hE.below (hb0.mono hE.size)
 have HP:=Lib.hid (pint_any hE0 s (by omega))
 rw [← hs]
 have HS:=Lib.hid hs
 have HSL:=Lib.hid hsl
 have hsz2:s.size ≤ 4294967296:=by omega
 clear hs hsl hsz
 have hblt:=hb.lt
 have hx0:∀ (W:World),Below w.heap.size w W→W.cell? ⟨b,0,none⟩=some (.int .i64 c):=fun W h=>(h.cell (p:=⟨b,0,none⟩) hblt).trans ((hb.cell 0).trans rfl)
 have HX:=Lib.hid hx0
 have HX2:Hid (∀ (W:World),Below w.heap.size w W→Blk W b 204 (insC c 0 p noTok)):=Lib.hid fun W h=>hb.below h hblt
 clear hx0
 have hpn:∀ v,Go.Lib.parseIntB 64 t.s=.ok v→Go.Lib.itoa v ≠ t.s:=fun v h1 h2=>by have:=(prog_num t.s v).1 ⟨h1,h2⟩;rw [hnum] at this;cases this
 cases hl:leadsF c
 ·have HO:Hid (oprL c t=.error 9):=Lib.hid (by unfold oprL;rw [hnum];simp [hl])
  have HL:=Lib.hid (fun W=>leads_any c W)
  rw [hl] at HL
  have HNM:=Lib.hid (fun W=>named_any s (by omega) W)
  clear hl
  by_cases hok:∃ v,Go.Lib.parseIntB 64 s.data.toList=.ok v
  ·obtain ⟨v,hv⟩:=hok
   have hne:Go.Lib.itoa v ≠ t.s:=hpn v (HSL.out ▸ hv)
   have hv64:i64ok v:=by have:=Go.Lib.parseIntB_bounds hv;unfold i64ok;omega
   have HPN:Hid (Calls Tryz.prog 77 #[.string s,.int .i64 10,.int .i64 64] w0 fun e w'=>Below w0.heap.size w0 w'∧e=.returned (.tuple #[.int .i64 v,.nilIface])):=Lib.hid (HP.out.mono fun e w' h=>⟨h.1,by
    rcases h.2 with ⟨v',_,h2,h3⟩ | ⟨h2,_⟩
    ·rw [hv] at h2;injection h2 with h2;rw [h2];exact h3
    ·exact absurd hv (h2 v)⟩)
   have HFI0:=Lib.hid (fun (W:World) (hW:Below w.heap.size w W)=>formatInt_any (hE.below (hW.mono hE.size)).env v hv64)
   obtain ⟨s2,hs2e⟩:∃ s2:ByteArray,s2=⟨(Go.Lib.itoa v).toArray⟩:=⟨_,rfl⟩
   rw [← hs2e] at HFI0
   have HFI:=Lib.hid HFI0.out
   clear HFI0
   have HQ:Hid ((s2.toList == s.toList)=false):=Lib.hid (by
    rw [beq_eq_false_iff_ne,ByteArray.toList_eq,ByteArray.toList_eq,HSL.out,hs2e]
    exact hne)
   clear HP hv hnum hne hs2e hpn hE0
   rw [hw0] at HPN
   clear hw0 hb0
   go_enter Tryz.func171,Tryz.ntmps171
   go_upto_region 2 with (go_at_call 77;refine (HPN.out).mono ?_;rintro e w1 ⟨hb1,rfl⟩)
   have c0:w1.cell? ⟨b,0,none⟩=some (.int .i64 c):=HX.out w1 (((Below.refl _ _).alloc (Nat.le_refl _) _).trans (hb1.mono (by simp)))
   have k0:w1.cell? ⟨w.heap.size,0,none⟩=some (.string s):=(hb1.cell (p:=⟨w.heap.size,0,none⟩) (by simp)).trans (((Blk.new w _ _).cell 0).trans rfl)
   have k1:w1.cell? ⟨w.heap.size,1,none⟩=some (.int .i64 t.pos):=(hb1.cell (p:=⟨w.heap.size,1,none⟩) (by simp)).trans (((Blk.new w _ _).cell 1).trans rfl)
   have hz1:w.heap.size < w1.heap.size:=by have:=hb1.size;simp at this;omega
   have hz2:b < w1.heap.size:=by omega
   have KB1:Hid (Blk w1 w.heap.size 202 #[.string s,.int .i64 t.pos]):=Lib.hid ((Blk.new w _ _).below hb1 (by simp))
   have HB1:Hid (Below w.heap.size w w1):=Lib.hid (((Below.refl _ _).alloc (Nat.le_refl _) _).trans (hb1.mono (by simp)))
   clear hb1
   go_cut [23] from 24 to 65 (fun q wc=>q=.bool true∧Below w.heap.size w wc∧Below w1.heap.size w1 wc)
   case first =>
    go_region_with (go_at_call 70;refine (HFI.out _ (by first | exact HB1.out | exact HB1.out.drew)).mono ?_;rintro e w2 ⟨rfl,hb2⟩;have k0:w2.cell? ⟨w.heap.size,0,none⟩=some (.string s):=(hb2.cell (p:=⟨w.heap.size,0,none⟩) hz1).trans k0;have hz3:w.heap.size < w2.heap.size:=Nat.lt_of_lt_of_le hz1 hb2.size)
    all_goals (go_wp2_with fail)
    all_goals go_meet
    all_goals (refine ⟨?_,HB1.out.drew.trans (hb2.mono (Nat.le_of_lt hz1)),(Below.refl _ _).drew.trans hb2⟩)
    all_goals (show Value.bool (!(s2.toList == s.toList))=_;rw [HQ.out];rfl)
   case rest =>
    obtain ⟨rfl,hbc,hbd⟩:=hcut
    have c0:wc.cell? ⟨b,0,none⟩=some (.int .i64 c):=HX.out wc hbc
    have k0:wc.cell? ⟨w.heap.size,0,none⟩=some (.string s):=(hbd.cell (p:=⟨w.heap.size,0,none⟩) hz1).trans k0
    have k1:wc.cell? ⟨w.heap.size,1,none⟩=some (.int .i64 t.pos):=(hbd.cell (p:=⟨w.heap.size,1,none⟩) hz1).trans k1
    have hz3:w.heap.size < wc.heap.size:=Nat.lt_of_lt_of_le hz1 hbd.size
    have hz4:b < wc.heap.size:=by omega
    have KB:=Lib.hid (KB1.out.below hbd hz1)
    have HB1:=Lib.hid hbc
    clear hbc hbd
    go_wp2_with (first | (go_at_call 67;refine (HL.out _).mono ?_;rintro r w2 ⟨hr,hw⟩;subst hr;subst hw) | (go_at_call 161;refine (HNM.out _).mono ?_;rintro r w2 ⟨hr,hw⟩;subst hr;subst hw) | (go_at_call 139;refine (fail_any _ _ _).mono ?_;rintro r w2 ⟨hr,hw⟩;subst hr;subst hw))
    refine ⟨rfl,Frm.of_below (by first | exact HB1.out | exact below_drewN HB1.out _),?_⟩
    rw [HO.out]
    rfl
  ·have HPN:Hid (Calls Tryz.prog 77 #[.string s,.int .i64 10,.int .i64 64] w0 fun e w'=>Below w0.heap.size w0 w'∧∃ v N,e=.returned (.tuple #[.int .i64 v,.iface 187 (.pointer (some ⟨N,0,none⟩))])):=Lib.hid (HP.out.mono fun e w' h=>⟨h.1,by
    rcases h.2 with ⟨v,_,h2,_⟩ | ⟨_,v,N,h2⟩
    ·exact absurd ⟨v,h2⟩ hok
    ·exact ⟨v,N,h2⟩⟩)
   clear HP hok hnum hpn hE0
   rw [hw0] at HPN
   clear hw0 hb0
   go_enter Tryz.func171,Tryz.ntmps171
   go_upto_region 2 with (go_at_call 77;refine (HPN.out).mono ?_;rintro e w1 ⟨hb1,v,N,rfl⟩)
   have c0:w1.cell? ⟨b,0,none⟩=some (.int .i64 c):=HX.out w1 (((Below.refl _ _).alloc (Nat.le_refl _) _).trans (hb1.mono (by simp)))
   have k0:w1.cell? ⟨w.heap.size,0,none⟩=some (.string s):=(hb1.cell (p:=⟨w.heap.size,0,none⟩) (by simp)).trans (((Blk.new w _ _).cell 0).trans rfl)
   have k1:w1.cell? ⟨w.heap.size,1,none⟩=some (.int .i64 t.pos):=(hb1.cell (p:=⟨w.heap.size,1,none⟩) (by simp)).trans (((Blk.new w _ _).cell 1).trans rfl)
   have hz1:w.heap.size < w1.heap.size:=by have:=hb1.size;simp at this;omega
   have hz2:b < w1.heap.size:=by omega
   have KB1:Hid (Blk w1 w.heap.size 202 #[.string s,.int .i64 t.pos]):=Lib.hid ((Blk.new w _ _).below hb1 (by simp))
   have HB1:Hid (Below w.heap.size w w1):=Lib.hid (((Below.refl _ _).alloc (Nat.le_refl _) _).trans (hb1.mono (by simp)))
   clear hb1
   go_quiet (fail)
   go_wp2_with (first | (go_at_call 67;refine (HL.out _).mono ?_;rintro r w2 ⟨hr,hw⟩;subst hr;subst hw) | (go_at_call 161;refine (HNM.out _).mono ?_;rintro r w2 ⟨hr,hw⟩;subst hr;subst hw) | (go_at_call 139;refine (fail_any _ _ _).mono ?_;rintro r w2 ⟨hr,hw⟩;subst hr;subst hw))
   refine ⟨rfl,Frm.of_below (by first | exact HB1.out | exact below_drewN HB1.out _),?_⟩
   rw [HO.out]
   rfl
 ·have HL:=Lib.hid (fun W=>leads_any c W)
  rw [hl] at HL
  cases hnm:nameF t.s
  ·have HO:Hid (oprL c t=.error 9):=Lib.hid (by unfold oprL;rw [hnum];simp [hl,hnm])
   have HNM0:=Lib.hid (fun W=>named_any s (by omega) W)
   rw [HSL.out,hnm] at HNM0
   have HNM:=Lib.hid HNM0.out
   clear hl hnm HNM0
   by_cases hok:∃ v,Go.Lib.parseIntB 64 s.data.toList=.ok v
   ·obtain ⟨v,hv⟩:=hok
    have hne:Go.Lib.itoa v ≠ t.s:=hpn v (HSL.out ▸ hv)
    have hv64:i64ok v:=by have:=Go.Lib.parseIntB_bounds hv;unfold i64ok;omega
    have HPN:Hid (Calls Tryz.prog 77 #[.string s,.int .i64 10,.int .i64 64] w0 fun e w'=>Below w0.heap.size w0 w'∧e=.returned (.tuple #[.int .i64 v,.nilIface])):=Lib.hid (HP.out.mono fun e w' h=>⟨h.1,by
     rcases h.2 with ⟨v',_,h2,h3⟩ | ⟨h2,_⟩
     ·rw [hv] at h2;injection h2 with h2;rw [h2];exact h3
     ·exact absurd hv (h2 v)⟩)
    have HFI0:=Lib.hid (fun (W:World) (hW:Below w.heap.size w W)=>formatInt_any (hE.below (hW.mono hE.size)).env v hv64)
    obtain ⟨s2,hs2e⟩:∃ s2:ByteArray,s2=⟨(Go.Lib.itoa v).toArray⟩:=⟨_,rfl⟩
    rw [← hs2e] at HFI0
    have HFI:=Lib.hid HFI0.out
    clear HFI0
    have HQ:Hid ((s2.toList == s.toList)=false):=Lib.hid (by
     rw [beq_eq_false_iff_ne,ByteArray.toList_eq,ByteArray.toList_eq,HSL.out,hs2e]
     exact hne)
    clear HP hv hnum hne hs2e hpn hE0
    rw [hw0] at HPN
    clear hw0 hb0
    go_enter Tryz.func171,Tryz.ntmps171
    go_upto_region 2 with (go_at_call 77;refine (HPN.out).mono ?_;rintro e w1 ⟨hb1,rfl⟩)
    have c0:w1.cell? ⟨b,0,none⟩=some (.int .i64 c):=HX.out w1 (((Below.refl _ _).alloc (Nat.le_refl _) _).trans (hb1.mono (by simp)))
    have k0:w1.cell? ⟨w.heap.size,0,none⟩=some (.string s):=(hb1.cell (p:=⟨w.heap.size,0,none⟩) (by simp)).trans (((Blk.new w _ _).cell 0).trans rfl)
    have k1:w1.cell? ⟨w.heap.size,1,none⟩=some (.int .i64 t.pos):=(hb1.cell (p:=⟨w.heap.size,1,none⟩) (by simp)).trans (((Blk.new w _ _).cell 1).trans rfl)
    have hz1:w.heap.size < w1.heap.size:=by have:=hb1.size;simp at this;omega
    have hz2:b < w1.heap.size:=by omega
    have KB1:Hid (Blk w1 w.heap.size 202 #[.string s,.int .i64 t.pos]):=Lib.hid ((Blk.new w _ _).below hb1 (by simp))
    have HB1:Hid (Below w.heap.size w w1):=Lib.hid (((Below.refl _ _).alloc (Nat.le_refl _) _).trans (hb1.mono (by simp)))
    clear hb1
    go_cut [23] from 24 to 65 (fun q wc=>q=.bool true∧Below w.heap.size w wc∧Below w1.heap.size w1 wc)
    case first =>
     go_region_with (go_at_call 70;refine (HFI.out _ (by first | exact HB1.out | exact HB1.out.drew)).mono ?_;rintro e w2 ⟨rfl,hb2⟩;have k0:w2.cell? ⟨w.heap.size,0,none⟩=some (.string s):=(hb2.cell (p:=⟨w.heap.size,0,none⟩) hz1).trans k0;have hz3:w.heap.size < w2.heap.size:=Nat.lt_of_lt_of_le hz1 hb2.size)
     all_goals (go_wp2_with fail)
     all_goals go_meet
     all_goals (refine ⟨?_,HB1.out.drew.trans (hb2.mono (Nat.le_of_lt hz1)),(Below.refl _ _).drew.trans hb2⟩)
     all_goals (show Value.bool (!(s2.toList == s.toList))=_;rw [HQ.out];rfl)
    case rest =>
     obtain ⟨rfl,hbc,hbd⟩:=hcut
     have c0:wc.cell? ⟨b,0,none⟩=some (.int .i64 c):=HX.out wc hbc
     have k0:wc.cell? ⟨w.heap.size,0,none⟩=some (.string s):=(hbd.cell (p:=⟨w.heap.size,0,none⟩) hz1).trans k0
     have k1:wc.cell? ⟨w.heap.size,1,none⟩=some (.int .i64 t.pos):=(hbd.cell (p:=⟨w.heap.size,1,none⟩) hz1).trans k1
     have hz3:w.heap.size < wc.heap.size:=Nat.lt_of_lt_of_le hz1 hbd.size
     have hz4:b < wc.heap.size:=by omega
     have KB:=Lib.hid (KB1.out.below hbd hz1)
     have HB1:=Lib.hid hbc
     clear hbc hbd
     go_wp2_with (first | (go_at_call 67;refine (HL.out _).mono ?_;rintro r w2 ⟨hr,hw⟩;subst hr;subst hw) | (go_at_call 161;refine (HNM.out _).mono ?_;rintro r w2 ⟨hr,hw⟩;subst hr;subst hw) | (go_at_call 139;refine (fail_any _ _ _).mono ?_;rintro r w2 ⟨hr,hw⟩;subst hr;subst hw))
     refine ⟨rfl,Frm.of_below (by first | exact HB1.out | exact below_drewN HB1.out _),?_⟩
     rw [HO.out]
     rfl
   ·have HPN:Hid (Calls Tryz.prog 77 #[.string s,.int .i64 10,.int .i64 64] w0 fun e w'=>Below w0.heap.size w0 w'∧∃ v N,e=.returned (.tuple #[.int .i64 v,.iface 187 (.pointer (some ⟨N,0,none⟩))])):=Lib.hid (HP.out.mono fun e w' h=>⟨h.1,by
     rcases h.2 with ⟨v,_,h2,_⟩ | ⟨_,v,N,h2⟩
     ·exact absurd ⟨v,h2⟩ hok
     ·exact ⟨v,N,h2⟩⟩)
    clear HP hok hnum hpn hE0
    rw [hw0] at HPN
    clear hw0 hb0
    go_enter Tryz.func171,Tryz.ntmps171
    go_upto_region 2 with (go_at_call 77;refine (HPN.out).mono ?_;rintro e w1 ⟨hb1,v,N,rfl⟩)
    have c0:w1.cell? ⟨b,0,none⟩=some (.int .i64 c):=HX.out w1 (((Below.refl _ _).alloc (Nat.le_refl _) _).trans (hb1.mono (by simp)))
    have k0:w1.cell? ⟨w.heap.size,0,none⟩=some (.string s):=(hb1.cell (p:=⟨w.heap.size,0,none⟩) (by simp)).trans (((Blk.new w _ _).cell 0).trans rfl)
    have k1:w1.cell? ⟨w.heap.size,1,none⟩=some (.int .i64 t.pos):=(hb1.cell (p:=⟨w.heap.size,1,none⟩) (by simp)).trans (((Blk.new w _ _).cell 1).trans rfl)
    have hz1:w.heap.size < w1.heap.size:=by have:=hb1.size;simp at this;omega
    have hz2:b < w1.heap.size:=by omega
    have KB1:Hid (Blk w1 w.heap.size 202 #[.string s,.int .i64 t.pos]):=Lib.hid ((Blk.new w _ _).below hb1 (by simp))
    have HB1:Hid (Below w.heap.size w w1):=Lib.hid (((Below.refl _ _).alloc (Nat.le_refl _) _).trans (hb1.mono (by simp)))
    clear hb1
    go_quiet (fail)
    go_wp2_with (first | (go_at_call 67;refine (HL.out _).mono ?_;rintro r w2 ⟨hr,hw⟩;subst hr;subst hw) | (go_at_call 161;refine (HNM.out _).mono ?_;rintro r w2 ⟨hr,hw⟩;subst hr;subst hw) | (go_at_call 139;refine (fail_any _ _ _).mono ?_;rintro r w2 ⟨hr,hw⟩;subst hr;subst hw))
    refine ⟨rfl,Frm.of_below (by first | exact HB1.out | exact below_drewN HB1.out _),?_⟩
    rw [HO.out]
    rfl
  ·have HO:Hid (oprL c t=.ok (0,t)):=Lib.hid (by unfold oprL;rw [hnum];simp [hl,hnm])
   have HNM0:=Lib.hid (fun W=>named_any s (by omega) W)
   rw [HSL.out,hnm] at HNM0
   have HNM:=Lib.hid HNM0.out
   clear hl hnm HNM0
   by_cases hok:∃ v,Go.Lib.parseIntB 64 s.data.toList=.ok v
   ·obtain ⟨v,hv⟩:=hok
    have hne:Go.Lib.itoa v ≠ t.s:=hpn v (HSL.out ▸ hv)
    have hv64:i64ok v:=by have:=Go.Lib.parseIntB_bounds hv;unfold i64ok;omega
    have HPN:Hid (Calls Tryz.prog 77 #[.string s,.int .i64 10,.int .i64 64] w0 fun e w'=>Below w0.heap.size w0 w'∧e=.returned (.tuple #[.int .i64 v,.nilIface])):=Lib.hid (HP.out.mono fun e w' h=>⟨h.1,by
     rcases h.2 with ⟨v',_,h2,h3⟩ | ⟨h2,_⟩
     ·rw [hv] at h2;injection h2 with h2;rw [h2];exact h3
     ·exact absurd hv (h2 v)⟩)
    have HFI0:=Lib.hid (fun (W:World) (hW:Below w.heap.size w W)=>formatInt_any (hE.below (hW.mono hE.size)).env v hv64)
    obtain ⟨s2,hs2e⟩:∃ s2:ByteArray,s2=⟨(Go.Lib.itoa v).toArray⟩:=⟨_,rfl⟩
    rw [← hs2e] at HFI0
    have HFI:=Lib.hid HFI0.out
    clear HFI0
    have HQ:Hid ((s2.toList == s.toList)=false):=Lib.hid (by
     rw [beq_eq_false_iff_ne,ByteArray.toList_eq,ByteArray.toList_eq,HSL.out,hs2e]
     exact hne)
    clear HP hv hnum hne hs2e hpn hE0
    rw [hw0] at HPN
    clear hw0 hb0
    go_enter Tryz.func171,Tryz.ntmps171
    go_upto_region 2 with (go_at_call 77;refine (HPN.out).mono ?_;rintro e w1 ⟨hb1,rfl⟩)
    have c0:w1.cell? ⟨b,0,none⟩=some (.int .i64 c):=HX.out w1 (((Below.refl _ _).alloc (Nat.le_refl _) _).trans (hb1.mono (by simp)))
    have k0:w1.cell? ⟨w.heap.size,0,none⟩=some (.string s):=(hb1.cell (p:=⟨w.heap.size,0,none⟩) (by simp)).trans (((Blk.new w _ _).cell 0).trans rfl)
    have k1:w1.cell? ⟨w.heap.size,1,none⟩=some (.int .i64 t.pos):=(hb1.cell (p:=⟨w.heap.size,1,none⟩) (by simp)).trans (((Blk.new w _ _).cell 1).trans rfl)
    have hz1:w.heap.size < w1.heap.size:=by have:=hb1.size;simp at this;omega
    have hz2:b < w1.heap.size:=by omega
    have KB1:Hid (Blk w1 w.heap.size 202 #[.string s,.int .i64 t.pos]):=Lib.hid ((Blk.new w _ _).below hb1 (by simp))
    have HB1:Hid (Below w.heap.size w w1):=Lib.hid (((Below.refl _ _).alloc (Nat.le_refl _) _).trans (hb1.mono (by simp)))
    clear hb1
    go_cut [23] from 24 to 65 (fun q wc=>q=.bool true∧Below w.heap.size w wc∧Below w1.heap.size w1 wc)
    case first =>
     go_region_with (go_at_call 70;refine (HFI.out _ (by first | exact HB1.out | exact HB1.out.drew)).mono ?_;rintro e w2 ⟨rfl,hb2⟩;have k0:w2.cell? ⟨w.heap.size,0,none⟩=some (.string s):=(hb2.cell (p:=⟨w.heap.size,0,none⟩) hz1).trans k0;have hz3:w.heap.size < w2.heap.size:=Nat.lt_of_lt_of_le hz1 hb2.size)
     all_goals (go_wp2_with fail)
     all_goals go_meet
     all_goals (refine ⟨?_,HB1.out.drew.trans (hb2.mono (Nat.le_of_lt hz1)),(Below.refl _ _).drew.trans hb2⟩)
     all_goals (show Value.bool (!(s2.toList == s.toList))=_;rw [HQ.out];rfl)
    case rest =>
     obtain ⟨rfl,hbc,hbd⟩:=hcut
     have c0:wc.cell? ⟨b,0,none⟩=some (.int .i64 c):=HX.out wc hbc
     have k0:wc.cell? ⟨w.heap.size,0,none⟩=some (.string s):=(hbd.cell (p:=⟨w.heap.size,0,none⟩) hz1).trans k0
     have k1:wc.cell? ⟨w.heap.size,1,none⟩=some (.int .i64 t.pos):=(hbd.cell (p:=⟨w.heap.size,1,none⟩) hz1).trans k1
     have hz3:w.heap.size < wc.heap.size:=Nat.lt_of_lt_of_le hz1 hbd.size
     have hz4:b < wc.heap.size:=by omega
     have KB:=Lib.hid (KB1.out.below hbd hz1)
     have HB1:=Lib.hid hbc
     clear hbc hbd
     have HBX:=HX2.out wc HB1.out
     have x3:(wc).cell? ⟨b,3,none⟩=some (.string ⟨#[]⟩):=(HBX.cell 3).trans rfl
     have x4:(wc).cell? ⟨b,4,none⟩=some (.int .i64 0):=(HBX.cell 4).trans rfl
     have f3:(wc).frozen? ⟨b,3,none⟩=false:=HBX.frozen 3
     have f4:(wc).frozen? ⟨b,4,none⟩=false:=HBX.frozen 4
     have HBY:=Lib.hid HBX
     clear HBX
     go_wp2_with (first | (go_at_call 67;refine (HL.out _).mono ?_;rintro r w2 ⟨hr,hw⟩;subst hr;subst hw) | (go_at_call 161;refine (HNM.out _).mono ?_;rintro r w2 ⟨hr,hw⟩;subst hr;subst hw) | (go_at_call 139;refine (fail_any _ _ _).mono ?_;rintro r w2 ⟨hr,hw⟩;subst hr;subst hw))
     go_end0
     refine ⟨by first | exact ((Frm.of_below (S:=fun q=>q=b) HB1.out).set b 3 _ (.inl rfl)).set b 4 _ (.inl rfl) | exact ((Frm.of_below (S:=fun q=>q=b) (below_drewN HB1.out _)).set b 3 _ (.inl rfl)).set b 4 _ (.inl rfl),?_⟩
     rw [HO.out]
     refine ⟨rfl,?_⟩
     have:=((HBY.out.drewN 0).set_ 3 (.string s)).set_ 4 (.int .i64 t.pos)
     rw [HS.out] at this ⊢
     exact this
   ·have HPN:Hid (Calls Tryz.prog 77 #[.string s,.int .i64 10,.int .i64 64] w0 fun e w'=>Below w0.heap.size w0 w'∧∃ v N,e=.returned (.tuple #[.int .i64 v,.iface 187 (.pointer (some ⟨N,0,none⟩))])):=Lib.hid (HP.out.mono fun e w' h=>⟨h.1,by
     rcases h.2 with ⟨v,_,h2,_⟩ | ⟨_,v,N,h2⟩
     ·exact absurd ⟨v,h2⟩ hok
     ·exact ⟨v,N,h2⟩⟩)
    clear HP hok hnum hpn hE0
    rw [hw0] at HPN
    clear hw0 hb0
    go_enter Tryz.func171,Tryz.ntmps171
    go_upto_region 2 with (go_at_call 77;refine (HPN.out).mono ?_;rintro e w1 ⟨hb1,v,N,rfl⟩)
    have c0:w1.cell? ⟨b,0,none⟩=some (.int .i64 c):=HX.out w1 (((Below.refl _ _).alloc (Nat.le_refl _) _).trans (hb1.mono (by simp)))
    have k0:w1.cell? ⟨w.heap.size,0,none⟩=some (.string s):=(hb1.cell (p:=⟨w.heap.size,0,none⟩) (by simp)).trans (((Blk.new w _ _).cell 0).trans rfl)
    have k1:w1.cell? ⟨w.heap.size,1,none⟩=some (.int .i64 t.pos):=(hb1.cell (p:=⟨w.heap.size,1,none⟩) (by simp)).trans (((Blk.new w _ _).cell 1).trans rfl)
    have hz1:w.heap.size < w1.heap.size:=by have:=hb1.size;simp at this;omega
    have hz2:b < w1.heap.size:=by omega
    have KB1:Hid (Blk w1 w.heap.size 202 #[.string s,.int .i64 t.pos]):=Lib.hid ((Blk.new w _ _).below hb1 (by simp))
    have HB1:Hid (Below w.heap.size w w1):=Lib.hid (((Below.refl _ _).alloc (Nat.le_refl _) _).trans (hb1.mono (by simp)))
    clear hb1
    go_quiet (fail)
    have HBX:=HX2.out w1 HB1.out
    have x3:(w1).cell? ⟨b,3,none⟩=some (.string ⟨#[]⟩):=(HBX.cell 3).trans rfl
    have x4:(w1).cell? ⟨b,4,none⟩=some (.int .i64 0):=(HBX.cell 4).trans rfl
    have f3:(w1).frozen? ⟨b,3,none⟩=false:=HBX.frozen 3
    have f4:(w1).frozen? ⟨b,4,none⟩=false:=HBX.frozen 4
    have HBY:=Lib.hid HBX
    clear HBX
    go_wp2_with (first | (go_at_call 67;refine (HL.out _).mono ?_;rintro r w2 ⟨hr,hw⟩;subst hr;subst hw) | (go_at_call 161;refine (HNM.out _).mono ?_;rintro r w2 ⟨hr,hw⟩;subst hr;subst hw) | (go_at_call 139;refine (fail_any _ _ _).mono ?_;rintro r w2 ⟨hr,hw⟩;subst hr;subst hw))
    go_end0
    refine ⟨by first | exact ((Frm.of_below (S:=fun q=>q=b) HB1.out).set b 3 _ (.inl rfl)).set b 4 _ (.inl rfl) | exact ((Frm.of_below (S:=fun q=>q=b) (below_drewN HB1.out _)).set b 3 _ (.inl rfl)).set b 4 _ (.inl rfl),?_⟩
    rw [HO.out]
    refine ⟨rfl,?_⟩
    have:=((HBY.out.drewN nq).set_ 3 (.string s)).set_ 4 (.int .i64 t.pos)
    rw [HS.out] at this ⊢
    exact this
end Go.Proofs.YtiheggkkgbfndaaGreatDoor
