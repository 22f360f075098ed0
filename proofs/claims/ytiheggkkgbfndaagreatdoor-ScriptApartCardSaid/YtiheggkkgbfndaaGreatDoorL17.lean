/- carouselref24: a job's line. -/
import Derived.Test.YtiheggkkgbfndaaGreatDoorL14
import Derived.Test.YtiheggkkgbfndaaGreatDoorL16
import Derived.Test.YtiheggkkgbfndaaGreatDoorL15
namespace Go.Proofs.YtiheggkkgbfndaaGreatDoor
open Go.RowKit Go.Joins Go.ChangeShapes Go.WideShapes Go.Deep
set_option linter.unusedVariables false
set_option linter.unusedSimpArgs false
set_option maxRecDepth 100000
theorem rows_val:∀ l:List Value,rows valC l=l
 | []=>rfl
 | v :: l=>by
  show [v] ++ rows valC l=_
  rw [rows_val l]
  rfl
def jobR (x:SSt) (ws:List (List UInt8)):Except Nat SSt:=match jobL x.set ws with
 | .ok s=>.ok { x with set:=s }
 | .error e=>.error e
def jobO (x:SSt):Option Nat→Option (List Int)→Except Nat SSt
 | some n,some args=>if 4 < args.length ∨ (x.set.thr.getLast?.getD []).length=32 then .error 2 else if x.set.progs.length ≤ n then .error 11 else .ok { x with set:={ x.set with thr:=addJob x.set.thr ⟨n,args⟩ } }
 | _,_=>.error 9
theorem jobO_some (x:SSt) (n:Nat) (args:List Int):jobO x (some n) (some args)=if 4 < args.length ∨ (x.set.thr.getLast?.getD []).length=32 then .error 2 else if x.set.progs.length ≤ n then .error 11 else .ok { x with set:={ x.set with thr:=addJob x.set.thr ⟨n,args⟩ } }:=rfl
theorem jobR_none {x:SSt} {ws:List (List UInt8)} (h:x.set.thr=[] ∨ ws.length < 2):jobR x ws=.error 9:=by
 unfold jobR jobL
 match ws,h with
 | [],_=>rfl
 | [_],_=>rfl
 | _ :: _ :: _,h =>
  have:x.set.thr=[]:=by
   rcases h with h | h
   ·exact h
   ·simp at h
    omega
  simp [this]
theorem jobR_eq {x:SSt} (h:x.set.thr ≠ []) (u p:List UInt8) (rs:List (List UInt8)):jobR x (u :: p :: rs)=jobO x (natF p) (argsL rs):=by
 unfold jobR jobL
 have h1:x.set.thr.isEmpty=false:=by
  cases hx:x.set.thr with
  | nil=>exact absurd hx h
  | cons _ _=>rfl
 simp only [h1,Bool.false_eq_true,if_false]
 rw [numIn_natF]
 cases natF p with
 | none=>rfl
 | some n =>
  cases argsL rs with
  | none=>rfl
  | some args =>
   simp only [Option.map_some,jobO]
   by_cases h4:4 < args.length ∨ (x.set.thr.getLast?.getD []).length=32
   ·rw [if_pos h4,if_pos h4]
   ·rw [if_neg h4,if_neg h4]
    by_cases hn:x.set.progs.length ≤ n
    ·rw [if_pos hn,if_pos (by omega)]
    ·rw [if_neg hn,if_neg (by omega)]
     rfl
theorem argsL_next_yes {rs:List (List UInt8)} {i:Nat} {s:List UInt8} {r:List Int} {n:Int} (h:rs[i]?=some s) (h1:argsL (rs.take i)=some r) (h2:numF s=some n):argsL (rs.take (i + 1))=some (r ++ [n]):=by
 rw [take_snoc rs i s h,argsL_snoc,numIn_all,h1,h2]
theorem argsL_next_no {rs:List (List UInt8)} {i:Nat} {s:List UInt8} (h:rs[i]?=some s) (h1:argsL (rs.take i)=none ∨ numF s=none):argsL (rs.take (i + 1))=none:=by
 rw [take_snoc rs i s h,argsL_snoc,numIn_all]
 rcases h1 with h1 | h1
 ·rw [h1]
 ·rw [h1]
  cases argsL (rs.take i) <;> rfl
theorem args_next {bn bb b2:Bool} {rs:List (List UInt8)} {k:Nat} {s:List UInt8} {A:List Int} {y:Int} (h1:bb=(bn && (argsL (rs.take k)).isSome)) (h2:∀ r,argsL (rs.take k)=some r→r=A) (hs:rs[k]?=some s)
  (hb2:b2=(numF s).isSome) (hy:∀ m,numF s=some m→m=y):(bb && b2)=(bn && (argsL (rs.take (k + 1))).isSome)∧∀ r,argsL (rs.take (k + 1))=some r→r=A ++ [y]:=by
 cases ha:argsL (rs.take k) with
 | none =>
  rw [argsL_next_no hs (.inl ha)]
  rw [ha] at h1
  refine ⟨by rw [h1];simp,fun r hr=>by cases hr⟩
 | some r =>
  have:=h2 r ha
  subst this
  cases hn:numF s with
  | none =>
   rw [argsL_next_no hs (.inr hn)]
   rw [hn] at hb2
   exact ⟨by rw [hb2];simp,fun r hr=>by cases hr⟩
  | some m =>
   have:=hy m hn
   subst this
   rw [argsL_next_yes hs ha hn]
   rw [hn] at hb2
   rw [ha] at h1
   exact ⟨by rw [h1,hb2];simp,fun r hr=>by injection hr with hr;exact hr.symm⟩
set_option maxHeartbeats 4000000 in
theorem rjob_any (B q part at_ b c:Nat) (ws:List (List UInt8)) (x:SSt) (w:World) (hG:DGood B w q part x) (hBw:B ≤ w.heap.size) (hBq:B ≤ q) (hW:WordsAt w w.heap.size b ws) (hws:Brief ws) (hpl:x.set.progs.length ≤ 16) (htl:x.set.thr.length ≤ 8) (hjl:∀ l ∈ x.set.thr,l.length ≤ 32) :
  Calls Tryz.prog 57 #[.pointer (some ⟨q,0,none⟩),.slice (some ⟨b,0,none⟩) ws.length c,.int .i64 at_] w (DPost' B q part at_ (jobR x ws) w):=by
 obtain ⟨rv,pv,tv,lv,T,L,hb,hS⟩:=hG
 have hBF:∀ {w'},Frm w w' (fun z=>z=q)→Below B w w':=fun h=>below_of_frm h hBw hBq
 obtain ⟨hTl,hLl⟩:=hS.lens
 have x8:w.cell? ⟨q,8,none⟩=some tv:=(hb.cell 8).trans rfl
 have hql:=hb.lt
 have HFA:=Lib.hid (rfails_any q x.set.cfg rv pv tv lv 0 0 part x.steps 9 at_ w hb)
 obtain ⟨n,hn⟩:∃ n,n=ws.length:=⟨_,rfl⟩
 rw [← hn]
 by_cases hT:T=[]
 ·subst hT
  have HR:Hid (jobR x ws=.error 9):=Lib.hid (jobR_none (.inl (List.eq_nil_of_length_eq_zero hTl.symm)))
  obtain ⟨R,cR,rfl,_,_⟩:=own_shapes hS.thr
  have x8':w.cell? ⟨q,8,none⟩=some (.slice R 0 cR):=x8
  clear x8 hS hb hW hws hTl hLl hjl htl
  go_enter Tryz.func57,Tryz.ntmps57
  go_wp2_with (go_at_call 56;refine HFA.out.mono ?_;rintro e w2 ⟨rfl,hF,hB⟩)
  go_end0
  rw [HR.out]
  exact ⟨rfl,hBF hF,_,_,_,_,_,_,_,hB⟩
 ·obtain ⟨T0,⟨v,js⟩,rfl⟩:∃ T0 y,T=T0 ++ [y]:=⟨T.dropLast,T.getLast hT,(List.dropLast_concat_getLast hT).symm⟩
  obtain ⟨N,hN⟩:∃ N,N=T0.length:=⟨_,rfl⟩
  have hT1:(T0 ++ [(v,js)]).length=N + 1:=by rw [List.length_append,List.length_singleton,hN]
  have hN8:N ≤ 7:=by omega
  have hth:=hS.thr
  rw [hT1] at hth
  obtain ⟨g,cap,rfl,hgB,hgl⟩:=hth.form (by omega)
  have z1:IntKind.i64.wrap ((N:Int) + 1 - 1)=(N:Int):=by rw [IntKind.wrap_i64];omega
  have z2:IntKind.i64.wrap (N:Int)=(N:Int):=by rw [IntKind.wrap_i64];omega
  have z3:decide ((N:Int) < 0)=false:=decide_eq_false (by omega)
  by_cases hl2:ws.length < 2
  ·have HR:Hid (jobR x ws=.error 9):=Lib.hid (jobR_none (.inr hl2))
   have e1:decide ((n:Int) < 2)=true:=decide_eq_true (by omega)
   have e2:decide (n < 2)=true:=decide_eq_true (by omega)
   clear hS hb hW hws hTl hLl hjl htl hth hT hl2 hT1 hn
   go_enter Tryz.func57,Tryz.ntmps57
   go_wp2_with (go_at_call 56;refine HFA.out.mono ?_;rintro e w2 ⟨rfl,hF,hB⟩)
   go_end0
   rw [HR.out]
   exact ⟨rfl,hBF hF,_,_,_,_,_,_,_,hB⟩
  ·obtain ⟨u,p,rs,rfl⟩:∃ u p rs,ws=u :: p :: rs:=by
    match ws,hl2 with
    | [],h=>exact absurd (by decide) h
    | [_],h=>exact absurd (by simp) h
    | u :: p :: rs,_=>exact ⟨u,p,rs,rfl⟩
   have hRJ:=jobR_eq (x:=x) (fun h=>by rw [h] at hTl;simp at hTl) u p rs
   have hlen:n=rs.length + 2:=by rw [hn];simp
   have hrz:n ≤ 65536:=by have:=hws.len;rw [← hn] at this;omega
   have e1:decide ((n:Int) < 2)=false:=decide_eq_false (by omega)
   have e2:decide (n < 2)=false:=decide_eq_false (by omega)
   have g1:((1:Int) < (n:Int)):=by omega
   obtain ⟨sp,hsp⟩:∃ sp:ByteArray,sp=⟨p.toArray⟩:=⟨_,rfl⟩
   have hpl2:sp.data.toList=p:=by rw [hsp]
   have c1:w.cell? ⟨b,1,none⟩=some (.string sp):=by rw [hsp];exact hW.cell 1 p rfl
   have hbl:=hW.lt
   have hspz:sp.size ≤ 4294967296:=by
    have h1:sp.size=sp.data.toList.length:=Array.length_toList.symm
    have:=hws.each p (by simp)
    rw [h1,hpl2];omega
   have HN:=Lib.hid (rNumber_any sp w hspz)
   unfold NatPost at HN
   rw [hpl2] at HN
   obtain ⟨on,hon⟩:∃ on,on=natF p:=⟨_,rfl⟩
   rw [← hon] at HN hRJ
   have HRJ:=Lib.hid hRJ
   have HWS:=Lib.hid hW
   have HEA:=Lib.hid hws.each
   have HB:=Lib.hid hb
   have HS:=Lib.hid hS
   have HTH:=Lib.hid hth
   have HTN:=Lib.hid hN
   have HLEN:=Lib.hid hlen
   have HJL:Hid (js.length ≤ 32):=Lib.hid (by
    have h1:=hS.thrEq
    have h2:=hjl (js.map (·.1)) (by rw [← h1];simp)
    simpa using h2)
   have HFB:Hid (∀ (y:Nat) (W:World),Below w.heap.size w W→Calls Tryz.prog 56 #[.pointer (some ⟨q,0,none⟩),.int .i64 y,.int .i64 at_] W fun r w'=>r=.returned (.tuple #[])∧Below B w w'∧DBad w' q y at_):=Lib.hid fun y W hW=>(rfails_any q x.set.cfg rv pv _ lv 0 0 part x.steps y at_ W (HB.out.below hW hql)).mono fun r w' ⟨h1,h2,h3⟩=>⟨h1,(hW.mono hBw).trans (below_of_frm h2 (Nat.le_trans hBw hW.size) hBq),_,_,_,_,_,_,_,h3⟩
   have HLASTJ:Hid ((x.set.thr.getLast?.getD []).length=js.length):=Lib.hid (by rw [← hS.thrEq];simp)
   clear hRJ hon hpl2 hsp hspz hT hl2 hlen hW hws hb hS hth hT1 hN hLl hTl HFA hBF hn hjl
   go_enter Tryz.func57,Tryz.ntmps57
   go_upto_region 4 with (go_at_call 51;refine HN.out.mono ?_;rintro e w1 ⟨hw,m,hm64,rfl,hmv⟩;obtain rfl:=hw.symm)
   obtain ⟨bn,hbn⟩:∃ bn,bn=on.isSome:=⟨_,rfl⟩
   rw [← hbn]
   have HMV:=Lib.hid (And.intro hm64 hmv)
   have HBN:=Lib.hid hbn
   clear hbn hmv hm64 c1 HN
   go_upto_region 6 with fail
   obtain ⟨i0,hi,hz0,hz1,hz2⟩:=info_parts info_i64
   go_loopg [8,9,10,11,12] n (fun gk okv av iv _ _ W=>∃ (i:Nat) (A:List Int) (bb:Bool),iv=.int .i64 i∧2 ≤ i∧i ≤ n∧gk + i=n + 2∧okv=.bool bb∧Hid (bb=(bn && (argsL (rs.take (i - 2))).isSome)∧∀ r,argsL (rs.take (i - 2))=some r→r=A)∧A.length + 2=i∧W.ownsRow w.heap.size 2 1 av A.length (rows i64C A)∧Below w.heap.size w W)
   case atStart=>exact ⟨2,[],bn,rfl,Nat.le_refl _,by have:=HLEN.out;omega,rfl,rfl,Lib.hid ⟨by simp [argsL],fun r hr=>by simpa [argsL] using hr.symm⟩,rfl,World.ownsRow_nil _ _ _ _,Below.refl _ _⟩
   case round =>
    obtain ⟨i,A,bb,rfl,h2i,hin,hgk,rfl,HI,hAl,hown,hbw⟩:=hrel
    have HG:=Lib.hid hgk
    clear hgk
    by_cases hil:i < n
    ·have e3:decide ((i:Int) < (n:Int))=true:=decide_eq_true (by omega)
     have e4:decide (i < n)=true:=decide_eq_true hil
     obtain ⟨k,hk⟩:∃ k,i=k + 2:=⟨i - 2,by omega⟩
     have hkr:k < rs.length:=by have:=HLEN.out;omega
     obtain ⟨s,hs⟩:∃ s,rs[k]?=some s:=⟨_,List.getElem?_eq_getElem hkr⟩
     obtain ⟨ss,hss⟩:∃ ss:ByteArray,ss=⟨s.toArray⟩:=⟨_,rfl⟩
     have hsl:ss.data.toList=s:=by rw [hss]
     have ci:wr.cell? ⟨b,i,none⟩=some (.string ss):=by
      rw [hss]
      exact (HWS.out.below hbw).cell i s (by rw [hk];simpa using hs)
     have hssz:ss.size ≤ 4294967296:=by
      have h1:ss.size=ss.data.toList.length:=Array.length_toList.symm
      have:=HEA.out s (List.mem_cons_of_mem _ (List.mem_cons_of_mem _ (List.mem_of_getElem? hs)))
      rw [h1,hsl];omega
     have hbl2:b < wr.heap.size:=Nat.lt_of_lt_of_le hbl hbw.size
     have zw:IntKind.i64.wrap ((i:Int) + 1)=(i:Int) + 1:=by rw [IntKind.wrap_i64];omega
     have HII:=Lib.hid (rInteger_any ss hssz wr)
     unfold IntegerPost at HII
     rw [hsl] at HII
     have HK:=Lib.hid hk
     have HSS:=Lib.hid hs
     have HBW:=Lib.hid hbw
     have HOW:=Lib.hid hown
     have hs0:=hbw.size
     clear hk hs hss hsl hssz hkr hbw hown
     go_upto_region 9 with (go_at_call 88;refine HII.out.mono ?_;rintro e w1 ⟨hw,y,b2,rfl,hb2,hy⟩;obtain rfl:=hw.symm;have HY:=Lib.hid (And.intro hb2 hy);clear hb2 hy)
     have hc2:∀ u ∈ ([.int .i64 y]:List Value),u.oneCell'=true:=by intro u hu;simp at hu;subst hu;rfl
     have hc3:A.length + 1 ≤ maxLen:=by unfold maxLen;omega
     have hc4:(A.length + 1) * 8 ≤ 140737488355328:=by omega
     have hc5:w.heap.size ≤ (wr.alloc (.cells #[.int .i64 y] 2)).heap.size:=by simp;omega
     cases bb
     ·go_wp2_with (at_builtin;go_must (refine wpList_append_own _ rfl _ _ 51 rfl w.heap.size 2 i0 (.int .i64 0) 1 8 Tryz.underlying51 hi hz0 hz1 hz2 rfl (by decide) _ _ _ rfl (HOW.out.alloc _) ⟨wr.heap.size,0,none⟩ 1 1 [.int .i64 y] rfl rfl (cell_one_new _ _ _) hc2 hc3 hc4 hc5 ?_;intro v' w2 hown2 hgrow2 _))
      go_roundg (n + 2 - (i + 1))
      case measure=>have:=HG.out;omega
      case rel =>
       have hk:=HK.out
       subst hk
       have hI:=HI.out
       rw [show k + 2 - 2=k by omega] at hI
       have hnx:=args_next hI.1 hI.2 HSS.out HY.out.1 HY.out.2
       refine ⟨k + 2 + 1,A ++ [y],false,by simp,by omega,by omega,by omega,rfl,Lib.hid ⟨by rw [show k + 2 + 1 - 2=k + 1 by omega,← hnx.1];rfl,by rw [show k + 2 + 1 - 2=k + 1 by omega];exact hnx.2⟩,by rw [List.length_append,List.length_singleton];omega,?_,(HBW.out.alloc hs0 _).trans (below_grown (HOW.out.alloc _) hgrow2 hc5)⟩
       rw [List.length_append,List.length_singleton,rows_snoc]
       exact hown2
     ·go_wp2_with (at_builtin;go_must (refine wpList_append_own _ rfl _ _ 51 rfl w.heap.size 2 i0 (.int .i64 0) 1 8 Tryz.underlying51 hi hz0 hz1 hz2 rfl (by decide) _ _ _ rfl (HOW.out.alloc _) ⟨wr.heap.size,0,none⟩ 1 1 [.int .i64 y] rfl rfl (cell_one_new _ _ _) hc2 hc3 hc4 hc5 ?_;intro v' w2 hown2 hgrow2 _))
      go_roundg (n + 2 - (i + 1))
      case measure=>have:=HG.out;omega
      case rel =>
       have hk:=HK.out
       subst hk
       have hI:=HI.out
       rw [show k + 2 - 2=k by omega] at hI
       have hnx:=args_next hI.1 hI.2 HSS.out HY.out.1 HY.out.2
       refine ⟨k + 2 + 1,A ++ [y],b2,by simp,by omega,by omega,by omega,rfl,Lib.hid ⟨by rw [show k + 2 + 1 - 2=k + 1 by omega,← hnx.1];rfl,by rw [show k + 2 + 1 - 2=k + 1 by omega];exact hnx.2⟩,by rw [List.length_append,List.length_singleton];omega,?_,(HBW.out.alloc hs0 _).trans (below_grown (HOW.out.alloc _) hgrow2 hc5)⟩
       rw [List.length_append,List.length_singleton,rows_snoc]
       exact hown2
    ·have e3:decide ((i:Int) < (n:Int))=false:=decide_eq_false (by omega)
     have e4:decide (i < n)=false:=decide_eq_false hil
     have hie:i=n:=by omega
     have htk:rs.take (i - 2)=rs:=List.take_of_length_le (by have:=HLEN.out;omega)
     have hI:=HI.out
     rw [htk] at hI
     have HOW:=Lib.hid hown
     have HBW:=Lib.hid hbw
     have HAL:Hid (A.length + 2=n):=Lib.hid (by omega)
     have hW8:wr.cell? ⟨q,8,none⟩=some (.slice (some ⟨g,0,none⟩) (N + 1) cap):=(hbw.cell (p:=⟨q,8,none⟩) hql).trans x8
     have hql2:q < wr.heap.size:=Nat.lt_of_lt_of_le hql hbw.size
     have hgl2:g < wr.heap.size:=Nat.lt_of_lt_of_le hgl hbw.size
     obtain ⟨RA,cA,rfl,_,_⟩:=own_shapes hown
     cases bb
     ·have HR:Hid (jobR x (u :: p :: rs)=.error 9):=Lib.hid (by
       rw [HRJ.out]
       have h1:=hI.1
       rw [HBN.out] at h1
       cases ho:on with
       | none=>rfl
       | some n0 =>
        cases ha:argsL rs with
        | none=>rfl
        | some r=>rw [ho,ha] at h1;simp at h1)
      clear hown hbw htk hie hI HI
      go_wp2_with (go_at_call 56;refine (HFB.out 9 _ HBW.out).mono ?_;rintro e w2 ⟨rfl,hF,hB⟩)
      go_end0
      rw [HR.out]
      exact ⟨rfl,hF,hB⟩
     ·obtain ⟨n0,ho,ha⟩:∃ n0,on=some n0∧argsL rs=some A:=by
       have h1:=hI.1
       rw [HBN.out] at h1
       cases ho:on with
       | none=>rw [ho] at h1;simp at h1
       | some n0 =>
        cases ha:argsL rs with
        | none=>rw [ha] at h1;simp at h1
        | some r=>exact ⟨n0,rfl,by rw [hI.2 r ha]⟩
      have hm0:n0=m:=HMV.out.2 n0 ho
      have HR0:Hid (jobR x (u :: p :: rs)=jobO x (some m) (some A)):=Lib.hid (by rw [HRJ.out,ho,ha,hm0])
      have hjo:w.ownsRow B 53 2 v js.length (rows jbC js):=HS.out.jobs.own (v,js) (by simp)
      obtain ⟨Rv,cv,rfl,_,_⟩:=own_shapes hjo
      obtain ⟨Rp,cp,rfl,_,_⟩:=own_shapes HS.out.progs
      have x7:wr.cell? ⟨q,7,none⟩=some (.slice Rp x.set.progs.length cp):=(hbw.cell (p:=⟨q,7,none⟩) hql).trans ((HB.out.cell 7).trans rfl)
      have hgv:wr.cell? ⟨g,N,none⟩=some (.slice Rv js.length cv):=(hbw.cell (p:=⟨g,N,none⟩) hgl).trans (by
       have h1:=HTH.out.cellAt N (by omega)
       rw [h1,HTN.out]
       rw [rows_val,List.map_append]
       simp)
      clear hown hbw htk hie hI HI ho ha hm0
      by_cases h4:4 < A.length
      ·have q1:decide ((4:Int) < (A.length:Int))=true:=decide_eq_true (by omega)
       have q2:decide (4 < A.length)=true:=decide_eq_true h4
       have HR:Hid (jobR x (u :: p :: rs)=.error 2):=Lib.hid (by rw [HR0.out,jobO_some,if_pos (.inl h4)])
       clear h4 hjo
       go_wp2_with (go_at_call 56;refine (HFB.out 2 _ HBW.out).mono ?_;rintro e w2 ⟨rfl,hF,hB⟩)
       go_end0
       rw [HR.out]
       exact ⟨rfl,hF,hB⟩
      ·have q1:decide ((4:Int) < (A.length:Int))=false:=decide_eq_false (by omega)
       have q2:decide (4 < A.length)=false:=decide_eq_false h4
       by_cases h32:js.length=32
       ·have q3:((js.length:Int) == 32)=true:=by simp;omega
        have HR:Hid (jobR x (u :: p :: rs)=.error 2):=Lib.hid (by rw [HR0.out,jobO_some,if_pos (.inr (by rw [HLASTJ.out];exact h32))])
        clear h4 hjo h32
        go_wp2_with (go_at_call 56;refine (HFB.out 2 _ HBW.out).mono ?_;rintro e w2 ⟨rfl,hF,hB⟩)
        go_end0
        rw [HR.out]
        exact ⟨rfl,hF,hB⟩
       ·have q3:((js.length:Int) == 32)=false:=by simp;omega
        have HR1:Hid (jobR x (u :: p :: rs)=if x.set.progs.length ≤ m then .error 11 else .ok { x with set:={ x.set with thr:=addJob x.set.thr ⟨m,A⟩ } }):=Lib.hid (by rw [HR0.out,jobO_some,if_neg (by rw [HLASTJ.out];omega)])
        by_cases h11:x.set.progs.length ≤ m
        ·have q4:decide ((x.set.progs.length:Int) ≤ (m:Int))=true:=decide_eq_true (by omega)
         have q5:decide (x.set.progs.length ≤ m)=true:=decide_eq_true h11
         have HR:Hid (jobR x (u :: p :: rs)=.error 11):=Lib.hid (by rw [HR1.out,if_pos h11])
         clear h4 hjo h32 h11
         go_wp2_with (go_at_call 56;refine (HFB.out 11 _ HBW.out).mono ?_;rintro e w2 ⟨rfl,hF,hB⟩)
         go_end0
         rw [HR.out]
         exact ⟨rfl,hF,hB⟩
        ·have q4:decide ((x.set.progs.length:Int) ≤ (m:Int))=false:=decide_eq_false (by omega)
         have q5:decide (x.set.progs.length ≤ m)=false:=decide_eq_false h11
         have HR:Hid (jobR x (u :: p :: rs)=.ok { x with set:={ x.set with thr:=addJob x.set.thr ⟨m,A⟩ } }):=Lib.hid (by rw [HR1.out,if_neg h11])
         have hjl:=HJL.out
         clear h4 h32 h11 HR1 HR0
         go_upto_region 17 with fail
         obtain ⟨j0,hj,ha0,ha1,ha2⟩:=info_parts info_job
         have gN:(N:Int) < (N:Int) + 1:=by omega
         have hjoW:=own_keep hjo (w':=wr) fun qq hqq=>HBW.out.block qq (hjo.lt qq hqq).2
         obtain ⟨csg,hbg⟩:=own_blk HTH.out (b:=g) rfl
         have hbgW:Blk wr g 50 csg:=hbg.below HBW.out hgl
         have hng:=own_ne_blk hjoW hbgW (by decide)
         have HCG:Hid (csg[N]?=some (.slice Rv js.length cv)):=Lib.hid ((hbgW.cell N).symm.trans hgv)
         have HGW:=Lib.hid hbgW
         have hnq:=own_ne_blk hjoW (HB.out.below HBW.out hql) oth_st.d
         have HBQ:=Lib.hid (HB.out.below HBW.out hql)
         have h1c:∀ v ∈ [Value.int .i64 (m:Int),.slice RA A.length cA],v.oneCell'=true:=by intro v hv;simp at hv;rcases hv with rfl | rfl <;> rfl
         have hc63:js.length + 1 ≤ maxLen:=by unfold maxLen;omega
         have hcb:(js.length + 1) * 32 ≤ 140737488355328:=by omega
         have hBwr:B ≤ wr.heap.size:=Nat.le_trans hBw HBW.out.size
         have HFIN:Hid (∀ (WA w3:World) (gg cap':Nat),WA.grownBy w3 (Value.slice Rv js.length cv).ownBlock→w3.ownsRow B 53 2 (.slice (some ⟨gg,0,none⟩) (js.length + 1) cap') (js.length + 1) (rows jbC js ++ [.int .i64 (m:Int),.slice RA A.length cA])→((Value.slice Rv js.length cv).ownBlock=some gg ∨ gg=wr.heap.size + 1)→Below wr.heap.size wr WA →
           DPost' B q part at_ (.ok { x with set:={ x.set with thr:=addJob x.set.thr ⟨m,A⟩ } }) w (.returned (.tuple #[])) (w3.setCell ⟨g,N,none⟩ (.slice (some ⟨gg,0,none⟩) (js.length + 1) cap'))):=Lib.hid fun WA w3 gg cap' hg hv hat hA=>by
          obtain ⟨k1,k2,k3⟩:=HS.out.put_job HTN.out (j:=⟨m,A⟩) (av:=.slice RA A.length cA) HB.out oth_st hBw hgB HBW.out hA HOW.out hg hv hat
          exact ⟨rfl,k3,_,_,_,_,_,_,k1,k2⟩
         go_region_law
          (refine step_append_lies _ (by rfl) _ _ _ (by rfl) B 53 j0 _ 2 32 Tryz.underlying50 hj ha0 ha1 ha2 rfl (by omega) (.slice Rv js.length cv) js.length (rows jbC js) (by rfl) (show _ from hjoW.alloc _)
            ⟨wr.heap.size,0,none⟩ 1 1 [.int .i64 (m:Int),.slice RA A.length cA] (by rfl) (by rfl) (World.news_of_block (cs:=#[.int .i64 (m:Int),.slice RA A.length cA]) (t:=53) (fr:=(0,0)) (heap_alloc_new wr _)) h1c
            (by omega) hc63 hcb (by simp;omega) (wr.heap.size + 1) (by simp) ?_;intro gg cap' w3 hown3 hgrow hat hlt3;have hR3:Blk w3 g 50 csg:=(hgrow.block g (by simp;omega) (fun hh=>hng hh.symm)).trans ((Below.heap_alloc wr _ g hgl2).trans HGW.out);have m4:w3.cell? ⟨g,N,none⟩=some (.slice Rv js.length cv):=(hR3.cell N).trans HCG.out;have f4:w3.frozen? ⟨g,N,none⟩=false:=hR3.frozen N;have hrl3:g < w3.heap.size:=hR3.lt;have hQ3:=(hgrow.block q (by simp;omega) (fun hh=>hnq hh.symm)).trans ((Below.heap_alloc wr _ q hql2).trans HBQ.out);have m8:w3.cell? ⟨q,8,none⟩=some (.slice (some ⟨g,0,none⟩) (N + 1) cap):=(Blk.cell hQ3 8).trans rfl;have hql3:q < w3.heap.size:=Blk.lt hQ3)
         all_goals go_wp2_with fail
         all_goals go_end0
         all_goals (rw [HR.out])
         all_goals exact HFIN.out _ _ _ _ hgrow hown3 hat (by first | exact ((Below.refl _ _).alloc (Nat.le_refl _) _).drew | exact ((Below.refl _ _).drew.alloc (Nat.le_refl _) _) | exact ((Below.refl _ _).alloc (Nat.le_refl _) _))
theorem elem_str:Tryz.prog.elem 26=9:=by kernel_rfl
theorem size_str (w:World):(sizeOf 9).run Tryz.prog w=.ok 1 w:=by kernel_rfl
theorem words_cut (b n c k:Nat) (z:Int) (hz:z=(k:Int)) (hk:k ≤ n) (hc:n ≤ c) :
  ∃ A',(∀ W,(Instr.sliceAt 26 (.slice (some ⟨b,0,none⟩) n c) (some (.int .i64 z)) none none).run Tryz.prog W=.ok (.slice A' (n - k) (c - k)) W)∧(k < n→A'=some ⟨b,k,none⟩):=by
 subst hz
 refine ⟨if c=k then some ⟨b,0,none⟩ else (some (⟨b,0,none⟩:Addr)).map (·.add (k * 1)),fun W=>?_,fun h=>?_⟩
 ·rw [run_sliceAt_slice W _ _ _ _ _ (by rw [elem_str];exact Tryz.underlying26),run_slice_l W 26 (some ⟨b,0,none⟩) n c (by rw [elem_str];exact Tryz.underlying26) .i64 (k:Int) (by omega) (by omega),elem_str,size_str]
  show Result.ok (sliced (some ⟨b,0,none⟩) k n c 1) W=_
  unfold sliced
  rfl
 ·rw [if_neg (by omega)]
  simp [Addr.add]
  omega
def jobP (x:SSt):Option Int→Option (List Int)→Except Nat SSt
 | some n,some args=>if 4 < args.length ∨ (x.set.thr.getLast?.getD []).length=32 then .error 2 else if (x.set.progs.length:Int) ≤ n then .error 11 else .ok { x with set:={ x.set with thr:=addJob x.set.thr ⟨n.toNat,args⟩ } }
 | _,_=>.error 9
theorem jobP_some (x:SSt) (n:Int) (args:List Int):jobP x (some n) (some args)=if 4 < args.length ∨ (x.set.thr.getLast?.getD []).length=32 then .error 2 else if (x.set.progs.length:Int) ≤ n then .error 11 else .ok { x with set:={ x.set with thr:=addJob x.set.thr ⟨n.toNat,args⟩ } }:=rfl
theorem jobR_eqP {x:SSt} (h:x.set.thr ≠ []) (u p:List UInt8) (rs:List (List UInt8)):jobR x (u :: p :: rs)=jobP x (numIn p 0 9223372036854775807) (argsL rs):=by
 unfold jobR jobL
 have h1:x.set.thr.isEmpty=false:=by
  cases hx:x.set.thr with
  | nil=>exact absurd hx h
  | cons _ _=>rfl
 simp only [h1,Bool.false_eq_true,if_false]
 have e:numIn p 0 maxI=numIn p 0 9223372036854775807:=rfl
 rw [e]
 cases numIn p 0 9223372036854775807 with
 | none=>rfl
 | some n =>
  cases argsL rs with
  | none=>rfl
  | some args =>
   simp only [jobP]
   by_cases h4:4 < args.length ∨ (x.set.thr.getLast?.getD []).length=32
   ·rw [if_pos h4,if_pos h4]
   ·rw [if_neg h4,if_neg h4]
    by_cases hn:(x.set.progs.length:Int) ≤ n
    ·rw [if_pos hn,if_pos hn]
    ·rw [if_neg hn,if_neg hn]
theorem args_nextP {bn bb b2:Bool} {rs:List (List UInt8)} {k:Nat} {s:List UInt8} {A:List Int} {y:Int} (h1:bb=(bn && (argsL (rs.take k)).isSome)) (h2:∀ r,argsL (rs.take k)=some r→r=A) (hs:rs[k]?=some s)
  (hb2:b2=(numIn s (-9223372036854775808) 9223372036854775807).isSome) (hy:∀ m,numIn s (-9223372036854775808) 9223372036854775807=some m→m=y):(bb && b2)=(bn && (argsL (rs.take (k + 1))).isSome)∧∀ r,argsL (rs.take (k + 1))=some r→r=A ++ [y]:=by
 have e:numIn s (-9223372036854775808) 9223372036854775807=numF s:=numIn_all s
 rw [e] at hb2 hy
 exact args_next h1 h2 hs hb2 hy
def PResL (B:Nat) (w:World) (p:Nat) (s:ByteArray) (a n:Nat):Except Nat SSt→Prop
 | .ok x=>PGood B w p s a n x
 | .error e=>PBad w p e a
def PPostL (B p:Nat) (s:ByteArray) (a n:Nat) (R:Except Nat SSt) (w:World) (e:Ending) (w':World):Prop:=e=.returned (.tuple #[])∧Below B w w'∧PResL B w' p s a n R
end Go.Proofs.YtiheggkkgbfndaaGreatDoor
