/- carouselref24: a line of steps, walked. -/
import Derived.Test.YtiheggkkgbfndaaGreatDoorL29
import Derived.Test.YtiheggkkgbfndaaGreatDoorL17
import Derived.Test.YtiheggkkgbfndaaGreatDoorL28
namespace Go.Proofs.YtiheggkkgbfndaaGreatDoor
open Go.RowKit Go.Joins Go.ChangeShapes Go.WideShapes Go.Deep
set_option linter.unusedVariables false
set_option linter.unusedSimpArgs false
set_option maxRecDepth 100000
set_option maxHeartbeats 4000000 in
theorem rrun_any (B q part at_ b c:Nat) (ws:List (List UInt8)) (x:SSt) (w:World) (hG:DGood B w q part x) (hBw:B ≤ w.heap.size) (hBq:B ≤ q) (hW:WordsAt w w.heap.size b ws) (hws:Brief ws) (hll:x.lines.length ≤ 65535) (hst:x.steps ≤ 20000) :
  Calls Tryz.prog 58 #[.pointer (some ⟨q,0,none⟩),.slice (some ⟨b,0,none⟩) ws.length c,.int .i64 at_] w (DPost' B q part at_ (runL x ws) w):=by
 obtain ⟨rv,pv,tv,lv,T,L,hb,hS⟩:=hG
 obtain ⟨hTl,hLl⟩:=hS.lens
 have x13:w.cell? ⟨q,13,none⟩=some (.int .i64 x.steps):=(hb.cell 13).trans rfl
 have hql:=hb.lt
 have hbl:=hW.lt
 obtain ⟨n,hn⟩:∃ n,n=ws.length:=⟨_,rfl⟩
 rw [← hn]
 obtain ⟨is,his⟩:∃ is,is=ws.drop 1:=⟨_,rfl⟩
 have hnn:is.length + 1=n ∨ n=0:=by rw [his,hn,List.length_drop];omega
 have hat:∀ i:Nat,1 ≤ i→ws[i]?=is[i - 1]?:=fun i hi=>by rw [his,List.getElem?_drop];congr 1;omega
 have hnz:n ≤ 65536:=by rw [hn];exact hws.len
 have HB:=Lib.hid hb
 have HS:=Lib.hid hS
 have HW:=Lib.hid hW
 have HNN:=Lib.hid hnn
 have HAT:=Lib.hid hat
 have HN:=Lib.hid hn
 have HEA:Hid (∀ s ∈ is,s.length ≤ 65535):=Lib.hid fun s hs=>hws.each s (by rw [his] at hs;exact List.mem_of_mem_drop hs)
 have HCO:Hid (∀ i is',is=i :: is'→∃ u,ws=u :: i :: is'):=Lib.hid fun i is' h=>by
  rw [his] at h
  match ws,h with
  | [],h=>simp at h
  | u :: r,h=>exact ⟨u,by simpa using h⟩
 have HLL:Hid (L.length=x.lines.length):=Lib.hid hLl
 have HFB:Hid (∀ (y:Nat) (W:World),Below w.heap.size w W→Calls Tryz.prog 56 #[.pointer (some ⟨q,0,none⟩),.int .i64 y,.int .i64 at_] W fun r w'=>r=.returned (.tuple #[])∧Below B w w'∧DBad w' q y at_):=Lib.hid fun y W hW=>(rfails_any q x.set.cfg rv pv _ lv 0 0 part x.steps y at_ W (HB.out.below hW hql)).mono fun r w' ⟨h1,h2,h3⟩=>⟨h1,(hW.mono hBw).trans (below_of_frm h2 (Nat.le_trans hBw hW.size) hBq),_,_,_,_,_,_,_,h3⟩
 clear hb hS hW hws hTl hnn hat hn his hLl
 go_enter Tryz.func58,Tryz.ntmps58
 go_upto_region 2 with fail
 go_loopg [6,7,8,9,10] (n + 1) (fun gk mv iv _ _ _ W=>∃ (i:Nat) (l:List (Nat × Nat)),iv=.int .i64 i∧1 ≤ i∧(i ≤ n ∨ i=1)∧gk + i=n + 2∧mv=.int .i64 (satF x.steps l:Nat)∧satF x.steps l ≤ 40000∧Hid (itemsL (is.take (i - 1))=some l)∧W=w)
 case atStart=>exact ⟨1,[],rfl,Nat.le_refl _,.inr rfl,by omega,rfl,by simp [satF];omega,Lib.hid rfl,rfl⟩
 case round =>
  obtain ⟨i,l,rfl,h1i,hin,hgk,rfl,hsat,HI,rfl⟩:=hrel
  obtain ⟨w,rfl⟩:∃ w0,w0=wr:=⟨_,rfl⟩
  have HG:=Lib.hid hgk
  clear hgk
  obtain ⟨m,hm⟩:∃ m,m=satF x.steps l:=⟨_,rfl⟩
  rw [← hm] at hsat ⊢
  have HM:=Lib.hid hm
  clear hm
  by_cases hil:i < n
  ·have e3:decide ((i:Int) < (n:Int))=true:=decide_eq_true (by omega)
   have e4:decide (i < n)=true:=decide_eq_true hil
   have hkr:i - 1 < is.length:=by have:=HNN.out;omega
   obtain ⟨s,hs⟩:∃ s,is[i - 1]?=some s:=⟨_,List.getElem?_eq_getElem hkr⟩
   obtain ⟨ss,hss⟩:∃ ss:ByteArray,ss=⟨s.toArray⟩:=⟨_,rfl⟩
   have hsl:ss.data.toList=s:=by rw [hss]
   have ci:w.cell? ⟨b,i,none⟩=some (.string ss):=by
    rw [hss]
    exact HW.out.cell i s (by rw [HAT.out i h1i,hs])
   have hssz:ss.size ≤ 65535:=by
    have h1:ss.size=ss.data.toList.length:=Array.length_toList.symm
    have:=HEA.out s (List.mem_of_getElem? hs)
    rw [h1,hsl];omega
   have zw:IntKind.i64.wrap ((i:Int) + 1)=(i:Int) + 1:=by rw [IntKind.wrap_i64];omega
   have HII:=Lib.hid (ritem_any ss hssz w)
   unfold ItemPost at HII
   rw [hsl] at HII
   have HSS:=Lib.hid hs
   clear hs hss hsl hssz hkr
   go_upto_region 5 with (go_at_call 89;refine HII.out.mono ?_;rintro e w1 ⟨hw,t1,n1,b1,rfl,hb1,hx1⟩;obtain rfl:=hw.symm;have HX:=Lib.hid (And.intro hb1 hx1);clear hb1 hx1)
   cases b1
   ·have HR:Hid (runL x ws=.error 9):=Lib.hid (by
     have hno:itemN s=none:=by
      have:=HX.out.1
      cases hh:itemN s with
      | none=>rfl
      | some y=>rw [hh] at this;cases this
     have hbad:=items_bad HSS.out hno
     cases hq:is with
     | nil=>rw [hq] at hbad;cases hbad
     | cons a r =>
      obtain ⟨u,hu⟩:=HCO.out a r hq
      rw [hu]
      exact runL_none (by rw [← hq];exact hbad))
    go_wp2_with (go_at_call 56;refine (HFB.out 9 _ (Below.refl _ _)).mono ?_;rintro e w2 ⟨rfl,hF,hB⟩)
    go_end0
    rw [HR.out]
    exact ⟨rfl,hF,hB⟩
   ·have HIT:Hid (itemN s=some (t1,n1)):=Lib.hid (by
     have:=HX.out.1
     cases hh:itemN s with
     | none=>rw [hh] at this;cases this
     | some y=>rw [HX.out.2 y hh])
    have hn1:n1 ≤ 20000:=(itemN_le HIT.out).2.2
    have HNX:=Lib.hid (items_next HSS.out HI.out HIT.out)
    by_cases hbig:m ≤ 20000
    ·have q1:decide ((m:Int) ≤ 20000)=true:=decide_eq_true (by omega)
     have q2:decide (m ≤ 20000)=true:=decide_eq_true hbig
     have zm:IntKind.i64.wrap ((m:Int) + (n1:Int))=(m:Int) + (n1:Int):=by rw [IntKind.wrap_i64];omega
     have HSN:Hid (satF x.steps (l ++ [(t1,n1)])=m + n1):=Lib.hid (by rw [satF_snoc,← HM.out,if_pos hbig])
     go_wp2
     go_roundg (n + 2 - (i + 1))
     case measure=>have:=HG.out;omega
     case rel=>exact ⟨i + 1,l ++ [(t1,n1)],by simp,by omega,by omega,by omega,by rw [HSN.out];simp,by rw [HSN.out];omega,Lib.hid (by rw [show i + 1 - 1=i - 1 + 1 by omega];exact HNX.out),rfl⟩
    ·have q1:decide ((m:Int) ≤ 20000)=false:=decide_eq_false (by omega)
     have q2:decide (m ≤ 20000)=false:=decide_eq_false hbig
     have HSN:Hid (satF x.steps (l ++ [(t1,n1)])=m):=Lib.hid (by rw [satF_snoc,← HM.out,if_neg hbig])
     go_wp2
     go_roundg (n + 2 - (i + 1))
     case measure=>have:=HG.out;omega
     case rel=>exact ⟨i + 1,l ++ [(t1,n1)],by simp,by omega,by omega,by omega,by rw [HSN.out],by rw [HSN.out];omega,Lib.hid (by rw [show i + 1 - 1=i - 1 + 1 by omega];exact HNX.out),rfl⟩
  ·have e3:decide ((i:Int) < (n:Int))=false:=decide_eq_false (by omega)
   have e4:decide (i < n)=false:=decide_eq_false hil
   by_cases hn2:n < 2
   ·have HR:Hid (runL x ws=.error 9):=Lib.hid (runL_short (by rw [← HN.out];exact hn2))
    have e1:decide ((n:Int) < 2)=true:=decide_eq_true (by omega)
    have e2:decide (n < 2)=true:=decide_eq_true hn2
    go_wp2_with (go_at_call 56;refine (HFB.out 9 _ (Below.refl _ _)).mono ?_;rintro e w2 ⟨rfl,hF,hB⟩)
    go_end0
    rw [HR.out]
    exact ⟨rfl,hF,hB⟩
   ·have e1:decide ((n:Int) < 2)=false:=decide_eq_false (by omega)
    have e2:decide (n < 2)=false:=decide_eq_false hn2
    have hil2:is.length + 1=n:=by have:=HNN.out;omega
    have HIL:Hid (itemsL is=some l):=Lib.hid (by
     have:=HI.out
     rwa [List.take_of_length_le (by omega)] at this)
    have HR0:Hid (runL x ws=if 20000 < x.steps + manyF l then .error 2 else .ok ⟨x.set,x.lines ++ [⟨1,spread l⟩],x.steps + manyF l⟩):=Lib.hid (by
     cases hq:is with
     | nil=>rw [hq] at hil2;simp at hil2;omega
     | cons a r =>
      obtain ⟨u,hu⟩:=HCO.out a r hq
      rw [hu]
      exact runL_some (by rw [← hq];exact HIL.out))
    have hsq:=satF_eq l x.steps
    rw [← HM.out] at hsq
    by_cases hfull:20000 < x.steps + manyF l
    ·have hm2:=hsq.2 hfull
     have q1:decide ((20000:Int) < (m:Int))=true:=decide_eq_true (by omega)
     have q2:decide (20000 < m)=true:=decide_eq_true hm2
     have HR:Hid (runL x ws=.error 2):=Lib.hid (by rw [HR0.out,if_pos hfull])
     clear hsq
     go_wp2_with (go_at_call 56;refine (HFB.out 2 _ (Below.refl _ _)).mono ?_;rintro e w2 ⟨rfl,hF,hB⟩)
     go_end0
     rw [HR.out]
     exact ⟨rfl,hF,hB⟩
    ·have hm2:=hsq.1 (by omega)
     have q1:decide ((20000:Int) < (m:Int))=false:=decide_eq_false (by omega)
     have q2:decide (20000 < m)=false:=decide_eq_false (by omega)
     have HR:Hid (runL x ws=.ok ⟨x.set,x.lines ++ [⟨1,spread l⟩],m⟩):=Lib.hid (by rw [HR0.out,if_neg hfull,hm2])
     have hm3:m ≤ 20000:=by omega
     have hml:manyF l ≤ 20000:=by omega
     have f13:w.frozen? ⟨q,13,none⟩=false:=HB.out.frozen 13
     obtain ⟨W1,hW1⟩:∃ W1,W1=w.setCell ⟨q,13,none⟩ (.int .i64 m):=⟨_,rfl⟩
     have HB1:Hid (Blk W1 q 61 (StV x.set.cfg rv pv tv lv 0 0 part m)):=Lib.hid (hW1 ▸ HB.out.set_ 13 _)
     have HS1:Hid (SetAt B W1 x rv pv tv lv T L):=Lib.hid (hW1 ▸ HS.out.setO HB.out oth_st _)
     have HF1:Hid (Below B w W1):=Lib.hid (hW1 ▸ (Below.refl _ _).setCell hBq _)
     have HZ1:Hid (W1.heap.size=w.heap.size):=Lib.hid (by rw [hW1];simp [World.setCell])
     have HW1:Hid (WordsAt W1 W1.heap.size b ws):=Lib.hid (by rw [HZ1.out,hW1];exact HW.out.set HB.out oth_st.b _)
     clear hsq hfull hm2
     go_upto_region 14 with fail
     rw [← hW1]
     clear hW1 f13 x13 hql hbl
     have hql:q < W1.heap.size:=HB1.out.lt
     have hbl:b < W1.heap.size:=HW1.out.lt
     have hBW1:B ≤ W1.heap.size:=by rw [HZ1.out];exact hBw
     obtain ⟨i0,hi,hz0,hz1,hz2⟩:=info_parts info_in
     go_upto_region 16 with fail
     go_loopg [11,12,13,14,15,16] n (fun gk ov iv _ _ _ _ W=>∃ (i:Nat),iv=.int .i64 i∧1 ≤ i∧i ≤ n∧gk + i=n + 1∧W.ownsRow W1.heap.size 3 1 ov (spread (l.take (i - 1))).length (rows natC (spread (l.take (i - 1))))∧Below W1.heap.size W1 W)
     case atStart=>exact ⟨1,rfl,Nat.le_refl _,by omega,rfl,World.ownsRow_nil _ _ _ _,Below.refl _ _⟩
     case round =>
      obtain ⟨i2,rfl,h1i2,hin2,hgk2,hown,hbw⟩:=hrel
      have HG2:=Lib.hid hgk2
      clear hgk2
      by_cases hil3:i2 < n
      ·have e5:decide ((i2:Int) < (n:Int))=true:=decide_eq_true (by omega)
       have e6:decide (i2 < n)=true:=decide_eq_true hil3
       have hkr:i2 - 1 < is.length:=by omega
       obtain ⟨s,hs⟩:∃ s,is[i2 - 1]?=some s:=⟨_,List.getElem?_eq_getElem hkr⟩
       obtain ⟨⟨t1,n1⟩,hx,hit⟩:=items_at HIL.out hs
       obtain ⟨ss,hss⟩:∃ ss:ByteArray,ss=⟨s.toArray⟩:=⟨_,rfl⟩
       have hsl:ss.data.toList=s:=by rw [hss]
       have ci:wr.cell? ⟨b,i2,none⟩=some (.string ss):=by
        rw [hss]
        exact (HW1.out.below hbw).cell i2 s (by rw [HAT.out i2 h1i2,hs])
       have hssz:ss.size ≤ 65535:=by
        have h1:ss.size=ss.data.toList.length:=Array.length_toList.symm
        have:=HEA.out s (List.mem_of_getElem? hs)
        rw [h1,hsl];omega
       have zw:IntKind.i64.wrap ((i2:Int) + 1)=(i2:Int) + 1:=by rw [IntKind.wrap_i64];omega
       have HII:=Lib.hid (ritem_any ss hssz wr)
       unfold ItemPost at HII
       rw [hsl,hit] at HII
       obtain ⟨D,hD⟩:∃ D,D=spread (l.take (i2 - 1)):=⟨_,rfl⟩
       rw [← hD] at hown
       have HSP:Hid (spread (l.take (i2 + 1 - 1))=D ++ List.replicate n1 t1):=Lib.hid (by rw [show i2 + 1 - 1=i2 - 1 + 1 by omega,take_snoc l (i2 - 1) (t1,n1) hx,spread_snoc,hD])
       have hDl:D.length + n1 ≤ 20000:=by
        have h1:=congrArg List.length HSP.out
        rw [spread_size,List.length_append,List.length_replicate] at h1
        have:=manyF_take l (i2 + 1 - 1)
        omega
       clear hs hss hsl hssz hkr hx hit hD
       have hbl2:b < wr.heap.size:=Nat.lt_of_lt_of_le hbl hbw.size
       go_upto_region 19 with (go_at_call 89;refine HII.out.mono ?_;rintro e w1 ⟨hw,t2,n2,b2,rfl,hb2,hx2⟩;obtain rfl:=hw.symm;obtain ⟨h1,h2⟩:=Prod.mk.inj (hx2 _ rfl);subst h1;subst h2;clear hb2 hx2)
       obtain ⟨wm,rfl⟩:∃ w0,w0=wr:=⟨_,rfl⟩
       go_upto_region 20 with fail
       go_loopg [11,16] n1 (fun gk ov kv W=>∃ k:Nat,kv=.int .i64 k∧k ≤ n1∧gk + k=n1∧W.ownsRow W1.heap.size 3 1 ov (D.length + k) (rows natC (D ++ List.replicate k t1))∧Below W1.heap.size W1 W)
       case atStart=>exact ⟨0,rfl,Nat.zero_le _,rfl,by simpa using hown,hbw⟩
       case round =>
        obtain ⟨k,rfl,hk,hgk,hown3,hbw3⟩:=hrel
        have HG3:=Lib.hid hgk
        clear hgk
        by_cases hkn:k < n1
        ·have e7:decide ((k:Int) < (n1:Int))=true:=decide_eq_true (by omega)
         have e8:decide (k < n1)=true:=decide_eq_true hkn
         have zk:IntKind.i64.wrap ((k:Int) + 1)=(k:Int) + 1:=by rw [IntKind.wrap_i64];omega
         have hc2:∀ u ∈ ([.int .i64 (t1:Int)]:List Value),u.oneCell'=true:=by intro u hu;simp at hu;subst hu;rfl
         have hc3:D.length + k + 1 ≤ maxLen:=by unfold maxLen;omega
         have hc4:(D.length + k + 1) * 8 ≤ 140737488355328:=by omega
         have hs3:=hbw3.size
         have hc5:W1.heap.size ≤ (wr.alloc (.cells #[.int .i64 (t1:Int)] 3)).heap.size:=by simp;omega
         have HOW3:=Lib.hid hown3
         have HBW3:=Lib.hid hbw3
         clear hown3 hbw3 hown hbw
         go_wp2_with (at_builtin;go_must (refine wpList_append_own _ rfl _ _ 47 rfl W1.heap.size 3 i0 (.int .i64 0) 1 8 Tryz.underlying47 hi hz0 hz1 hz2 rfl (by decide) _ _ _ rfl (HOW3.out.alloc _) ⟨wr.heap.size,0,none⟩ 1 1 [.int .i64 (t1:Int)] rfl rfl (cell_one_new _ _ _) hc2 hc3 hc4 hc5 ?_;intro v' w2 hown2 hgrow2 _))
         go_roundg (n1 - (k + 1))
         case measure=>have:=HG3.out;omega
         case rel =>
          refine ⟨k + 1,by simp,by omega,by omega,?_,(HBW3.out.alloc hs3 _).trans (below_grown (HOW3.out.alloc _) hgrow2 hc5)⟩
          rw [List.replicate_succ',← List.append_assoc,rows_snoc,← Nat.add_assoc]
          exact hown2
        ·have e7:decide ((k:Int) < (n1:Int))=false:=decide_eq_false (by omega)
         have e8:decide (k < n1)=false:=decide_eq_false hkn
         obtain rfl:k=n1:=by omega
         have HOW3:=Lib.hid hown3
         have HBW3:=Lib.hid hbw3
         clear hown3 hbw3 hown hbw
         go_wp2
         go_roundg (n + 1 - (i2 + 1))
         case measure=>have:=HG2.out;omega
         case rel =>
          refine ⟨i2 + 1,by simp,by omega,by omega,by omega,?_,HBW3.out⟩
          rw [HSP.out,List.length_append,List.length_replicate]
          exact HOW3.out
      ·have e5:decide ((i2:Int) < (n:Int))=false:=decide_eq_false (by omega)
       have e6:decide (i2 < n)=false:=decide_eq_false hil3
       have htk:l.take (i2 - 1)=l:=List.take_of_length_le (by have:=items_len HIL.out;omega)
       rw [htk] at hown
       clear hi hz0 hz1 hz2 i0
       obtain ⟨i0,hi,hz0,hz1,hz2⟩:=info_parts info_lin
       have hsl:(spread l).length ≤ 20000:=by rw [spread_size];exact hml
       obtain ⟨Rv,cv,rfl,_,_⟩:=own_shapes hown
       have HBL:=Lib.hid (HB1.out.below hbw hql)
       have HLO:=Lib.hid (own_beb HS1.out.lines hbw)
       have HOW:=Lib.hid hown
       have HBW:=Lib.hid hbw
       have hs3:=hbw.size
       have x9:wr.cell? ⟨q,9,none⟩=some lv:=(HBL.out.cell 9).trans rfl
       have hqlw:=HBL.out.lt
       have hll2:L.length ≤ 65535:=by have:=HLL.out;omega
       have HA:Hid (Below wr.heap.size wr (wr.alloc (.cells #[.int .i64 1,.slice Rv (spread l).length cv] 49))):=Lib.hid ((Below.refl _ _).alloc (Nat.le_refl _) _)
       have hc2:∀ u ∈ ([.int .i64 1,.slice Rv (spread l).length cv]:List Value),u.oneCell'=true:=by intro u hu;simp at hu;rcases hu with rfl | rfl <;> rfl
       have hc3:L.length + 1 ≤ maxLen:=by unfold maxLen;omega
       have hc4:(L.length + 1) * 32 ≤ 140737488355328:=by omega
       have hc5:B ≤ (wr.alloc (.cells #[.int .i64 1,.slice Rv (spread l).length cv] 49)).heap.size:=by simp;omega
       clear hown hbw htk
       go_wp2_with (at_builtin;go_must (refine wpList_append_lies _ rfl _ _ 30 rfl B 49 i0 (.agg #[.int .i64 0,.slice none 0 0]) 2 32 Tryz.underlying30 (by assumption) hz0 hz1 hz2 rfl (by decide) lv L.length (rows lnC L) rfl (HLO.out.alloc _) ⟨wr.heap.size,0,none⟩ 1 1 [.int .i64 1,.slice Rv (spread l).length cv] rfl rfl (World.news_of_block (cs:=#[.int .i64 1,.slice Rv (spread l).length cv]) (t:=49) (fr:=(0,0)) (by simpa using heap_alloc_new wr (.cells #[.int .i64 1,.slice Rv (spread l).length cv] 49))) hc2 (by omega) hc3 hc4 hc5 (wr.heap.size + 1) (by simp) ?_;intro gg c' w2 hown2 hg2 hat hlt2;have hR3:=blk_past HBL.out (HLO.out) oth_st.f HA.out hg2;have m6:w2.cell? ⟨q,9,none⟩=some lv:=(hR3.cell 9).trans rfl;have f6:w2.frozen? ⟨q,9,none⟩=false:=hR3.frozen 9;have hl3:=hR3.lt))
       go_end0
       rw [HR.out]
       have hA1:Below W1.heap.size W1 (wr.alloc (.cells #[.int .i64 1,.slice Rv (spread l).length cv] 49)):=HBW.out.alloc hs3 _
       have hvt:w2.ownsRow B 3 1 (.slice Rv (spread l).length cv) (spread l).length (rows natC (spread l)):=own_lower (own_grown HOW.out HA.out hg2 fun qq hq=>own_ne HOW.out HLO.out (by decide) hq) hBW1
       obtain ⟨g1',g2',g3'⟩:=HS1.out.put_line HB1.out oth_st hBW1 hBq hA1 hg2 ⟨1,spread l⟩ m (v:=.slice Rv (spread l).length cv) hown2 hvt (fun qq hq=>(HOW.out.lt qq hq).1) 9
       exact ⟨rfl,HF1.out.trans g3',_,_,_,_,_,_,g1',g2'⟩
structure Lim (x:SSt) (m:Nat):Prop where
 regs:x.set.regs.length ≤ m
 lines:x.lines.length ≤ m
 progs:x.set.progs.length ≤ 16
 thr:x.set.thr.length ≤ 8
 jobs:∀ l ∈ x.set.thr,l.length ≤ 32
 steps:x.steps ≤ 20000
theorem Lim.more {x:SSt} {m m':Nat} (h:Lim x m) (hm:m ≤ m'):Lim x m':=⟨Nat.le_trans h.regs hm,Nat.le_trans h.lines hm,h.progs,h.thr,h.jobs,h.steps⟩
def headL (l:List UInt8):List UInt8:=(splitF 32 l).head?.getD []
def oneR (x:SSt) (part:Nat) (s:ByteArray) (at_ n:Nat) (l:List UInt8):Except (Nat × Nat) (SSt × Nat × Nat) :=
 if partL (headL l) < part then .error (9,at_) else if l=wProgram then (match progR x s at_ n with
  | .ok (x',m)=>.ok (x',partL (headL l),m)
  | .error y=>.error y)
 else match plainL x l (splitF 32 l) with
  | .error e=>.error (e,at_)
  | .ok x'=>.ok (x',partL (headL l),n)
theorem head_some (l:List UInt8):(splitF 32 l).head?=some (headL l):=by
 unfold headL
 cases h:splitF 32 l with
 | nil=>exact absurd h (splitF_ne 32 l)
 | cons a r=>rfl
theorem plain_region {x:SSt} {l:List UInt8} (h:headL l=wRegion):plainL x l (splitF 32 l)=regionR x (splitF 32 l):=by
 unfold plainL regionR
 rw [head_some,h,if_pos rfl]
 cases regionL (splitF 32 l) <;> rfl
theorem plain_thread {x:SSt} {l:List UInt8} (h:l=wThread):plainL x l (splitF 32 l)=if x.set.thr.length=8 then .error 2 else .ok { x with set:={ x.set with thr:=x.set.thr ++ [[]] } }:=by
 have h1:headL l ≠ wRegion:=by rw [h];decide
 unfold plainL
 rw [head_some,if_neg fun e=>h1 (Option.some.inj e),if_pos h]
theorem plain_job {x:SSt} {l:List UInt8} (h:headL l=wJob):plainL x l (splitF 32 l)=jobR x (splitF 32 l):=by
 have h1:l ≠ wThread:=fun e=>by rw [e] at h;exact absurd h (by decide)
 have h2:¬ (some wJob=some wRegion):=by decide
 unfold plainL jobR
 rw [head_some,h,if_neg h2,if_neg h1,if_pos rfl]
 cases jobL x.set (splitF 32 l) <;> rfl
theorem plain_run {x:SSt} {l:List UInt8} (h:headL l=wRun):plainL x l (splitF 32 l)=runL x (splitF 32 l):=by
 have h1:l ≠ wThread:=fun e=>by rw [e] at h;exact absurd h (by decide)
 have h2:¬ (some wRun=some wRegion):=by decide
 have h3:¬ (some wRun=some wJob):=by decide
 unfold plainL
 rw [head_some,h,if_neg h2,if_neg h1,if_neg h3,if_pos rfl]
def lookR (x:SSt):Option Nat→Except Nat SSt
 | some k=>.ok { x with lines:=x.lines ++ [⟨k,[]⟩] }
 | none=>.error 9
theorem plain_look {x:SSt} {l:List UInt8} (h1:headL l ≠ wRegion) (h2:l ≠ wThread) (h3:headL l ≠ wJob) (h4:headL l ≠ wRun):plainL x l (splitF 32 l)=lookR x (lookF l):=by
 unfold plainL
 rw [head_some,if_neg fun e=>h1 (Option.some.inj e),if_neg h2,if_neg fun e=>h3 (Option.some.inj e),if_neg fun e=>h4 (Option.some.inj e)]
 cases lookF l <;> rfl
theorem part_region {l:List UInt8} (h:headL l=wRegion):partL (headL l)=1:=by rw [h];decide
theorem part_program {l:List UInt8} (h:l=wProgram):partL (headL l)=2:=by rw [h];decide
theorem part_thread {l:List UInt8} (h:l=wThread):partL (headL l)=3:=by rw [h];decide
theorem part_job {l:List UInt8} (h:headL l=wJob):partL (headL l)=3:=by rw [h];decide
theorem part_run {l:List UInt8} (h:headL l=wRun):partL (headL l)=4:=by rw [h];decide
theorem part_le (l:List UInt8):partL l ≤ 4:=by
 unfold partL
 split
 ·omega
 ·split
  ·omega
  ·split <;> omega
theorem look_part {l:List UInt8} {k:Nat} (h:lookF l=some k):partL (headL l)=4∧l ≠ wProgram∧2 ≤ k∧k ≤ 7:=by
 unfold lookF at h
 cases hf:(List.range 6).find? fun i=>looksL.getD i [] == l with
 | none=>rw [hf] at h;cases h
 | some i =>
  rw [hf] at h
  have h2:i + 2=k:=by simpa using h
  have h3:=List.find?_some hf
  have h4:=List.mem_of_find?_eq_some hf
  have h5:i < 6:=List.mem_range.1 h4
  have h6:looksL.getD i []=l:=by simpa using h3
  subst h6
  refine ⟨?_,?_,by omega,by omega⟩
  ·clear h2 h3 h4 hf h
   revert h5
   revert i
   decide
  ·clear h2 h3 h4 hf h
   revert h5
   revert i
   decide
theorem oneR_plain {x:SSt} {part at_ n:Nat} {s:ByteArray} {l:List UInt8} (hp:part ≤ partL (headL l)) (hl:l ≠ wProgram):oneR x part s at_ n l=match plainL x l (splitF 32 l) with | .error e=>.error (e,at_) | .ok x'=>.ok (x',partL (headL l),n):=by
 unfold oneR
 rw [if_neg (by omega),if_neg hl]
theorem oneR_no {x:SSt} {part at_ n:Nat} {s:ByteArray} {l:List UInt8} (hp:partL (headL l) < part):oneR x part s at_ n l=.error (9,at_):=by
 unfold oneR
 rw [if_pos hp]
theorem oneR_prog {x:SSt} {part at_ n:Nat} {s:ByteArray} {l:List UInt8} (hp:part ≤ 2) (hl:l=wProgram):oneR x part s at_ n l=match progR x s at_ n with | .ok (x',m)=>.ok (x',2,m) | .error y=>.error y:=by
 unfold oneR
 rw [part_program hl,if_neg (by omega),if_pos hl]
theorem oneR_bad {x:SSt} {part at_ n:Nat} {s:ByteArray} {l:List UInt8} (hl:l ≠ wProgram) (hp:plainL x l (splitF 32 l)=.error 9):oneR x part s at_ n l=.error (9,at_):=by
 unfold oneR
 rw [if_neg hl,hp]
 split <;> rfl
def DResO (B:Nat) (w:World) (q:Nat) (r:Int):Except (Nat × Nat) (SSt × Nat × Nat)→Prop
 | .ok (x,p,n)=>r=(n:Int)∧DGood B w q p x
 | .error y=>DBad w q y.1 y.2
def DPostO (B q:Nat) (R:Except (Nat × Nat) (SSt × Nat × Nat)) (w:World) (e:Ending) (w':World):Prop:=Below B w w'∧∃ r:Int,e=.returned (.int .i64 r)∧DResO B w' q r R
theorem DResO.plain {B q part at_ n:Nat} {w':World} {x:SSt} {s:ByteArray} {l:List UInt8} {P:Except Nat SSt} (hp:part ≤ partL (headL l)) (hl:l ≠ wProgram) (hP:plainL x l (splitF 32 l)=P) (h:DRes B w' q (partL (headL l)) at_ P):DResO B w' q (n:Int) (oneR x part s at_ n l):=by
 rw [oneR_plain hp hl,hP]
 cases P with
 | error e=>exact h
 | ok x'=>exact ⟨rfl,h⟩
theorem DResO.no {B q part at_ n:Nat} {w':World} {x:SSt} {s:ByteArray} {l:List UInt8} {r:Int} (hp:partL (headL l) < part) (h:DBad w' q 9 at_):DResO B w' q r (oneR x part s at_ n l):=by
 rw [oneR_no hp]
 exact h
theorem rows_words (ws:List (List UInt8)) (k:Nat) (s:List UInt8) (h:ws[k]?=some s):(rows stC ws)[k]?=some (.string ⟨s.toArray⟩):=by
 have key:∀ l:List (List UInt8),rows stC l=l.map fun s=>(.string ⟨s.toArray⟩:Value):=fun l=>by
  unfold rows stC
  induction l with
  | nil=>rfl
  | cons a r ih=>rw [List.flatMap_cons,ih];rfl
 rw [key,List.getElem?_map,h]
 rfl
theorem WordsAt.of_own {w : World} {C g cap : Nat} {ws : List (List UInt8)} (h : w.ownsRow C 9 1 (.slice (some ⟨g, 0, none⟩) ws.length cap) ws.length (rows stC ws)) : WordsAt w w.heap.size g ws :=
  ⟨(h.lt g rfl).2, own_blk h (b := g) rfl, fun k s hs => by
    have hk : k < ws.length := (List.getElem?_eq_some_iff.1 hs).1
    rw [h.cellAt k (by omega), rows_words ws k s hs]⟩
theorem WordsAt.frm {w w':World} {C b q:Nat} {ws:List (List UInt8)} {t:TypeId} {cs:Array Value} (h:WordsAt w C b ws) (hb:Blk w q t cs) (hne:9 ≠ t) (hf:Frm w w' fun z=>z=q):WordsAt w' C b ws:=by
 obtain ⟨cb,hcb⟩:=h.blk
 have hbq:b ≠ q:=hcb.ne_ hb hne
 have he:=hf.block b hcb.lt hbq
 exact ⟨h.lt,⟨cb,he.trans hcb⟩,fun k s hs=>(World.cell?_of_block he).trans (h.cell k s hs)⟩
theorem DGood.frm {B:Nat} {w w':World} {q part part':Nat} {x:SSt} {rv pv tv lv:Value} {T:List (Value × List (PJob × Value))} {L:List (PLine × Value)} (hS:SetAt B w x rv pv tv lv T L) (hb:Blk w q 61 (StV x.set.cfg rv pv tv lv 0 0 part x.steps))
  (hf:Frm w w' fun z=>z=q) (hb':Blk w' q 61 (StV x.set.cfg rv pv tv lv 0 0 part' x.steps)):DGood B w' q part' x:=⟨_,_,_,_,_,_,hb',hS.frm hb oth_st hf⟩
theorem split_mem (c:UInt8):∀ (l s:List UInt8),s ∈ splitF c l→s.length ≤ l.length
 | [],s,h=>by
  unfold splitF at h
  simp at h
  subst h
  exact Nat.le_refl _
 | b :: r,s,h=>by
  unfold splitF at h
  split at h
  ·rcases List.mem_cons.1 h with rfl | h
   ·exact Nat.zero_le _
   ·exact Nat.le_succ_of_le (split_mem c r s h)
  ·cases hs:splitF c r with
   | nil=>exact absurd hs (splitF_ne c r)
   | cons a t =>
    rw [hs] at h
    simp only at h
    rcases List.mem_cons.1 h with rfl | h
    ·have:=split_mem c r a (by rw [hs];simp)
     simp
     omega
    ·exact Nat.le_succ_of_le (split_mem c r s (by rw [hs];exact List.mem_cons_of_mem _ h))
theorem brief_split {l:List UInt8} (h:l.length ≤ 65535):Brief (splitF 32 l) :=
 ⟨by rw [splitF_length];have:=List.count_le_length (a:=(32:UInt8)) (l:=l);omega,fun s hs=>Nat.le_trans (split_mem 32 l s hs) h⟩
end Go.Proofs.YtiheggkkgbfndaaGreatDoor
