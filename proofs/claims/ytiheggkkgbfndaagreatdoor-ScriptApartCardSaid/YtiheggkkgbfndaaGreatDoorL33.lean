/- script: the first line, walked. -/
import Derived.Test.YtiheggkkgbfndaaGreatDoorL32
import Derived.Test.YtiheggkkgbfndaaGreatDoorL30
namespace Go.Proofs.YtiheggkkgbfndaaGreatDoor
open Go.RowKit Go.Joins Go.ChangeShapes Go.WideShapes Go.Deep
set_option linter.unusedVariables false
set_option linter.unusedSimpArgs false
set_option maxRecDepth 100000
def NumsAt (W:World) (nb:Nat) (A:List Nat):Prop:=∃ cs:Array Value,Blk W nb 92 cs∧cs.size=5∧∀ (j:Nat) v,A[j]?=some v→cs[j]?=some (.int .i64 (v:Int))
theorem NumsAt.put {W:World} {nb:Nat} {A:List Nat} (h:NumsAt W nb A) (hA:A.length < 5) (v:Nat):NumsAt (W.setCell ⟨nb,A.length,none⟩ (.int .i64 (v:Int))) nb (A ++ [v]):=by
 obtain ⟨cs,h1,h2,h3⟩:=h
 refine ⟨_,h1.set_ A.length _,by simp [h2],fun j u hj=>?_⟩
 rcases Nat.lt_or_ge j A.length with hl | hl
 ·rw [List.getElem?_append_left hl] at hj
  have:=h3 j u hj
  rw [Array.getElem?_setIfInBounds]
  rw [if_neg (by omega)]
  exact this
 ·have hj2:j < (A ++ [v]).length:=(List.getElem?_eq_some_iff.1 hj).1
  rw [List.length_append,List.length_singleton] at hj2
  obtain rfl:j=A.length:=by omega
  rw [List.getElem?_append_right (Nat.le_refl _)] at hj
  simp at hj
  subst hj
  rw [Array.getElem?_setIfInBounds]
  simp [h2,hA]
theorem NumsAt.below {W W':World} {nb:Nat} {A:List Nat} (h:NumsAt W nb A) (hb:Below W.heap.size W W'):NumsAt W' nb A:=by
 obtain ⟨cs,h1,h2,h3⟩:=h
 exact ⟨cs,h1.below hb h1.lt,h2,h3⟩
theorem numIn_nat0 (s:List UInt8):numIn s 0 9223372036854775807=(natF s).map fun (n:Nat)=>(n:Int):=numIn_natF s
set_option maxHeartbeats 8000000 in
theorem pconfig_line {C:Nat} (B p i:Nat) (s:ByteArray) (hs:s.size ≤ 65535) (w:World) (hE:EnvP C w) (hCB:C ≤ B) (hb:Blk w p 56 (RdV s 0 0 noCfg (.slice none 0 0) (.slice none 0 0) (.slice none 0 0) (.slice none 0 0) 0 0 0)) (hBw:B ≤ w.heap.size) (hBp:B ≤ p) (he:EndsAt s 0 i) :
  Calls Tryz.prog 16 #[.pointer (some ⟨p,0,none⟩)] w (PCfgPost B p s ((configL (s.extract 0 i).data.toList).map fun c=>(i + 1,c)) w):=by
 have HLN:=Lib.hid (line_hit hs he p 0 noCfg (.slice none 0 0) (.slice none 0 0) (.slice none 0 0) (.slice none 0 0) 0 0 0 w hb)
 have HEN:Hid (∀ W,Below B w W→EnvP C W):=Lib.hid fun W hW=>hE.below (hW.mono hCB)
 obtain ⟨l,hl⟩:∃ l,l=s.extract 0 i:=⟨_,rfl⟩
 rw [← hl] at HLN ⊢
 have hlz:l.size ≤ 65535:=by rw [hl,ByteArray.size_extract];omega
 have hlz2:l.data.toList.length ≤ 65535:=by
  have h1:l.data.toList.length=l.size:=Array.length_toList
  omega
 have HBR:=Lib.hid (brief_split hlz2)
 clear he hl hlz2 hb hE
 go_enter Tryz.func16,Tryz.ntmps16
 go_upto_region 2 with (go_at_call 42;refine HLN.out.mono ?_;rintro e w1 ⟨rfl,hF,hB1⟩;have HF:=Lib.hid hF;have HB1:=Lib.hid hB1;clear hF hB1)
 have HBW1:Hid (Below B w w1):=Lib.hid (below_of_frm HF.out hBw hBp)
 have hB1s:B ≤ w1.heap.size:=Nat.le_trans hBw HF.out.size
 have HSP:=Lib.hid (psplit_any (HEN.out w1 HBW1.out) l hlz)
 obtain ⟨ws,hws⟩:∃ ws,ws=splitF 32 l.data.toList:=⟨_,rfl⟩
 rw [← hws] at HSP HBR
 obtain ⟨m,hm⟩:∃ m,m=ws.length:=⟨_,rfl⟩
 rw [← hm] at HSP
 have HWS:=Lib.hid hws
 have HMM:=Lib.hid hm
 clear hws hm
 go_upto_region 3 with (go_at_call 43;refine HSP.out.mono ?_;rintro e w2 ⟨g,rfl,hw,hb2⟩;have HW:=Lib.hid hw;have HB2:=Lib.hid hb2;clear hw hb2)
 have HQ2:=Lib.hid (HB1.out.below HB2.out HB1.out.lt)
 have HBW2:Hid (Below B w w2):=Lib.hid (HBW1.out.trans (HB2.out.mono hB1s))
 have hB2s:B ≤ w2.heap.size:=Nat.le_trans hB1s HB2.out.size
 have hgl:=HW.out.lt
 clear HSP
 by_cases h7:m=7
 ·subst h7
  obtain ⟨u,xa,xb,xc,xd,xe,xk,hws⟩:∃ u a b c d e k,ws=[u,a,b,c,d,e,k]:=by
   match ws,HMM.out with
   | [u,a,b,c,d,e,k],_=>exact ⟨u,a,b,c,d,e,k,rfl⟩
  subst hws
  have HEQ:=Lib.hid (configL_eq HWS.out.symm)
  obtain ⟨su,hsu⟩:∃ su:ByteArray,su=⟨u.toArray⟩:=⟨_,rfl⟩
  have hsul:su.data.toList=u:=by rw [hsu]
  have c0:w2.cell? ⟨g,0,none⟩=some (.string su):=by rw [hsu];exact HW.out.cell 0 u rfl
  obtain ⟨sk,hsk⟩:∃ sk:ByteArray,sk=⟨xk.toArray⟩:=⟨_,rfl⟩
  have hskl:sk.data.toList=xk:=by rw [hsk]
  have c6:w2.cell? ⟨g,6,none⟩=some (.string sk):=by rw [hsk];exact HW.out.cell 6 xk rfl
  have HC6:Hid (∀ W,Below w2.heap.size w2 W→W.cell? ⟨g,6,none⟩=some (.string sk)):=Lib.hid fun W hW=>by rw [hsk];exact (HW.out.below hW).cell 6 xk rfl
  have HSU:=Lib.hid hsul
  have HSK:=Lib.hid hskl
  clear hsu hsul hsk hskl
  by_cases hcf:u=wConfig
  ·have q1:(su.toList == [99,111,110,102,105,103])=true:=str_yes (HSU.out.trans hcf)
   have HCF:=Lib.hid hcf
   clear hcf
   by_cases hok:xk=wSingle ∨ xk=wMulti
   ·have HOK:=Lib.hid hok
    have HEQ2:Hid (configL l.data.toList=cfgO (xk == wMulti) (numsL [xa,xb,xc,xd,xe])):=Lib.hid (by rw [HEQ.out,if_pos ⟨HCF.out,HOK.out⟩])
    obtain ⟨b1,hb1⟩:∃ b1,(sk.toList == [115,105,110,103,108,101])=b1:=⟨_,rfl⟩
    obtain ⟨b2,hb2⟩:∃ b2,(sk.toList == [109,117,108,116,105])=b2:=⟨_,rfl⟩
    have hbb:b1=true ∨ (b1=false∧b2=true):=by
     cases hb:b1 with
     | true=>exact .inl rfl
     | false =>
      refine .inr ⟨rfl,?_⟩
      rcases hok with h | h
      ·have h9:(sk.toList == [115,105,110,103,108,101])=true:=str_yes (HSK.out.trans h)
       rw [h9,hb] at hb1
       cases hb1
      ·rw [← hb2]
       exact str_yes (HSK.out.trans h)
    have HSM:Hid ((sk.toList == [109,117,108,116,105])=b2):=Lib.hid hb2
    have HMU:Hid ((xk == wMulti)=b2):=Lib.hid (by
     rw [← hb2,ByteArray.toList_eq,HSK.out]
     rfl)
    clear hok
    go_upto_region 3 with fail
    go_cut [39] from 13 to 39 (fun v wc=>v=.bool false∧wc=w2)
    case first =>
     rcases hbb with rfl | ⟨rfl,rfl⟩
     ·go_wp2_with fail
      go_meet
      exact ⟨rfl,rfl⟩
     ·go_wp2_with fail
      go_meet
      exact ⟨rfl,rfl⟩
    case rest =>
     obtain ⟨rfl,rfl⟩:=hcut
     obtain ⟨w2,rfl⟩:∃ w',w'=wc:=⟨_,rfl⟩
     obtain ⟨w3,hw3⟩:∃ w3,w3=w2.alloc (.cells #[.int .i64 0,.int .i64 0,.int .i64 0,.int .i64 0,.int .i64 0] 92):=⟨_,rfl⟩
     obtain ⟨nb,hnb⟩:∃ nb,nb=w2.heap.size:=⟨_,rfl⟩
     have HN3:Hid (NumsAt w3 nb []):=Lib.hid ⟨_,by rw [hw3,hnb];exact Blk.new _ _ _,rfl,fun j v hj=>by simp at hj⟩
     have HB3:Hid (Below w2.heap.size w2 w3):=Lib.hid (hw3 ▸ (Below.refl _ _).alloc (Nat.le_refl _) _)
     have HNB:Hid (w2.heap.size ≤ nb):=Lib.hid (by omega)
     clear c0 c6 hb1 hb2 hbb q1
     go_upto_region 6 with fail
     rw [← hw3,← hnb]
     clear hw3 hnb
     go_upto_region 7 with fail
     have HAT:Hid (∀ k:Nat,k < 5→∃ x,[xa,xb,xc,xd,xe][k]?=some x∧[u,xa,xb,xc,xd,xe,xk][k + 1]?=some x):=Lib.hid fun k h2=>by
      match k,h2 with
      | 0,_=>exact ⟨xa,rfl,rfl⟩
      | 1,_=>exact ⟨xb,rfl,rfl⟩
      | 2,_=>exact ⟨xc,rfl,rfl⟩
      | 3,_=>exact ⟨xd,rfl,rfl⟩
      | 4,_=>exact ⟨xe,rfl,rfl⟩
     obtain ⟨l5,hl5⟩:∃ l5,l5=[xa,xb,xc,xd,xe]:=⟨_,rfl⟩
     have HL5:Hid (l5.length=5):=Lib.hid (by rw [hl5];rfl)
     rw [← hl5] at HAT HEQ2
     clear hl5
     go_loopg [4,7,40] 5 (fun gk _ _ kv W=>∃ (k:Nat) (A:List Nat),kv=.int .i64 k∧k ≤ 5∧gk + k=5∧A.length=k∧Hid (NumsAt W nb A)∧Hid (numsL (l5.take k)=some A)∧Below w2.heap.size w2 W)
     case atStart=>exact ⟨0,[],rfl,by omega,rfl,rfl,HN3,Lib.hid rfl,HB3.out⟩
     case round =>
      obtain ⟨k,A,rfl,hk5,hgk,hAl,HNA,HI,hbw⟩:=hrel
      have HGK:=Lib.hid hgk
      have HBX:=Lib.hid hbw
      have HALX:=Lib.hid hAl
      have HBWR:Hid (Below B w wr):=Lib.hid (HBW2.out.trans (hbw.mono hB2s))
      have hBr:B ≤ wr.heap.size:=Nat.le_trans hB2s hbw.size
      clear hgk hAl
      by_cases hil:k < 5
      ·have e3:decide ((k:Int) < 5)=true:=decide_eq_true (by omega)
       have e4:decide (k < 5)=true:=decide_eq_true hil
       have e5:(k:Int) + 1 < 7:=by omega
       have e6:(k:Int) < 5:=by omega
       obtain ⟨x,hx5,hx7⟩:=HAT.out k hil
       obtain ⟨sx,hsx⟩:∃ sx:ByteArray,sx=⟨x.toArray⟩:=⟨_,rfl⟩
       have hsxl:sx.data.toList=x:=by rw [hsx]
       have ci:wr.cell? ⟨g,k + 1,none⟩=some (.string sx):=by rw [hsx];exact (HW.out.below hbw).cell (k + 1) x hx7
       have hgl2:g < wr.heap.size:=Nat.lt_of_lt_of_le hgl hbw.size
       have hsxz:sx.size ≤ 4294967296:=by
        have h1:sx.size=sx.data.toList.length:=Array.length_toList.symm
        have h2:=HBR.out.each x (List.mem_of_getElem? hx7)
        rw [h1,hsxl];omega
       have zw:IntKind.i64.wrap ((k:Int) + 1)=(k:Int) + 1:=by rw [IntKind.wrap_i64];omega
       have HNM:=Lib.hid (number_fit (HEN.out wr HBWR.out) sx hsxz 0 9223372036854775807)
       unfold NumberPost at HNM
       rw [hsxl,numIn_nat0] at HNM
       obtain ⟨on,hon⟩:∃ on,on=natF x:=⟨_,rfl⟩
       rw [← hon] at HNM
       have HON:=Lib.hid hon
       have HX5:=Lib.hid hx5
       have hs0:=hbw.size
       clear hon hx5 hx7 hsx hsxl hsxz hbw
       go_upto_region 10 with (go_at_call 44;refine HNM.out.mono ?_;rintro e wz ⟨hbz,nv,bb,rfl,hbb,hnv⟩;have HBZ:=Lib.hid hbz;have HNV:=Lib.hid (And.intro hbb hnv);have HNZ:=Lib.hid (HNA.out.below hbz);obtain ⟨cs,hcs,hcsz,hcs3⟩:=HNZ.out;have y0:wz.cell? ⟨nb,k,none⟩=some (cs[k]'(by omega)):=(hcs.cell k).trans (Array.getElem?_eq_getElem (by omega));have y1:wz.frozen? ⟨nb,k,none⟩=false:=hcs.frozen k;have y2:=hcs.lt;clear hbz hbb hnv hcs3)
       obtain ⟨w5,hw5⟩:∃ w5,w5=wz.setCell ⟨nb,k,none⟩ (.int .i64 nv):=⟨_,rfl⟩
       rw [← hw5]
       have HB5:Hid (Below w2.heap.size w2 w5):=Lib.hid (hw5 ▸ (HBX.out.trans (HBZ.out.mono hs0)).setCell HNB.out _)
       have HW5:=Lib.hid hw5
       clear hw5 y0 y1 y2 hcs hcsz
       cases on with
       | none =>
        have hbf:bb=false:=HNV.out.1
        subst hbf
        have HN:Hid (configL l.data.toList=none):=Lib.hid (by
         have h5:l5.take 5=l5:=List.take_of_length_le (by have:=HL5.out;omega)
         have:=nums_bad (k:=5) hil HX5.out HON.out.symm
         rw [h5] at this
         rw [HEQ2.out,this]
         rfl)
        go_wp2
        go_ret
        refine ⟨HBW2.out.trans (HB5.out.mono hB2s),?_⟩
        rw [HN.out]
        exact ⟨rfl,_,_,HQ2.out.below HB5.out HQ2.out.lt⟩
       | some v =>
        have hbf:bb=true:=HNV.out.1
        subst hbf
        obtain rfl:(v:Int)=nv:=HNV.out.2 (v:Int) rfl
        have HNX:=Lib.hid (nums_next HX5.out HI.out HON.out.symm)
        have HN5:Hid (NumsAt w5 nb (A ++ [v])):=Lib.hid (by
         have h1:=HNZ.out.put (by have:=HALX.out;omega) v
         rw [HALX.out] at h1
         rw [HW5.out]
         exact h1)
        go_wp2
        go_roundg (5 - (k + 1))
        case measure=>have:=HGK.out;omega
        case rel=>exact ⟨k + 1,A ++ [v],by simp,by omega,by omega,by rw [List.length_append,List.length_singleton,HALX.out],HN5,HNX,HB5.out⟩
      ·have e3:decide ((k:Int) < 5)=false:=decide_eq_false (by omega)
       have e4:decide (k < 5)=false:=decide_eq_false hil
       obtain rfl:k=5:=by omega
       obtain ⟨a,b,c,d,e,rfl⟩:∃ a b c d e,A=[a,b,c,d,e]:=by
        match A,HALX.out with
        | [a,b,c,d,e],_=>exact ⟨a,b,c,d,e,rfl⟩
       have HNL:Hid (configL l.data.toList=some ⟨(a:Int),(b:Int),(c:Int),(d:Int),b2,(e:Int)⟩):=Lib.hid (by
        have h5:l5.take 5=l5:=List.take_of_length_le (by have:=HL5.out;omega)
        have h6:=HI.out
        rw [h5] at h6
        rw [HEQ2.out,h6,HMU.out]
        rfl)
       obtain ⟨cs,hcs,hcsz,hcs3⟩:=HNA.out
       have n0:wr.cell? ⟨nb,0,none⟩=some (.int .i64 (a:Int)):=(hcs.cell 0).trans (hcs3 0 a rfl)
       have n1:wr.cell? ⟨nb,1,none⟩=some (.int .i64 (b:Int)):=(hcs.cell 1).trans (hcs3 1 b rfl)
       have n2:wr.cell? ⟨nb,2,none⟩=some (.int .i64 (c:Int)):=(hcs.cell 2).trans (hcs3 2 c rfl)
       have n3:wr.cell? ⟨nb,3,none⟩=some (.int .i64 (d:Int)):=(hcs.cell 3).trans (hcs3 3 d rfl)
       have n4:wr.cell? ⟨nb,4,none⟩=some (.int .i64 (e:Int)):=(hcs.cell 4).trans (hcs3 4 e rfl)
       have hnl:=hcs.lt
       have c6:=HC6.out wr hbw
       have hgl2:g < wr.heap.size:=Nat.lt_of_lt_of_le hgl hbw.size
       have HQR:=Lib.hid (HQ2.out.below hbw HQ2.out.lt)
       have r3:=(HQR.out.cell 3).trans (show _=some (Value.int .i64 0) from rfl)
       have r4:=(HQR.out.cell 4).trans (show _=some (Value.int .i64 0) from rfl)
       have r5:=(HQR.out.cell 5).trans (show _=some (Value.int .i64 0) from rfl)
       have r6:=(HQR.out.cell 6).trans (show _=some (Value.int .i64 0) from rfl)
       have r7:=(HQR.out.cell 7).trans (show _=some (Value.bool false) from rfl)
       have r8:=(HQR.out.cell 8).trans (show _=some (Value.int .i64 0) from rfl)
       have r9:=(HQR.out.cell 9).trans (show _=some (Value.slice none 0 0) from rfl)
       have f3:=HQR.out.frozen 3
       have f4:=HQR.out.frozen 4
       have f5:=HQR.out.frozen 5
       have f6:=HQR.out.frozen 6
       have f7:=HQR.out.frozen 7
       have f8:=HQR.out.frozen 8
       have f9:=HQR.out.frozen 9
       have hql:=HQR.out.lt
       have HKS:=Lib.hid (blk_cfgP (c:=⟨(a:Int),(b:Int),(c:Int),(d:Int),b2,(e:Int)⟩) HQR.out)
       have HBS:=Lib.hid (below_cfgP HBWR.out hBp (.int .i64 (a:Int)) (.int .i64 (b:Int)) (.int .i64 (c:Int)) (.int .i64 (d:Int)) (.bool b2) (.int .i64 (e:Int)) (.slice none 0 0))
       have hb2:(sk.toList == [109,117,108,116,105])=b2:=HSM.out
       clear hcs hcs3 hcsz hbw
       go_upto_region 13 with fail
       go_region
       all_goals go_wp2
       all_goals go_ret
       all_goals first | (refine ⟨HBS.out.drew,?_⟩;rw [HNL.out];exact ⟨rfl,HKS.out.drew⟩) | (refine ⟨HBS.out,?_⟩;rw [HNL.out];exact ⟨rfl,HKS.out⟩)
   ·have q5:(sk.toList == [115,105,110,103,108,101])=false:=str_no fun e=>hok (.inl (HSK.out.symm.trans e))
    have q6:(sk.toList == [109,117,108,116,105])=false:=str_no fun e=>hok (.inr (HSK.out.symm.trans e))
    have HN:Hid (configL l.data.toList=none):=Lib.hid (by rw [HEQ.out,if_neg fun h=>hok h.2])
    clear hok
    go_wp2
    go_ret
    refine ⟨HBW2.out,?_⟩
    rw [HN.out]
    exact ⟨rfl,_,_,HQ2.out⟩
  ·have q1:(su.toList == [99,111,110,102,105,103])=false:=str_no fun e=>hcf (HSU.out.symm.trans e)
   have HN:Hid (configL l.data.toList=none):=Lib.hid (by rw [HEQ.out,if_neg fun h=>hcf h.1])
   clear hcf
   go_wp2
   go_ret
   refine ⟨HBW2.out,?_⟩
   rw [HN.out]
   exact ⟨rfl,_,_,HQ2.out⟩
 ·have q0:((m:Int) != 7)=true:=by simp;omega
  have HN:Hid (configL l.data.toList=none):=Lib.hid (configL_no (by rw [← HWS.out,← HMM.out];exact h7))
  go_wp2
  go_ret
  refine ⟨HBW2.out,?_⟩
  rw [HN.out]
  exact ⟨rfl,_,_,HQ2.out⟩
theorem bodyL_suffix:∀ {f:Nat} {t b r:List UInt8},bodyL f t=some (b,r)→∃ k,r=t.drop k
 | 0,t,b,r,h=>by cases h
 | f + 1,t,b,r,h=>by
  unfold bodyL at h
  cases hn:nextL t with
  | none=>rw [hn] at h;cases h
  | some z =>
   obtain ⟨l,q⟩:=z
   have h1:=(nextL_len hn).1
   have h2:q=t.drop (l.length + 1):=by
    rw [h1,show l.length + 1=(l ++ [10]).length by simp,show l ++ 10 :: q=(l ++ [10]) ++ q by simp,List.drop_left]
   rw [hn] at h
   simp only at h
   split at h
   ·injection h with h
    injection h with h3 h4
    exact ⟨_,by rw [← h4];exact h2⟩
   ·cases hb:bodyL f q with
    | none=>rw [hb] at h;cases h
    | some y =>
     obtain ⟨b',r'⟩:=y
     rw [hb] at h
     injection h with h
     injection h with h3 h4
     obtain ⟨k,hk⟩:=bodyL_suffix hb
     refine ⟨l.length + 1 + k,?_⟩
     rw [← h4,hk,h2,List.drop_drop]
theorem drop_back (s:ByteArray) (n:Nat) {r:List UInt8} (h:∃ k,r=(s.data.toList.drop n).drop k):r=s.data.toList.drop (s.size - r.length)∧r.length ≤ s.size - n:=by
 obtain ⟨k,hk⟩:=h
 have hz:s.data.toList.length=s.size:=Array.length_toList
 rw [List.drop_drop] at hk
 have hl:r.length=s.size - (n + k):=by rw [hk,List.length_drop,hz]
 refine ⟨?_,by omega⟩
 rcases Nat.le_total (n + k) s.size with h | h
 ·rw [hl,show s.size - (s.size - (n + k))=n + k by omega]
  exact hk
 ·have h0:r=[]:=by rw [hk];exact List.drop_eq_nil_of_le (by omega)
  rw [h0]
  simp only [List.length_nil,Nat.sub_zero]
  exact (List.drop_eq_nil_of_le (by omega)).symm
theorem goL_one {s:ByteArray} {n i p:Nat} {x:SSt} (h:EndsAt s n i):goL n p x (s.data.toList.drop n)=match oneR x p s n (i + 1) (s.extract n i).data.toList with
  | .error y=>.error y
  | .ok (x',p',n')=>goL n' p' x' (s.data.toList.drop n'):=by
 have hz:s.data.toList.length=s.size:=Array.length_toList
 have hns:n < s.size:=Nat.lt_of_le_of_lt h.1 h.2.1
 have hne:s.data.toList.drop n ≠ []:=fun e=>by
  have:=congrArg List.length e
  rw [List.length_drop,hz] at this
  simp at this
  omega
 have hll:(s.extract n i).data.toList.length=i - n:=by
  rw [Array.length_toList]
  show (s.extract n i).size=_
  rw [ByteArray.size_extract]
  have:=h.2.1
  omega
 rw [goL_eq,if_neg hne,nextL_of s n i h.1 h.2.1 h.2.2.1 h.2.2.2]
 simp only
 unfold oneR headL
 by_cases hp:partL ((splitF 32 (s.extract n i).data.toList).head?.getD []) < p
 ·rw [if_pos hp,if_pos hp]
 ·rw [if_neg hp,if_neg hp]
  by_cases hw:(s.extract n i).data.toList=wProgram
  ·rw [if_pos hw,if_pos hw]
   unfold progR
   by_cases h16:x.set.progs.length=16
   ·rw [if_pos h16,if_pos h16]
   ·rw [if_neg h16,if_neg h16]
    cases hb:bodyG (s.data.toList.drop (i + 1)) with
    | none =>
     simp only
     rw [List.length_drop,hz,show n + (s.size - n)=s.size by omega]
    | some z =>
     obtain ⟨b,r⟩:=z
     simp only
     cases hpf:parseF b with
     | error e =>
      simp only
      rw [hll,show n + (i - n) + 1 + e.2=i + 1 + e.2 by have:=h.1;omega]
     | ok L =>
      simp only
      obtain ⟨h1,h2⟩:=drop_back s (i + 1) (bodyL_suffix hb)
      rw [List.length_drop,hz,show n + (s.size - n - r.length)=s.size - r.length by have:=h.1;have:=h.2.1;omega,← h1]
  ·rw [if_neg hw,if_neg hw]
   cases plainL x (s.extract n i).data.toList (splitF 32 (s.extract n i).data.toList) with
   | error e=>rfl
   | ok x' =>
    simp only
    rw [hll,show n + (i - n) + 1=i + 1 by have:=h.1;omega]
theorem goL_none {s:ByteArray} {n p:Nat} {x:SSt} (hn:n < s.size) (h:NoEnd s n):goL n p x (s.data.toList.drop n)=.error (9,n):=by
 have hz:s.data.toList.length=s.size:=Array.length_toList
 have hne:s.data.toList.drop n ≠ []:=fun e=>by
  have:=congrArg List.length e
  rw [List.length_drop,hz] at this
  simp at this
  omega
 rw [goL_eq,if_neg hne,nextL_no s n h]
theorem goL_last {s:ByteArray} {n p:Nat} {x:SSt} (hn:s.size ≤ n):goL n p x (s.data.toList.drop n)=.ok x:=by
 have hz:s.data.toList.length=s.size:=Array.length_toList
 rw [List.drop_eq_nil_of_le (by omega)]
 rfl
/-! ### how much is read -/
theorem Lim.of_ok {x:SSt} {m:Nat} (h:ReadOk x) (h1:x.set.regs.length ≤ m) (h2:x.lines.length ≤ m):Lim x m:=by
 obtain ⟨ps,e1,e2,_⟩:=h.progs
 exact ⟨h1,h2,by rw [e1,List.length_map];exact e2,h.thr,fun l hl=>(h.jobs l hl).1,h.steps.2⟩
theorem jobL_regs {s s':PSet} {w:List (List UInt8)} (h:jobL s w=.ok s'):s'.regs=s.regs:=by
 unfold jobL at h
 split at h
 ·split at h
  ·cases h
  ·split at h
   ·split at h
    ·cases h
    ·split at h
     ·cases h
     ·injection h with h
      subst h
      rfl
   ·cases h
 ·cases h
theorem runL_lens {x x':SSt} {w:List (List UInt8)} (h:runL x w=.ok x'):x'.set=x.set∧x'.lines.length=x.lines.length + 1:=by
 unfold runL at h
 split at h
 ·split at h
  ·cases h
  ·split at h
   ·cases h
   ·injection h with h
    subst h
    exact ⟨rfl,by simp⟩
 ·cases h
theorem plainL_lens {x x':SSt} {l:List UInt8} {w:List (List UInt8)} (h:plainL x l w=.ok x'):x'.set.regs.length ≤ x.set.regs.length + 1∧x'.lines.length ≤ x.lines.length + 1:=by
 unfold plainL at h
 split at h
 ·split at h
  ·injection h with h
   subst h
   simp
  ·cases h
 ·split at h
  ·split at h
   ·cases h
   ·injection h with h
    subst h
    simp
  ·split at h
   ·cases hj:jobL x.set w with
    | error e=>rw [hj] at h;cases h
    | ok s' =>
     rw [hj] at h
     injection h with h
     subst h
     have:=jobL_regs hj
     simp [this]
   ·split at h
    ·obtain ⟨h1,h2⟩:=runL_lens h
     rw [h1]
     omega
    ·split at h
     ·injection h with h
      subst h
      simp
     ·cases h
structure Rnd (s:ByteArray) (x:SSt) (p n:Nat):Prop where
 ok:ReadOk x
 regs:x.set.regs.length ≤ n
 lines:x.lines.length ≤ n
 part:p ≤ 4
 le:n ≤ s.size
theorem Rnd.lim {s:ByteArray} {x:SSt} {p n:Nat} (h:Rnd s x p n) (hs:s.size ≤ 65535):Lim x 65535:=(Lim.of_ok h.ok h.regs h.lines).more (by have:=h.le;omega)
theorem Rnd.start {s:ByteArray} {c:Cfg} {n:Nat} (hn:n ≤ s.size):Rnd s ⟨⟨c,[],[],[]⟩,[],0⟩ 1 n :=
 ⟨⟨by simp,⟨[],rfl,by simp,fun L hL=>(by cases hL)⟩,fun t ht=>(by cases ht),fun p hp=>(by cases hp),⟨rfl,by simp⟩⟩,Nat.zero_le _,Nat.zero_le _,by omega,hn⟩
theorem Rnd.next {s:ByteArray} {x x':SSt} {p p' n n' i:Nat} (h:Rnd s x p n) (he:EndsAt s n i) (ho:oneR x p s n (i + 1) (s.extract n i).data.toList=.ok (x',p',n')):Rnd s x' p' n'∧n < n'∧x'.set.cfg=x.set.cfg:=by
 have h1:=he.1
 have h2:=he.2.1
 unfold oneR at ho
 split at ho
 ·cases ho
 ·split at ho
  ·split at ho
   ·rename_i y m hp
    injection ho with ho
    injection ho with ho1 ho2
    injection ho2 with ho2 ho3
    subst ho1 ho2 ho3
    unfold progR at hp
    split at hp
    ·cases hp
    ·rename_i h16
     split at hp
     ·cases hp
     ·rename_i b r hb
      split at hp
      ·cases hp
      ·rename_i L hL
       injection hp with hp
       injection hp with hp1 hp2
       subst hp1 hp2
       obtain ⟨h3,h4⟩:=drop_back s (i + 1) (bodyL_suffix hb)
       have hq:=parse_enc hL
       obtain ⟨ps,e1,e2,e3⟩:=h.ok.progs
       have hln:ps.length < 16:=by
        rw [e1,List.length_map] at h16
        omega
       refine ⟨⟨⟨h.ok.thr,⟨ps ++ [L],by show x.set.progs ++ [bytesOf L]=_;rw [e1,List.map_append];rfl,by rw [List.length_append,List.length_singleton];omega,fun M hM=>?_⟩,fun t ht=>?_,h.ok.lines,h.ok.steps⟩,?_,?_,part_le _,by omega⟩,by omega,rfl⟩
       ·rcases List.mem_append.1 hM with hM | hM
        ·exact e3 M hM
        ·obtain rfl:=List.mem_singleton.1 hM
         exact ⟨hq.1,by rw [← bytesOf_size];exact hq.2.1⟩
       ·exact ⟨(h.ok.jobs t ht).1,fun j hj=>jobOk_mono ((h.ok.jobs t ht).2 j hj) (by simp)⟩
       ·have:=h.regs;show x.set.regs.length ≤ _;omega
       ·have:=h.lines;show x.lines.length ≤ _;omega
   ·cases ho
  ·split at ho
   ·cases ho
   ·rename_i y hp
    injection ho with ho
    injection ho with ho1 ho2
    injection ho2 with ho2 ho3
    subst ho1 ho2 ho3
    obtain ⟨g1,g2⟩:=plainL_ok h.ok hp
    obtain ⟨g3,g4⟩:=plainL_lens hp
    exact ⟨⟨g1,by have:=h.regs;omega,by have:=h.lines;omega,part_le _,by omega⟩,by omega,g2⟩
def PRestRes (B:Nat) (w:World) (p:Nat) (s:ByteArray):Except (Nat × Nat) SSt→Prop
 | .ok x=>∃ a n,PGood B w p s a n x
 | .error y=>PBad w p y.1 y.2
theorem goL_err0 {n p:Nat} {x:SSt} {t:List UInt8} {y:Nat × Nat} (h:goL n p x t=.error y):y.1 ≠ 0:=(goesL_err h).1
def RestSo (B:Nat) (s:ByteArray) (p:Nat) (G:Except (Nat × Nat) SSt) (W:World) (gk:Nat) (pv:Value):Prop :=
 (∃ (n a q:Nat) (x:SSt),pv=.int .i64 q∧gk + n=s.size + 1∧Rnd s x q n∧PGood B W p s a n x∧G=goL n q x (s.data.toList.drop n)) ∨ (∃ y,G=.error y∧y.1 ≠ 0∧PBad W p y.1 y.2∧gk=0)
set_option maxHeartbeats 8000000 in
theorem prest_any {C:Nat} (B p a0 n0:Nat) (s:ByteArray) (hs:s.size ≤ 65535) (x0:SSt) (w:World) (hE:EnvP C w) (hCB:C ≤ B) (hG:PGood B w p s a0 n0 x0) (hBw:B ≤ w.heap.size) (hBp:B ≤ p) (hR:Rnd s x0 1 n0) :
  Calls Tryz.prog 18 #[.pointer (some ⟨p,0,none⟩)] w fun e w'=>e=.returned (.tuple #[])∧Below B w w'∧PRestRes B w' p s (goL n0 1 x0 (s.data.toList.drop n0)):=by
 obtain ⟨G,hGG⟩:∃ G,G=goL n0 1 x0 (s.data.toList.drop n0):=⟨_,rfl⟩
 rw [← hGG]
 have HGG:=Lib.hid hGG
 have HG:=Lib.hid hG
 have HR:=Lib.hid hR
 have HEN:Hid (∀ W,Below B w W→EnvP C W):=Lib.hid fun W hW=>hE.below (hW.mono hCB)
 have hn0:=hR.le
 clear hGG hG hR hE
 go_enter Tryz.func18,Tryz.ntmps18
 go_upto_region 1 with fail
 go_loopg [2,3,4,5,6] (s.size + 1 - n0) (fun gk pv _ _ _ _ W=>Hid (RestSo B s p G W gk pv)∧Below B w W)
 case atStart=>exact ⟨Lib.hid (.inl ⟨n0,a0,1,x0,rfl,by omega,HR.out,HG.out,HGG.out⟩),Below.refl _ _⟩
 case round =>
  obtain ⟨HSO,hbw⟩:=hrel
  have HBW:=Lib.hid hbw
  have hBr:B ≤ wr.heap.size:=Nat.le_trans hBw hbw.size
  clear hbw
  rcases HSO.out with ⟨n,a,q,x,rfl,hgk,hrn,hgd,hge⟩ | ⟨y,hge,hy0,hbad,hgk⟩
  ·have HRN:=Lib.hid hrn
   have HGE:=Lib.hid hge
   have HGK:=Lib.hid hgk
   have hnle:=hrn.le
   obtain ⟨rv,pv,tv,lv,T,L,hbk,hS⟩:=hgd
   have x14:wr.cell? ⟨p,14,none⟩=some (.int .i64 0):=(hbk.cell 14).trans rfl
   have hpl:=hbk.lt
   have HS:=Lib.hid hS
   have HBK:=Lib.hid hbk
   clear hrn hge hgk hS HSO
   rcases ends_or s n with ⟨i,he⟩ | hno
   ·have HLN:=Lib.hid (line_hit hs he p a x.set.cfg rv pv tv lv x.steps 0 0 wr hbk)
    have HE:=Lib.hid he
    have hjs:=he.2.1
    have hni:=he.1
    have HGO:=Lib.hid (goL_one (p:=q) (x:=x) he)
    obtain ⟨l,hl⟩:∃ l,l=s.extract n i:=⟨_,rfl⟩
    rw [← hl] at HLN HGO
    have HL:=Lib.hid hl
    have hlz:l.size ≤ 65535:=by rw [hl,ByteArray.size_extract];omega
    clear he hl hbk
    go_upto_region 3 with (go_at_call 42;refine HLN.out.mono ?_;rintro e w1 ⟨rfl,hF,hB1⟩;have HF:=Lib.hid hF;have HB1:=Lib.hid hB1;clear hF hB1)
    have HBW1:Hid (Below B w w1):=Lib.hid (HBW.out.trans (below_of_frm HF.out hBr hBp))
    have hB1s:B ≤ w1.heap.size:=Nat.le_trans hBr HF.out.size
    have HG1:Hid (PGood B w1 p s n (i + 1) x):=Lib.hid (PGood.frm HS.out HBK.out HF.out HB1.out)
    have HSP:=Lib.hid (psplit_any (HEN.out w1 HBW1.out) l hlz)
    obtain ⟨h0,hh0⟩:∃ h0:ByteArray,h0=⟨(headL l.data.toList).toArray⟩:=⟨_,rfl⟩
    have hh0l:h0.data.toList=headL l.data.toList:=by rw [hh0]
    have HHC:Hid (∀ (W:World) (g:Nat),WordsAt W W.heap.size g (splitF 32 l.data.toList)→W.cell? ⟨g,0,none⟩=some (.string h0)):=Lib.hid fun W g hw=>by
     rw [hh0]
     refine hw.cell 0 _ ?_
     rw [← List.head?_eq_getElem?,head_some]
    have HPT:=Lib.hid (fun W=>part_any h0 W)
    rw [hh0l] at HPT
    obtain ⟨pt,hpt⟩:∃ pt,pt=partL (headL l.data.toList):=⟨_,rfl⟩
    rw [← hpt] at HPT
    have HPTE:=Lib.hid hpt
    obtain ⟨m,hm⟩:∃ m,m=(splitF 32 l.data.toList).length:=⟨_,rfl⟩
    have hm0:(0:Int) < (m:Int):=by rw [hm,splitF_length];omega
    rw [← hm] at HSP
    have HMM:=Lib.hid hm
    clear hh0 hh0l hpt hm
    go_upto_region 7 with (go_at_call 43;refine HSP.out.mono ?_;rintro e w2 ⟨g,rfl,hw,hb2⟩;have HW:=Lib.hid hw;have HB2:=Lib.hid hb2;have c0:=HHC.out _ _ hw;have hgl:=hw.lt;clear hw hb2)
    have HG2:=Lib.hid (HG1.out.below HB2.out)
    have HBW2:Hid (Below B w w2):=Lib.hid (HBW1.out.trans (HB2.out.mono hB1s))
    have hB2s:B ≤ w2.heap.size:=Nat.le_trans hB1s HB2.out.size
    by_cases hp:pt < q
    ·have q1:decide ((pt:Int) < (q:Int))=true:=decide_eq_true (by omega)
     have q2:decide (pt < q)=true:=decide_eq_true hp
     have HER:Hid (G=.error (9,n)):=Lib.hid (by rw [HGE.out,HGO.out,oneR_no (by rw [← HPTE.out];exact hp)])
     obtain ⟨rv2,pv2,tv2,lv2,T2,L2,hbk2,_⟩:=HG2.out
     have HFA:=Lib.hid (fails_any s p n (i + 1) x.set.cfg rv2 pv2 tv2 lv2 x.steps 0 9 n w2 hbk2)
     obtain ⟨y1,hpl2⟩:=HG2.out.at1
     clear hbk2 hp
     go_wp2_with (first | (go_at_call 45;refine (HPT.out _).mono ?_;rintro e w3 ⟨rfl,rfl⟩) | (go_at_call 17;refine HFA.out.mono ?_;rintro e w3 ⟨rfl,hF,hB⟩))
     refine bodyPost_ret (results_none rfl _ _ _) rfl ?_
     refine ⟨rfl,HBW2.out.trans (below_of_frm hF hB2s hBp),?_⟩
     rw [HER.out]
     exact ⟨_,_,_,_,_,_,_,_,_,hB⟩
    ·have q1:decide ((pt:Int) < (q:Int))=false:=decide_eq_false (by omega)
     have q2:decide (pt < q)=false:=decide_eq_false hp
     have HON:=Lib.hid (pone_any B p g m n (i + 1) s l hs (by omega) hlz x w2 (HEN.out w2 HBW2.out) hCB HG2.out hB2s hBp (HRN.out.lim hs) HW.out (by rw [← HMM.out];exact Nat.le_refl _))
     rw [← HMM.out] at HON
     unfold PPostP at HON
     have HOP:=Lib.hid (oneR_part (x:=x) (s:=s) (at_:=n) (n:=i + 1) (l:=l.data.toList) (part:=q) (by rw [← HPTE.out];omega))
     have HNX:Hid (∀ x' p' n',oneR x q s n (i + 1) l.data.toList=.ok (x',p',n')→Rnd s x' p' n'∧n < n'):=Lib.hid fun x' p' n' ho=>by
      rw [HL.out] at ho
      have h3:=HRN.out.next HE.out ho
      exact ⟨h3.1,h3.2.1⟩
     obtain ⟨R,hR⟩:∃ R,R=oneP x s n (i + 1) l.data.toList:=⟨_,rfl⟩
     rw [← hR] at HON HOP
     clear hR hp
     go_upto_region 11 with (go_at_call 45;refine (HPT.out _).mono ?_;rintro e w3 ⟨rfl,rfl⟩)
     go_wp2_with (go_at_call 46;refine HON.out.mono ?_;rintro e w3 ⟨rfl,hb3,hres⟩)
     cases R with
     | error y =>
      have HER:Hid (G=.error y):=Lib.hid (by rw [HGE.out,HGO.out,HOP.out])
      have hy0:y.1 ≠ 0:=goL_err0 (by rw [← HGE.out];exact HER.out)
      have HB3:=Lib.hid hb3
      have HBD:=Lib.hid hres
      clear hb3 hres
      go_roundg 0
      case measure=>have:=HGK.out;omega
      case rel=>exact ⟨Lib.hid (.inr ⟨y,HER.out,hy0,HBD.out,rfl⟩),HBW2.out.trans HB3.out⟩
     | ok z =>
      obtain ⟨x',n'⟩:=z
      obtain ⟨a',hg'⟩:=hres
      obtain ⟨hr',hnn⟩:=HNX.out x' (partL (headL l.data.toList)) n' HOP.out
      have HGE2:Hid (G=goL n' (partL (headL l.data.toList)) x' (s.data.toList.drop n')):=Lib.hid (by rw [HGE.out,HGO.out,HOP.out])
      rw [← HPTE.out] at hr' HGE2
      have hle':=hr'.le
      have HB3:=Lib.hid hb3
      have HGD:=Lib.hid hg'
      have HRD:=Lib.hid hr'
      clear hb3 hg' hr'
      go_roundg (s.size + 1 - n')
      case measure=>have:=HGK.out;omega
      case rel=>exact ⟨Lib.hid (.inl ⟨n',a',pt,x',rfl,by omega,HRD.out,HGD.out,HGE2.out⟩),HBW2.out.trans HB3.out⟩
   ·have HLN:=Lib.hid (line_miss hs hnle hno p a x.set.cfg rv pv tv lv x.steps 0 0 wr hbk)
    have HNO:=Lib.hid hno
    clear hno hbk
    go_upto_region 3 with (go_at_call 42;refine HLN.out.mono ?_;rintro e w1 ⟨rfl,hF,hB1⟩;have HF:=Lib.hid hF;have HB1:=Lib.hid hB1;clear hF hB1)
    have HBW1:Hid (Below B w w1):=Lib.hid (HBW.out.trans (below_of_frm HF.out hBr hBp))
    have hB1s:B ≤ w1.heap.size:=Nat.le_trans hBr HF.out.size
    have HG1:Hid (PGood B w1 p s n n x):=Lib.hid (PGood.frm HS.out HBK.out HF.out HB1.out)
    have y0:w1.cell? ⟨p,0,none⟩=some (.string s):=(HB1.out.cell 0).trans rfl
    have y1:w1.cell? ⟨p,1,none⟩=some (.int .i64 n):=(HB1.out.cell 1).trans rfl
    have hpl1:=HB1.out.lt
    by_cases hns:n < s.size
    ·have q1:decide ((n:Int) < (s.size:Int))=true:=decide_eq_true (by omega)
     have q2:decide (n < s.size)=true:=decide_eq_true hns
     have HER:Hid (G=.error (9,n)):=Lib.hid (by rw [HGE.out,goL_none hns HNO.out])
     have HFA:=Lib.hid (fun k=>fails_any s p n n x.set.cfg rv pv tv lv x.steps 0 9 n (w1.drewN k) (HB1.out.drewN k))
     clear hns
     go_upto_region 4 with fail
     go_quiet (fail)
     go_wp2_with (go_at_call 17;refine (HFA.out _).mono ?_;rintro e w3 ⟨rfl,hF,hB⟩)
     refine bodyPost_ret (results_none rfl _ _ _) rfl ?_
     refine ⟨rfl,(below_drewN HBW1.out _).trans (below_of_frm hF hB1s hBp),?_⟩
     rw [HER.out]
     exact ⟨_,_,_,_,_,_,_,_,_,hB⟩
    ·have q1:decide ((n:Int) < (s.size:Int))=false:=decide_eq_false (by omega)
     have q2:decide (n < s.size)=false:=decide_eq_false hns
     have HER:Hid (G=.ok x):=Lib.hid (by rw [HGE.out,goL_last (by omega)])
     clear hns
     go_upto_region 4 with fail
     go_quiet (fail)
     go_wp2
     refine bodyPost_ret (results_none rfl _ _ _) rfl ?_
     refine ⟨rfl,below_drewN HBW1.out _,?_⟩
     rw [HER.out]
     obtain ⟨rv2,pv2,tv2,lv2,T2,L2,hbk2,hS2⟩:=HG1.out
     exact ⟨n,n,_,_,_,_,_,_,hbk2.drewN _,⟨own_drewN hS2.regs,own_drewN hS2.progs,own_drewN hS2.thr,⟨fun y hy=>own_drewN (hS2.jobs.own y hy),hS2.jobs.ne⟩,⟨fun y hy=>own_drewN (hS2.args.own y hy),hS2.args.ne⟩,hS2.thrEq,own_drewN hS2.lines,⟨fun y hy=>own_drewN (hS2.steps.own y hy),hS2.steps.ne⟩,hS2.linesEq⟩⟩
  ·have HER:=Lib.hid hge
   have HBD:=Lib.hid hbad
   obtain ⟨s',a',n',c',rv',pv',tv',lv',k',hb'⟩:=hbad
   have x14:wr.cell? ⟨p,14,none⟩=some (.int .i64 y.1):=(hb'.cell 14).trans rfl
   have hpl:=hb'.lt
   have q1:(((y.1:Nat):Int) == 0)=false:=by simp;omega
   clear hb' hge HSO
   go_wp2
   go_end0
   refine ⟨rfl,HBW.out,?_⟩
   rw [HER.out]
   exact HBD.out
end Go.Proofs.YtiheggkkgbfndaaGreatDoor
