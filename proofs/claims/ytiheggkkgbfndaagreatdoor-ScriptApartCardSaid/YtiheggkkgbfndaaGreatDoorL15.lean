/- script: a region's line. -/
import Derived.Test.YtiheggkkgbfndaaGreatDoorL06
import Derived.Test.YtiheggkkgbfndaaGreatDoorL09
import Derived.Test.YtiheggkkgbfndaaGreatDoorL14
namespace Go.Proofs.YtiheggkkgbfndaaGreatDoor
open Go.RowKit Go.Joins Go.ChangeShapes Go.WideShapes Go.Deep
set_option linter.unusedVariables false
set_option linter.unusedSimpArgs false
set_option maxRecDepth 100000
def PGood (B:Nat) (w:World) (p:Nat) (s:ByteArray) (a n:Nat) (x:SSt):Prop:=∃ rv pv tv lv T L,Blk w p 56 (RdV s a n x.set.cfg rv pv tv lv x.steps 0 0)∧SetAt B w x rv pv tv lv T L
def PBad (w:World) (p:Nat) (e pl:Nat):Prop:=∃ s a n c rv pv tv lv k,Blk w p 56 (RdV s a n c rv pv tv lv k e pl)
theorem PGood.below {B:Nat} {w w':World} {p:Nat} {s:ByteArray} {a n:Nat} {x:SSt} (h:PGood B w p s a n x) (hb:Below w.heap.size w w'):PGood B w' p s a n x:=by
 obtain ⟨rv,pv,tv,lv,T,L,h1,h2⟩:=h
 exact ⟨rv,pv,tv,lv,T,L,h1.below hb h1.lt,h2.below hb⟩
theorem kindF_at {i:Nat} (hi:i < 4):kindF (kindsL.getD i [])=some (i + 1):=by
 revert hi
 revert i
 decide
theorem kindF_no {m:List UInt8} (h:∀ j,j < 4→kindsL.getD j [] ≠ m):kindF m=none:=kindF_none h
def kindB (i:Nat):List UInt8:=if i=0 then [] else kindsL.getD (i - 1) []
theorem kindV_at {i:Nat} (hi:i < 5):kindV[i]?=some (.string ⟨(kindB i).toArray⟩):=by
 match i,hi with
 | 0,_=>rfl
 | 1,_=>rfl
 | 2,_=>rfl
 | 3,_=>rfl
 | 4,_=>rfl
def PRegPost (B p:Nat) (s:ByteArray) (a n:Nat) (x:SSt) (ws:List (List UInt8)) (w:World) (e:Ending) (w':World):Prop:=Below B w w'∧match regionL ws with
 | some r=>e=.returned (.bool true)∧PGood B w' p s a n { x with set:={ x.set with regs:=x.set.regs ++ [r] } }
 | none=>e=.returned (.bool false)∧PGood B w' p s a n x
def regN:Option Int→Option Nat→Option Reg
 | some n,some k=>some ⟨(k:Int),n⟩
 | _,_=>none
theorem regionL_three (u k m:List UInt8):regionL [u,k,m]=regN (numIn m 0 9223372036854775807) (kindF k):=by
 show (match numIn m 0 maxI,kindF k with | some n,some k=>some (⟨(k:Int),n⟩:Reg) | _,_=>none)=_
 show _=regN (numIn m 0 maxI) (kindF k)
 cases numIn m 0 maxI <;> cases kindF k <;> rfl
theorem regionL_no {ws:List (List UInt8)} (h:ws.length ≠ 3):regionL ws=none:=by
 match ws,h with
 | [],_=>rfl
 | [_],_=>rfl
 | [_,_],_=>rfl
 | [_,_,_],h=>exact absurd rfl h
 | _ :: _ :: _ :: _ :: _,_=>rfl
set_option maxHeartbeats 4000000 in
theorem pregion_any {C:Nat} (B p b c:Nat) (s:ByteArray) (a n:Nat) (ws:List (List UInt8)) (x:SSt) (w:World) (hE:EnvP C w) (hCB:C ≤ B) (hG:PGood B w p s a n x) (hBw:B ≤ w.heap.size) (hBp:B ≤ p) (hW:WordsAt w w.heap.size b ws) (hws:Brief ws) (hrl:x.set.regs.length ≤ 65535) :
  Calls Tryz.prog 78 #[.pointer (some ⟨p,0,none⟩),.slice (some ⟨b,0,none⟩) ws.length c] w (PRegPost B p s a n x ws w):=by
 by_cases h3:ws.length=3
 ·obtain ⟨u,k,m,rfl⟩:∃ u k m,ws=[u,k,m]:=by
   match ws,h3 with
   | [u,k,m],_=>exact ⟨u,k,m,rfl⟩
  have c2:w.cell? ⟨b,2,none⟩=some (.string ⟨m.toArray⟩):=hW.cell 2 m rfl
  have hbl:=hW.lt
  obtain ⟨sk,hsk⟩:∃ sk:ByteArray,sk=⟨k.toArray⟩:=⟨_,rfl⟩
  obtain ⟨sm,hsm⟩:∃ sm:ByteArray,sm=⟨m.toArray⟩:=⟨_,rfl⟩
  have hkl:sk.data.toList=k:=by rw [hsk]
  have hml:sm.data.toList=m:=by rw [hsm]
  rw [← hsm] at c2
  have HC1:Hid (∀ W,Below w.heap.size w W→W.cell? ⟨b,1,none⟩=some (.string sk)):=Lib.hid fun W hW'=>by rw [hsk];exact (hW.below hW').cell 1 k rfl
  have hmz:sm.size ≤ 4294967296:=by
   have h1:sm.size=sm.data.toList.length:=Array.length_toList.symm
   have:=hws.each m (by simp)
   rw [h1,hml];omega
  have HN:=Lib.hid (number_fit hE sm hmz 0 9223372036854775807)
  unfold NumberPost at HN
  rw [hml] at HN
  have HRL:=Lib.hid (regionL_three u k m)
  obtain ⟨om,hom⟩:∃ om,om=numIn m 0 9223372036854775807:=⟨_,rfl⟩
  rw [← hom] at HN HRL
  have HG:=Lib.hid hG
  have HKL:=Lib.hid hkl
  clear hom hkl hml hsk hsm hmz h3 hW hws hG hE
  go_enter Tryz.func78,Tryz.ntmps78
  go_upto_region 4 with (go_at_call 44;refine HN.out.mono ?_;rintro e w1 ⟨hb1,nn,bb,rfl,hbb,hnn⟩;have HNB:=Lib.hid (And.intro hbb hnn);have HB1:=Lib.hid hb1;clear hbb hnn hb1)
  go_upto_region 5 with (go_at_call 62;refine (kinds_any _).mono ?_;rintro e w2 ⟨rfl,hw2⟩)
  obtain ⟨kb,hkb⟩:∃ kb,kb=w1.heap.size:=⟨_,rfl⟩
  rw [← hw2,← hkb]
  have HK2:Hid (Blk w2 kb 9 kindV):=Lib.hid (by rw [hw2,hkb];exact Blk.new _ _ _)
  have HB2:Hid (Below w.heap.size w w2):=Lib.hid (HB1.out.trans (hw2 ▸ (Below.refl _ _).alloc HB1.out.size _))
  have hG2:=HG.out.below HB2.out
  have hB2:B ≤ w2.heap.size:=Nat.le_trans hBw HB2.out.size
  have hbl2:b < w2.heap.size:=Nat.lt_of_lt_of_le hbl HB2.out.size
  have c1:=HC1.out w2 HB2.out
  have hkbl:=HK2.out.lt
  have HG2:=Lib.hid hG2
  clear hw2 hkb hG2 c2
  go_loopg [7,8,21] 5 (fun gk _ _ iv W=>∃ i:Nat,iv=.int .i64 i∧i ≤ 5∧gk + i=5∧Hid (bb=true→∀ j,j + 1 < i→kindsL.getD j [] ≠ k)∧W=w2)
  case atStart=>exact ⟨0,rfl,by omega,rfl,Lib.hid fun _ j hj=>absurd hj (by omega),rfl⟩
  case round =>
   obtain ⟨i,rfl,hi5,hgk,HNO,rfl⟩:=hrel
   obtain ⟨w2,rfl⟩:∃ w0,w0=wr:=⟨_,rfl⟩
   have HGK:=Lib.hid hgk
   clear hgk
   by_cases hil:i < 5
   ·have e1:decide ((i:Int) < 5)=true:=decide_eq_true (by omega)
    have e2:decide (i < 5)=true:=decide_eq_true hil
    have e3:(i:Int) < 5:=by omega
    obtain ⟨kk,hkk⟩:∃ kk:ByteArray,kk=⟨(kindB i).toArray⟩:=⟨_,rfl⟩
    have hkkl:kk.data.toList=kindB i:=by rw [hkk]
    have ck:w2.cell? ⟨kb,i,none⟩=some (.string kk):=by rw [hkk];exact (HK2.out.cell i).trans (kindV_at hil)
    have zw:IntKind.i64.wrap ((i:Int) + 1)=(i:Int) + 1:=by rw [IntKind.wrap_i64];omega
    have HKK:=Lib.hid hkkl
    clear hkk hkkl
    cases bb
    ·go_wp2
     go_roundg (5 - (i + 1))
     case measure=>have:=HGK.out;omega
     case rel=>exact ⟨i + 1,by simp,by omega,by omega,Lib.hid fun h=>(by cases h),rfl⟩
    ·by_cases hi0:i=0
     ·subst hi0
      have q1:decide ((0:Int) < ((0:Nat):Int))=false:=rfl
      go_wp2
      go_roundg (5 - 1)
      case measure=>have:=HGK.out;omega
      case rel=>exact ⟨1,rfl,by omega,by omega,Lib.hid fun _ j hj=>absurd hj (by omega),rfl⟩
     ·have q1:decide ((0:Int) < (i:Int))=true:=decide_eq_true (by omega)
      have q2:decide (0 < i)=true:=decide_eq_true (by omega)
      have hki:kindB i=kindsL.getD (i - 1) []:=by unfold kindB;rw [if_neg hi0]
      by_cases heq:kindB i=k
      ·have q3:(kk.toList == sk.toList)=true:=by rw [beq_iff_eq,ByteArray.toList_eq,ByteArray.toList_eq,HKK.out,HKL.out];exact heq
       have HKF:Hid (kindF k=some i):=Lib.hid (by
        rw [← heq,hki,kindF_at (by omega)]
        congr 1
        omega)
       cases om with
       | none=>exact absurd HNB.out.1 (by decide)
       | some v =>
        obtain rfl:=HNB.out.2 v rfl
        have HRR:Hid (regionL [u,k,m]=some ⟨(i:Int),v⟩):=Lib.hid (by rw [HRL.out,HKF.out];rfl)
        obtain ⟨rv,pv,tv,lv,T,L,hbk,hS⟩:=HG2.out
        have HS:=Lib.hid hS
        have HBL:=Lib.hid hbk
        have x9:w2.cell? ⟨p,9,none⟩=some rv:=(hbk.cell 9).trans rfl
        have hpl:=hbk.lt
        obtain ⟨i0,hi,hz0,hz1,hz2⟩:=info_parts info_reg
        have hc2:∀ u ∈ ([.int .i64 (i:Int),.int .i64 v]:List Value),u.oneCell'=true:=by intro u hu;simp at hu;rcases hu with rfl | rfl <;> rfl
        have hc3:x.set.regs.length + 1 ≤ maxLen:=by unfold maxLen;omega
        have hc4:(x.set.regs.length + 1) * 16 ≤ 140737488355328:=by omega
        have hc5:B ≤ (w2.alloc (.cells #[.int .i64 (i:Int),.int .i64 v] 67)).heap.size:=by simp;omega
        have HA:Hid (Below w2.heap.size w2 (w2.alloc (.cells #[.int .i64 (i:Int),.int .i64 v] 67))):=Lib.hid ((Below.refl _ _).alloc (Nat.le_refl _) _)
        have HBB:Hid (Below B w w2):=Lib.hid (HB2.out.mono hBw)
        obtain ⟨wq,rfl⟩:∃ wq,wq=w2:=⟨_,rfl⟩
        clear hS hbk heq hki hi0
        go_wp2_with (at_builtin;go_must (refine wpList_append_lies _ rfl _ _ 23 rfl B 67 i0 (.agg #[.int .i64 0,.int .i64 0]) 2 16 Tryz.underlying23 (by assumption) hz0 hz1 hz2 rfl (by decide) rv x.set.regs.length (rows rgC x.set.regs) rfl (HS.out.regs.alloc _) ⟨wq.heap.size,0,none⟩ 1 1 [.int .i64 (i:Int),.int .i64 v] rfl rfl (World.news_of_block (cs:=#[.int .i64 (i:Int),.int .i64 v]) (t:=67) (fr:=(0,0)) (by simpa using heap_alloc_new wq (.cells #[.int .i64 (i:Int),.int .i64 v] 67))) hc2 (by omega) hc3 hc4 hc5 (wq.heap.size + 1) (by simp) ?_;intro gg c' w2 hown2 hg2 hat hlt2;have hR3:=blk_past HBL.out (HS.out.regs) oth_rd.a HA.out hg2;have m6:w2.cell? ⟨p,9,none⟩=some rv:=(hR3.cell 9).trans rfl;have f6:w2.frozen? ⟨p,9,none⟩=false:=hR3.frozen 9;have hl3:=hR3.lt))
        go_ret
        obtain ⟨g1,g2,g3⟩:=HS.out.put_region HBL.out oth_rd hB2 hBp HA.out hg2 ⟨(i:Int),v⟩ hown2 9
        refine ⟨HBB.out.trans g3,?_⟩
        rw [HRR.out]
        exact ⟨rfl,_,_,_,_,_,_,g1,g2⟩
      ·have q3:(kk.toList == sk.toList)=false:=by rw [beq_eq_false_iff_ne,ByteArray.toList_eq,ByteArray.toList_eq,HKK.out,HKL.out];exact heq
       go_wp2
       go_roundg (5 - (i + 1))
       case measure=>have:=HGK.out;omega
       case rel =>
        refine ⟨i + 1,by simp,by omega,by omega,Lib.hid fun hb j hj=>?_,rfl⟩
        rcases Nat.lt_or_ge (j + 1) i with h1 | h1
        ·exact HNO.out hb j h1
        ·have:j=i - 1:=by omega
         subst this
         rw [← hki]
         exact heq
   ·have e1:decide ((i:Int) < 5)=false:=decide_eq_false (by omega)
    have e2:decide (i < 5)=false:=decide_eq_false hil
    have HRR:Hid (regionL [u,k,m]=none):=Lib.hid (by
     rw [HRL.out]
     cases om with
     | none=>rfl
     | some v =>
      have:bb=true:=HNB.out.1
      rw [kindF_no fun j hj=>HNO.out this j (by omega)]
      rfl)
    go_wp2
    go_ret
    refine ⟨HB2.out.mono hBw,?_⟩
    rw [HRR.out]
    exact ⟨rfl,HG2.out⟩
 ·have e1:((ws.length:Int) != 3)=true:=by simp;omega
  have HR:Hid (regionL ws=none):=Lib.hid (regionL_no h3)
  have HG:=Lib.hid hG
  clear h3 hW hws hG hE
  go_enter Tryz.func78,Tryz.ntmps78
  go_wp2
  go_ret
  refine ⟨Below.refl _ _,?_⟩
  rw [HR.out]
  exact ⟨rfl,HG.out⟩
set_option maxHeartbeats 2000000 in
theorem numbers_same (L:List Int) (n c c' C:Nat) (A A':Option Addr) (w:World) (hl:L.length=n) (hn9:n ≤ 9223372036854775807) (hC:C ≤ w.heap.size) (hA:Reads w C 1 A n (rows i64C L)) (hA':Reads w C 1 A' n (rows i64C L)) :
  Calls Tryz.prog 24 #[.slice A n c,.slice A' n c'] w fun e w'=>e=.returned (.bool true)∧∃ m,w'=w.drewN m:=by
 by_cases hn:0 < n
 ·obtain ⟨b,off,rfl,hb,hc⟩:=hA.flat hn
  obtain ⟨b',off',rfl,hb',hc'⟩:=hA'.flat hn
  have HC:Hid (∀ (i:Nat) (z:Int),L[i]?=some z→∀ k,(w.drewN k).cell? ⟨b,off + i,none⟩=some (.int .i64 (z:Int))∧(w.drewN k).cell? ⟨b',off' + i,none⟩=some (.int .i64 (z:Int))):=Lib.hid fun i z hi k=>by
   have hr:(rows i64C L)[i]?=some (.int .i64 (z:Int)):=by
    have:rows i64C L=L.map fun (z:Int)=>(.int .i64 (z:Int):Value):=by
     unfold rows
     clear hA hA' hc hc' hi hl hn
     induction L with
     | nil=>rfl
     | cons a r ih=>rw [List.flatMap_cons,ih];rfl
    rw [this,List.getElem?_map,hi]
    rfl
   exact ⟨hc i _ hr,hc' i _ hr⟩
  have hbl:b < w.heap.size:=Nat.lt_of_lt_of_le hb hC
  have hbl':b' < w.heap.size:=Nat.lt_of_lt_of_le hb' hC
  have HL:=Lib.hid hl
  clear hA hA' hc hc' hb hb' hC hl
  go_enter Tryz.func24,Tryz.ntmps24
  go_upto_region 4 with fail
  go_loopg [5] n (fun gk iv W=>∃ i:Nat,iv=.int .i64 i∧i ≤ n∧gk + i=n∧Hid (∃ k,W=w.drewN k))
  case atStart=>exact ⟨0,rfl,Nat.zero_le _,rfl,Lib.hid ⟨0,rfl⟩⟩
  case round =>
   obtain ⟨i,rfl,hi,hgk,HW⟩:=hrel
   have HG:=Lib.hid hgk
   clear hgk
   by_cases hil:i < n
   ·have e1:decide ((i:Int) < (n:Int))=true:=decide_eq_true (by omega)
    have e2:decide (i < n)=true:=decide_eq_true hil
    have e3:(i:Int) < (n:Int):=by omega
    obtain ⟨z,hz⟩:∃ z,L[i]?=some z:=⟨_,List.getElem?_eq_getElem (by rw [HL.out];exact hil)⟩
    obtain ⟨k,hk⟩:=HW.out
    have c1:wr.cell? ⟨b,off + i,none⟩=some (.int .i64 (z:Int)):=by rw [hk];exact (HC.out i z hz k).1
    have c2:wr.cell? ⟨b',off' + i,none⟩=some (.int .i64 (z:Int)):=by rw [hk];exact (HC.out i z hz k).2
    have hbr:b < wr.heap.size:=by rw [hk];exact hbl
    have hbr':b' < wr.heap.size:=by rw [hk];exact hbl'
    have q1:((z:Int) != (z:Int))=false:=by simp
    have zw:IntKind.i64.wrap ((i:Int) + 1)=(i:Int) + 1:=by rw [IntKind.wrap_i64];omega
    have HK:=Lib.hid hk
    clear hk hz
    go_wp2_with fail
    go_quiet (fail)
    go_wp2
    go_roundg (n - (i + 1))
    case measure=>have:=HG.out;omega
    case rel=>exact ⟨i + 1,by simp,by omega,by omega,Lib.hid ⟨k + nq,by rw [HK.out,World.drewN_drewN]⟩⟩
   ·have e1:decide ((i:Int) < (n:Int))=false:=decide_eq_false (by omega)
    have e2:decide (i < n)=false:=decide_eq_false hil
    go_wp2
    go_ret
    exact ⟨rfl,HW.out⟩
 ·obtain rfl:n=0:=by omega
  clear hA hA' hC hl
  go_enter Tryz.func24,Tryz.ntmps24
  go_upto_region 4 with fail
  go_loopg [5] 0 (fun gk iv W=>iv=.int .i64 0∧W=w)
  case atStart=>exact ⟨rfl,rfl⟩
  case round =>
   obtain ⟨rfl,rfl⟩:=hrel
   go_wp2
   go_ret
   exact ⟨rfl,0,rfl⟩
set_option maxHeartbeats 2000000 in
theorem ints_same (L:List Nat) (n c c' C:Nat) (A A':Option Addr) (w:World) (hl:L.length=n) (hn9:n ≤ 9223372036854775807) (hC:C ≤ w.heap.size) (hA:Reads w C 1 A n (rows natC L)) (hA':Reads w C 1 A' n (rows natC L)) :
  Calls Tryz.prog 25 #[.slice A n c,.slice A' n c'] w fun e w'=>e=.returned (.bool true)∧∃ m,w'=w.drewN m:=by
 by_cases hn:0 < n
 ·obtain ⟨b,off,rfl,hb,hc⟩:=hA.flat hn
  obtain ⟨b',off',rfl,hb',hc'⟩:=hA'.flat hn
  have HC:Hid (∀ (i:Nat) (z:Nat),L[i]?=some z→∀ k,(w.drewN k).cell? ⟨b,off + i,none⟩=some (.int .i64 (z:Int))∧(w.drewN k).cell? ⟨b',off' + i,none⟩=some (.int .i64 (z:Int))):=Lib.hid fun i z hi k=>by
   have hr:(rows natC L)[i]?=some (.int .i64 (z:Int)):=by
    have:rows natC L=L.map fun (z:Nat)=>(.int .i64 (z:Int):Value):=by
     unfold rows
     clear hA hA' hc hc' hi hl hn
     induction L with
     | nil=>rfl
     | cons a r ih=>rw [List.flatMap_cons,ih];rfl
    rw [this,List.getElem?_map,hi]
    rfl
   exact ⟨hc i _ hr,hc' i _ hr⟩
  have hbl:b < w.heap.size:=Nat.lt_of_lt_of_le hb hC
  have hbl':b' < w.heap.size:=Nat.lt_of_lt_of_le hb' hC
  have HL:=Lib.hid hl
  clear hA hA' hc hc' hb hb' hC hl
  go_enter Tryz.func25,Tryz.ntmps25
  go_upto_region 4 with fail
  go_loopg [5] n (fun gk iv W=>∃ i:Nat,iv=.int .i64 i∧i ≤ n∧gk + i=n∧Hid (∃ k,W=w.drewN k))
  case atStart=>exact ⟨0,rfl,Nat.zero_le _,rfl,Lib.hid ⟨0,rfl⟩⟩
  case round =>
   obtain ⟨i,rfl,hi,hgk,HW⟩:=hrel
   have HG:=Lib.hid hgk
   clear hgk
   by_cases hil:i < n
   ·have e1:decide ((i:Int) < (n:Int))=true:=decide_eq_true (by omega)
    have e2:decide (i < n)=true:=decide_eq_true hil
    have e3:(i:Int) < (n:Int):=by omega
    obtain ⟨z,hz⟩:∃ z,L[i]?=some z:=⟨_,List.getElem?_eq_getElem (by rw [HL.out];exact hil)⟩
    obtain ⟨k,hk⟩:=HW.out
    have c1:wr.cell? ⟨b,off + i,none⟩=some (.int .i64 (z:Int)):=by rw [hk];exact (HC.out i z hz k).1
    have c2:wr.cell? ⟨b',off' + i,none⟩=some (.int .i64 (z:Int)):=by rw [hk];exact (HC.out i z hz k).2
    have hbr:b < wr.heap.size:=by rw [hk];exact hbl
    have hbr':b' < wr.heap.size:=by rw [hk];exact hbl'
    have q1:((z:Int) != (z:Int))=false:=by simp
    have zw:IntKind.i64.wrap ((i:Int) + 1)=(i:Int) + 1:=by rw [IntKind.wrap_i64];omega
    have HK:=Lib.hid hk
    clear hk hz
    go_wp2_with fail
    go_quiet (fail)
    go_wp2
    go_roundg (n - (i + 1))
    case measure=>have:=HG.out;omega
    case rel=>exact ⟨i + 1,by simp,by omega,by omega,Lib.hid ⟨k + nq,by rw [HK.out,World.drewN_drewN]⟩⟩
   ·have e1:decide ((i:Int) < (n:Int))=false:=decide_eq_false (by omega)
    have e2:decide (i < n)=false:=decide_eq_false hil
    go_wp2
    go_ret
    exact ⟨rfl,HW.out⟩
 ·obtain rfl:n=0:=by omega
  clear hA hA' hC hl
  go_enter Tryz.func25,Tryz.ntmps25
  go_upto_region 4 with fail
  go_loopg [5] 0 (fun gk iv W=>iv=.int .i64 0∧W=w)
  case atStart=>exact ⟨rfl,rfl⟩
  case round =>
   obtain ⟨rfl,rfl⟩:=hrel
   go_wp2
   go_ret
   exact ⟨rfl,0,rfl⟩
def ListRd {α:Type} (W:World) (C:Nat) (enc:α→List Value) (l:List α) (v:Value):Prop:=∃ R c,v=.slice R l.length c∧l.length ≤ 9223372036854775807∧Reads W C 1 R l.length (rows enc l)
structure LinesRd (W:World) (C:Nat) (l:List PLine) (lv:Value):Prop where
 le:l.length ≤ 9223372036854775807
 rd:∃ R c vs,lv=.slice R l.length c∧vs.length=l.length∧Reads W C 2 R l.length (rows lnC (l.zip vs))∧∀ (i:Nat) x v,l[i]?=some x→vs[i]?=some v→ListRd W C natC x.thr v
theorem ListRd.below {α:Type} {W W':World} {C:Nat} {enc:α→List Value} {l:List α} {v:Value} (h:ListRd W C enc l v) (hb:Below C W W'):ListRd W' C enc l v:=by
 obtain ⟨R,c,h1,h2,h3⟩:=h
 exact ⟨R,c,h1,h2,h3.below hb⟩
theorem ListRd.more {α:Type} {W:World} {C C':Nat} {enc:α→List Value} {l:List α} {v:Value} (h:ListRd W C enc l v) (hC:C ≤ C'):ListRd W C' enc l v:=by
 obtain ⟨R,c,h1,h2,h3⟩:=h
 exact ⟨R,c,h1,h2,h3.more hC⟩
theorem LinesRd.below {W W':World} {C:Nat} {l:List PLine} {lv:Value} (h:LinesRd W C l lv) (hb:Below C W W'):LinesRd W' C l lv:=by
 obtain ⟨h0,R,c,vs,h1,h2,h3,h4⟩:=h
 exact ⟨h0,R,c,vs,h1,h2,h3.below hb,fun i x v hx hv=>(h4 i x v hx hv).below hb⟩
theorem LinesRd.more {W:World} {C C':Nat} {l:List PLine} {lv:Value} (h:LinesRd W C l lv) (hC:C ≤ C'):LinesRd W C' l lv:=by
 obtain ⟨h0,R,c,vs,h1,h2,h3,h4⟩:=h
 exact ⟨h0,R,c,vs,h1,h2,h3.more hC,fun i x v hx hv=>(h4 i x v hx hv).more hC⟩
theorem own_maxlen {w:World} {base e size n:Nat} {v:Value} {xs:List Value} (h:w.ownsRow base e size v n xs):n ≤ 9223372036854775807:=by
 rcases h.2 with ⟨_,rfl⟩ | ⟨g,cap,cur,_,_,_,hnc,hcm,_⟩
 ·omega
 ·unfold maxLen at hcm;omega
theorem ListRd.of_own {α:Type} {w:World} {B e:Nat} {enc:α→List Value} {l:List α} {v:Value} (h:w.ownsRow B e 1 v l.length (rows enc l)):ListRd w w.heap.size enc l v:=by
 obtain ⟨R,c,rfl,_,hR⟩:=own_shapes h
 exact ⟨R,c,rfl,own_maxlen h,hR⟩
theorem zip_maps {α β:Type}:∀ L:List (α × β),(L.map (·.1)).zip (L.map (·.2))=L
 | []=>rfl
 | a :: r=>by rw [List.map_cons,List.map_cons,List.zip_cons_cons,zip_maps r]
theorem lnC_len (x:PLine × Value):(lnC x).length=2:=rfl
theorem SetAt.lines_rd {B:Nat} {w:World} {x:SSt} {rv pv tv lv:Value} {T:List (Value × List (PJob × Value))} {L:List (PLine × Value)} (h:SetAt B w x rv pv tv lv T L):LinesRd w w.heap.size x.lines lv:=by
 obtain ⟨R,c,rfl,_,hR⟩:=own_shapes h.lines
 have hl:L.length=x.lines.length:=h.lens.2
 have hz:x.lines.zip (L.map (·.2))=L:=by
  rw [← h.linesEq]
  exact zip_maps L
 refine ⟨by rw [← hl];exact own_maxlen h.lines,R,c,L.map (·.2),by rw [hl],by rw [List.length_map,hl],by rw [hz,← hl];exact hR,fun i y v hy hv=>?_⟩
 rw [← h.linesEq,List.getElem?_map] at hy
 rw [List.getElem?_map] at hv
 cases hL:L[i]? with
 | none=>rw [hL] at hy;cases hy
 | some z =>
  rw [hL] at hy hv
  injection hy with hy
  injection hv with hv
  subst hy hv
  exact ListRd.of_own (h.steps.own (z.2,z.1.thr) (List.mem_map.2 ⟨z,List.mem_of_getElem? hL,rfl⟩))
theorem line_cells {W:World} {C n:Nat} {R:Option Addr} {l:List PLine} {vs:List Value} (h:Reads W C 2 R n (rows lnC (l.zip vs))) (hv:vs.length=l.length) (hl:l.length=n) (hn:0 < n) :
  ∃ b off,R=some ⟨b,off,none⟩∧b < C∧∀ (i:Nat) x v,l[i]?=some x→vs[i]?=some v→W.cell? ⟨b,off + i * 2,none⟩=some (.int .i64 (x.kind:Int))∧W.cell? ⟨b,off + i * 2 + 1,none⟩=some v:=by
 obtain ⟨b,off,rfl,hb,hc⟩:=reads_flat h hn (by omega)
 refine ⟨b,off,rfl,hb,fun i x v hx hvx=>?_⟩
 have hi:i < l.length:=(List.getElem?_eq_some_iff.1 hx).1
 have hzi:(l.zip vs)[i]?=some (x,v):=by
  rw [List.getElem?_zip_eq_some]
  exact ⟨hx,hvx⟩
 have hil:i < (l.zip vs).length:=(List.getElem?_eq_some_iff.1 hzi).1
 have hze:(l.zip vs)[i]=(x,v):=(List.getElem?_eq_some_iff.1 hzi).2
 have h0:=rows_at lnC 2 lnC_len (l.zip vs) i 0 hil (by omega)
 have h1:=rows_at lnC 2 lnC_len (l.zip vs) i 1 hil (by omega)
 rw [hze] at h0 h1
 exact ⟨by have:=hc (i * 2 + 0) _ h0;simpa using this,by have:=hc (i * 2 + 1) _ h1;simpa [Nat.add_assoc] using this⟩
set_option maxHeartbeats 2000000 in
theorem lines_same (l:List PLine) (C:Nat) (lv lv':Value) (w:World) (hC:C ≤ w.heap.size) (hL:LinesRd w C l lv) (hL':LinesRd w C l lv') :
  Calls Tryz.prog 12 #[lv,lv'] w fun e w'=>e=.returned (.bool true)∧∃ m,w'=w.drewN m:=by
 obtain ⟨hle,R,c,vs,rfl,hvl,hR,hT⟩:=hL
 obtain ⟨_,R',c',vs',rfl,hvl',hR',hT'⟩:=hL'
 obtain ⟨n,hn⟩:∃ n,n=l.length:=⟨_,rfl⟩
 rw [← hn] at hR hR' hle ⊢
 by_cases hn0:0 < n
 ·obtain ⟨b,off,rfl,hb,hc⟩:=line_cells hR hvl hn.symm hn0
  obtain ⟨b',off',rfl,hb',hc'⟩:=line_cells hR' hvl' hn.symm hn0
  have HL:=Lib.hid hn
  have HCL:Hid (∀ i,i < n→∃ (x:PLine) (v v':Value),∀ k,(w.drewN k).cell? ⟨b,off + i * 2,none⟩=some (.int .i64 (x.kind:Int))∧(w.drewN k).cell? ⟨b,off + i * 2 + 1,none⟩=some v∧(w.drewN k).cell? ⟨b',off' + i * 2,none⟩=some (.int .i64 (x.kind:Int))∧(w.drewN k).cell? ⟨b',off' + i * 2 + 1,none⟩=some v'∧Calls Tryz.prog 25 #[v,v'] (w.drewN k) fun e w'=>e=.returned (.bool true)∧∃ m,w'=(w.drewN k).drewN m):=Lib.hid fun i hi=>by
   obtain ⟨x,hx⟩:∃ x,l[i]?=some x:=⟨_,List.getElem?_eq_getElem (by omega)⟩
   obtain ⟨v,hv⟩:∃ v,vs[i]?=some v:=⟨_,List.getElem?_eq_getElem (by omega)⟩
   obtain ⟨v',hv'⟩:∃ v,vs'[i]?=some v:=⟨_,List.getElem?_eq_getElem (by omega)⟩
   refine ⟨x,v,v',fun k=>⟨(hc i x v hx hv).1,(hc i x v hx hv).2,(hc' i x v' hx hv').1,(hc' i x v' hx hv').2,?_⟩⟩
   obtain ⟨S,d,rfl,g1,g2⟩:=hT i x v hx hv
   obtain ⟨S',d',rfl,_,g2'⟩:=hT' i x v' hx hv'
   exact ints_same x.thr x.thr.length d d' C S S' (w.drewN k) rfl g1 hC (g2.drewN k) (g2'.drewN k)
  have hbl:b < w.heap.size:=Nat.lt_of_lt_of_le hb hC
  have hbl':b' < w.heap.size:=Nat.lt_of_lt_of_le hb' hC
  clear hR hR' hc hc' hT hT' hb hb' hC hn hvl hvl'
  go_enter Tryz.func12,Tryz.ntmps12
  go_upto_region 4 with fail
  go_loopg [5,6] n (fun gk iv _ W=>∃ i:Nat,iv=.int .i64 i∧i ≤ n∧gk + i=n∧Hid (∃ k,W=w.drewN k))
  case atStart=>exact ⟨0,rfl,Nat.zero_le _,rfl,Lib.hid ⟨0,rfl⟩⟩
  case round =>
   obtain ⟨i,rfl,hi,hgk,HW⟩:=hrel
   have HG:=Lib.hid hgk
   clear hgk
   by_cases hil:i < n
   ·have e1:decide ((i:Int) < (n:Int))=true:=decide_eq_true (by omega)
    have e2:decide (i < n)=true:=decide_eq_true hil
    have e3:(i:Int) < (n:Int):=by omega
    obtain ⟨k,hk⟩:=HW.out
    obtain ⟨x,v,v',hall⟩:=HCL.out i hil
    have c1:wr.cell? ⟨b,off + i * 2,none⟩=some (.int .i64 (x.kind:Int)):=by rw [hk];exact (hall k).1
    have c2:wr.cell? ⟨b,off + i * 2 + 1,none⟩=some v:=by rw [hk];exact (hall k).2.1
    have c3:wr.cell? ⟨b',off' + i * 2,none⟩=some (.int .i64 (x.kind:Int)):=by rw [hk];exact (hall k).2.2.1
    have c4:wr.cell? ⟨b',off' + i * 2 + 1,none⟩=some v':=by rw [hk];exact (hall k).2.2.2.1
    have HIN:Hid (∀ m,Calls Tryz.prog 25 #[v,v'] (wr.drewN m) fun e w'=>e=.returned (.bool true)∧∃ j,w'=(wr.drewN m).drewN j):=Lib.hid fun m=>by
     have h1:=(hall (k + m)).2.2.2.2
     rw [hk,World.drewN_drewN]
     exact h1
    have hbr:b < wr.heap.size:=by rw [hk];exact hbl
    have hbr':b' < wr.heap.size:=by rw [hk];exact hbl'
    have q1:((x.kind:Int) != (x.kind:Int))=false:=by simp
    have zw:IntKind.i64.wrap ((i:Int) + 1)=(i:Int) + 1:=by rw [IntKind.wrap_i64];omega
    have HK:=Lib.hid hk
    clear hk hall
    go_upto_region 6 with fail
    go_quiet ((go_at_call 25;exact Calls.quiet_of (HIN.out _)))
    go_upto_region 7 with fail
    go_quiet (fail)
    go_wp2
    go_roundg (n - (i + 1))
    case measure=>have:=HG.out;omega
    case rel=>exact ⟨i + 1,by simp,by omega,by omega,Lib.hid ⟨_,by rw [HK.out,World.drewN_drewN]⟩⟩
   ·have e1:decide ((i:Int) < (n:Int))=false:=decide_eq_false (by omega)
    have e2:decide (i < n)=false:=decide_eq_false hil
    go_wp2
    go_ret
    exact ⟨rfl,HW.out⟩
 ·obtain rfl:n=0:=by omega
  clear hR hR' hT hT' hC hn hvl hvl'
  go_enter Tryz.func12,Tryz.ntmps12
  go_upto_region 4 with fail
  go_loopg [5,6] 0 (fun gk iv _ W=>iv=.int .i64 0∧W=w)
  case atStart=>exact ⟨rfl,rfl⟩
  case round =>
   obtain ⟨rfl,rfl⟩:=hrel
   go_wp2
   go_ret
   exact ⟨rfl,0,rfl⟩
end Go.Proofs.YtiheggkkgbfndaaGreatDoor
namespace Go.Proofs.YtiheggkkgbfndaaGreatDoor
open Go Go.Lib
set_option linter.unusedVariables false
set_option linter.unusedSimpArgs false
theorem maxI_eq:maxI=9223372036854775807:=rfl
def i64I (v:Int):Prop:=minI ≤ v∧v ≤ maxI
/-! the first line -/
/-! regions -/
/-! programs -/
end Go.Proofs.YtiheggkkgbfndaaGreatDoor
