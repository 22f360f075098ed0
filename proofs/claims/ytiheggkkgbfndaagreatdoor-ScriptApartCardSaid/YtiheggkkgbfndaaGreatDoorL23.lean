/- carouselref14: number. -/
import Derived.Test.YtiheggkkgbfndaaGreatDoorL22
import Derived.Test.YtiheggkkgbfndaaGreatDoorL03
import Derived.Test.YtiheggkkgbfndaaGreatDoorL19
namespace Go.Proofs.YtiheggkkgbfndaaGreatDoor
open Go.RowKit Go.Joins Go.ChangeShapes Go.WideShapes Go.Deep
set_option linter.unusedVariables false
set_option linter.unusedSimpArgs false
set_option maxRecDepth 100000
def preV (s:ByteArray) (i:Nat):Nat:=decV (s.data.toList.take i)
theorem preV_succ (s:ByteArray) (i:Nat) (h:i < s.size):preV s (i + 1)=10 * preV s i + ((s[i]).toNat - 48):=by
 unfold preV
 rw [List.take_add_one,List.getElem?_eq_getElem (by rw [Array.length_toList];exact h)]
 exact decV_snoc _ _
theorem preV_all (s:ByteArray):preV s s.size=decV s.data.toList:=by
 unfold preV
 rw [List.take_of_length_le (by rw [Array.length_toList];exact Nat.le_refl _)]
theorem decV_lt (l:List UInt8) (hd:∀ c ∈ l,isDig c=true):decV l < 10 ^ l.length:=by
 induction l using snoc_ind' with
 | h0=>simp [decV]
 | h1 l c ih =>
  have h1:=ih fun x hx=>hd x (List.mem_append_left _ hx)
  have h2:48 ≤ c.toNat∧c.toNat ≤ 57:=by simpa [isDig] using hd c (by simp)
  rw [decV_snoc,List.length_append,List.length_singleton,Nat.pow_succ]
  omega
theorem preV_lt18 (s:ByteArray) (i:Nat) (hi:i ≤ 18) (hd:∀ j (h:j < s.size),j < i→48 ≤ (s[j]).toNat∧(s[j]).toNat ≤ 57):preV s i < 1000000000000000000:=by
 have h:=decV_lt (s.data.toList.take i) (fun c hc=>by
  obtain ⟨j,hj,rfl⟩:=List.mem_iff_getElem.1 hc
  rw [List.length_take,Array.length_toList] at hj
  have h2:=hd j (show j < s.data.size by omega) (by omega)
  rw [List.getElem_take]
  unfold isDig
  exact decide_eq_true h2)
 have h3:(s.data.toList.take i).length ≤ 18:=by rw [List.length_take];omega
 have h4:(10:Nat) ^ (s.data.toList.take i).length ≤ 10 ^ 18:=Nat.pow_le_pow_right (by omega) h3
 have h5:(10:Nat) ^ 18=1000000000000000000:=by decide
 unfold preV
 omega
def minS:ByteArray:=⟨#[45,57,50,50,51,51,55,50,48,51,54,56,53,52,55,55,53,56,48,56]⟩
theorem minS_list:minS.data.toList=minB:=by
 have h:=canon (l:=[57,50,50,51,51,55,50,48,51,54,56,53,52,55,55,53,56,48,56]) (by simp) (by decide) (by
  intro _ c r e
  injection e with e1 e2
  subst e1
  decide)
 have e2:decV [57,50,50,51,51,55,50,48,51,54,56,53,52,55,55,53,56,48,56]=9223372036854775808:=by decide +kernel
 rw [e2] at h
 unfold minB
 rw [← h]
 rfl
theorem numF_minus (r:List UInt8) (hm:45 :: r ≠ minB):numF (45 :: r)=match numF r with | some n=>if 0 < n then some (-n) else none | none=>none:=by
 have key:∀ n:Int,0 < n→(numF r=some n ↔ natF r=some n.toNat):=by
  intro n hn
  rw [numF_some,natF_some]
  unfold i64ok0 Go.Lib.itoa
  rw [if_neg (by omega)]
  constructor
  ·rintro ⟨h1,h2⟩;exact ⟨by omega,h2⟩
  ·rintro ⟨h1,h2⟩;exact ⟨by omega,h2⟩
 unfold numF
 rw [if_neg hm]
 simp only [if_true]
 cases hn:natF r with
 | none =>
  simp only
  cases hq:numF r with
  | none=>unfold numF at hq;rw [hq]
  | some n =>
   by_cases h0:0 < n
   ·have:=(key n h0).1 hq
    rw [hn] at this
    cases this
   ·unfold numF at hq
    rw [hq]
    simp [h0]
 | some k =>
  simp only
  by_cases hk:0 < k
  ·have:=(key (k:Int) (by omega)).2 (by rw [hn];congr 1)
   unfold numF at this
   rw [this,if_pos hk]
   simp only
   rw [if_pos (by omega)]
  ·rw [if_neg hk]
   cases hq:numF r with
   | none=>unfold numF at hq;rw [hq]
   | some n =>
    by_cases h0:0 < n
    ·have:=(key n h0).1 hq
     rw [hn] at this
     injection this with this
     omega
    ·unfold numF at hq
     rw [hq]
     simp [h0]
theorem natF_nodigit {l:List UInt8} {c:UInt8} (h:c ∈ l) (hd:isDig c=false):natF l=none:=by
 unfold natF
 rw [if_pos]
 exact .inr (.inr (.inr (.inl (List.any_eq_true.2 ⟨c,h,by rw [hd];rfl⟩))))
theorem numF_plain (s:List UInt8) (hm:s ≠ minB) (h:¬ (1 < s.length∧s.head?=some 45)):numF s=(natF s).map fun (n:Nat)=>(n:Int):=by
 unfold numF
 rw [if_neg hm]
 cases s with
 | nil=>simp [natF]
 | cons c r =>
  simp only
  by_cases hc:c=45
  ·subst hc
   have hr:r=[]:=by
    cases r with
    | nil=>rfl
    | cons x y=>exact absurd ⟨by simp,rfl⟩ h
   subst hr
   rw [if_pos rfl]
   rfl
  ·rw [if_neg hc]
def NumPost (s:ByteArray) (w:World) (e:Ending) (w':World):Prop:=w'=w∧∃ n,i64ok n∧e=.returned (.tuple #[.int .i64 n,.bool (numF s.data.toList).isSome])∧∀ m,numF s.data.toList=some m→m=n
set_option maxHeartbeats 2000000 in
theorem number_digits (s:ByteArray) (w:World) (hs:s.size ≤ 4294967296) (hm:s ≠ minS) (h:¬ (1 < s.size∧s.data.toList.head?=some 45)) :
  Calls Tryz.prog 164 #[.string s] w (NumPost s w):=by
 have hm1:(s.toList == [45,57,50,50,51,51,55,50,48,51,54,56,53,52,55,55,53,56,48,56])=false:=by
  rw [beq_eq_false_iff_ne,ByteArray.toList_eq]
  exact fun h=>hm (bytes_inj h)
 have hsz:s.data.toList.length=s.size:=Array.length_toList
 have HN:Hid (numF s.data.toList=(natF s.data.toList).map fun (n:Nat)=>(n:Int)):=Lib.hid (numF_plain _ (by rw [← minS_list];exact fun e=>hm (bytes_inj e)) (by rw [hsz];exact h))
 have HNF:=HN
 clear HN
 by_cases h0:s.size=0
 ·have hs0:s=⟨#[]⟩:=bytes_inj (List.eq_nil_of_length_eq_zero (by rw [hsz];exact h0))
  have HE:Hid (numF (⟨#[]⟩:ByteArray).data.toList=none):=Lib.hid (by decide)
  subst hs0
  clear HNF hm h h0 hsz hs
  go_enter Tryz.func164,Tryz.ntmps164
  go_wp2
  go_ret2
  exact ⟨rfl,0,by unfold i64ok;omega,by rw [HE.out];rfl,fun m hm=>by rw [HE.out] at hm;cases hm⟩
 ·have hp:0 < s.size:=by omega
  have hE:(s.toList == [])=false:=by
   rw [beq_eq_false_iff_ne,ByteArray.toList_eq]
   intro h
   rw [h] at hsz
   exact h0 hsz.symm
  have hhead:s.data.toList.head?=some (s[0]):=by
   rw [List.head?_eq_getElem?,List.getElem?_eq_getElem (by rw [hsz];exact hp)]
   rfl
  rw [hhead] at h
  have HHD:=Lib.hid hhead
  clear h0 hhead
  have HSZ:=Lib.hid hsz
  clear hsz hm
  have key:∀ (b:Bool),decide (1 < s.size)=b→Calls Tryz.prog 164 #[.string s] w (NumPost s w):=by
   intro b hb
   cases b with
   | false =>
    have g1:=hb
    have g2:decide ((1:Int) < (s.size:Int))=false:=decide_eq_false (by have:=of_decide_eq_false hb;omega)
    have g3:decide (19 < s.size)=false:=decide_eq_false (by have:=of_decide_eq_false hb;omega)
    have g4:decide ((19:Int) < (s.size:Int))=false:=decide_eq_false (by have:=of_decide_eq_false hb;omega)
    have HRR:Hid (s.data.toList ≠ []∧¬ 19 < s.data.toList.length∧(1 < s.data.toList.length→¬ s.data.toList.head?=some 48)):=Lib.hid ⟨fun e=>by have:=HSZ.out;rw [e] at this;simp at this;omega,by rw [HSZ.out];exact of_decide_eq_false g3,fun h1=>absurd h1 (by rw [HSZ.out];exact of_decide_eq_false g1)⟩
    obtain ⟨n,hn⟩:∃ n,n=s.size:=⟨_,rfl⟩
    have hn1:n ≤ s.size:=by omega
    have hn2:s.size ≤ n:=by omega
    have hn19:n ≤ 19:=by have:=of_decide_eq_false g3;omega
    clear hn hb h
    go_enter Tryz.func164,Tryz.ntmps164
    go_wp2_with fail
    go_loopg [6,7] n (fun gk nv iv wr=>∃ i:Nat,iv=.int .i64 i∧i ≤ n∧gk=n - i∧nv=.int .u64 (preV s i:Nat)∧wr=w∧∀ j (hj:j < s.size),j < i→48 ≤ (s[j]).toNat∧(s[j]).toNat ≤ 57)
    case atStart=>exact ⟨0,rfl,Nat.zero_le _,rfl,rfl,rfl,fun j _ h=>absurd h (by omega)⟩
    case round =>
     obtain ⟨i,rfl,hi,hgk,rfl,rfl,hdg⟩:=hrel
     have HG:=Lib.hid hgk
     have HDG:=Lib.hid hdg
     clear hgk hdg
     by_cases hil:i < n
     ·have e1:decide ((i:Int) < (s.size:Int))=true:=decide_eq_true (by omega)
      have e2:decide (i < s.size)=true:=decide_eq_true (by omega)
      have hiz:i < s.size:=by omega
      have HPL:Hid (preV s i < 1000000000000000000):=Lib.hid (preV_lt18 s i (by omega) HDG.out)
      have HPS:=Lib.hid (preV_succ s i hiz)
      obtain ⟨P,hP⟩:∃ P,P=preV s i:=⟨_,rfl⟩
      rw [← hP] at HPL HPS ⊢
      have HMEM:Hid (s[i] ∈ s.data.toList):=Lib.hid (by
       have:s[i]=s.data.toList[i]'(by rw [Array.length_toList];exact hiz):=rfl
       rw [this]
       exact List.getElem_mem _)
      clear hP
      by_cases hlo:(s[i]).toNat < 48
      ·have q1:decide (((s[i]).toNat:Int) < 48)=true:=decide_eq_true (by omega)
       have q2:decide ((s[i]).toNat < 48)=true:=decide_eq_true hlo
       have HE:Hid (numF s.data.toList=none):=Lib.hid (by rw [HNF.out,natF_nodigit HMEM.out (by unfold isDig;exact decide_eq_false (by omega))];rfl)
       go_wp2
       go_ret2
       exact ⟨rfl,0,by unfold i64ok;omega,by rw [HE.out];rfl,fun m hm=>by rw [HE.out] at hm;cases hm⟩
      ·have q1:decide (((s[i]).toNat:Int) < 48)=false:=decide_eq_false (by omega)
       have q2:decide ((s[i]).toNat < 48)=false:=decide_eq_false hlo
       by_cases hup:57 < (s[i]).toNat
       ·have q3:decide ((57:Int) < ((s[i]).toNat:Int))=true:=decide_eq_true (by omega)
        have q4:decide (57 < (s[i]).toNat)=true:=decide_eq_true hup
        have HE:Hid (numF s.data.toList=none):=Lib.hid (by rw [HNF.out,natF_nodigit HMEM.out (by unfold isDig;exact decide_eq_false (by omega))];rfl)
        go_wp2
        go_ret2
        exact ⟨rfl,0,by unfold i64ok;omega,by rw [HE.out];rfl,fun m hm=>by rw [HE.out] at hm;cases hm⟩
       ·have q3:decide ((57:Int) < ((s[i]).toNat:Int))=false:=decide_eq_false (by omega)
        have q4:decide (57 < (s[i]).toNat)=false:=decide_eq_false hup
        have HLU:=Lib.hid (And.intro hlo hup)
        clear hlo hup
        go_wp2
        go_roundg (n - (i + 1))
        case measure=>have:=HG.out;omega
        case rel =>
         have h1:=HLU.out
         refine ⟨i + 1,by simp,by omega,rfl,?_,rfl,fun j hj hji=>?_⟩
         ·rw [HPS.out]
          have h2:=HPL.out
          have h3:=(s[i]).toNat_lt
          congr 1
          simp [IntKind.wrap,IntKind.bits,IntKind.signed]
          omega
         ·by_cases hji2:j=i
          ·subst hji2;omega
          ·exact HDG.out j hj (by omega)
     ·have e1:decide ((i:Int) < (s.size:Int))=false:=decide_eq_false (by omega)
      have e2:decide (i < s.size)=false:=decide_eq_false (by omega)
      have HI:Hid (i=s.size):=Lib.hid (by omega)
      have HVA:Hid (preV s i=decV s.data.toList):=Lib.hid (by rw [HI.out];exact preV_all s)
      have HAD:Hid (∀ c ∈ s.data.toList,isDig c=true):=Lib.hid (fun c hc=>by
       obtain ⟨j,hj,rfl⟩:=List.mem_iff_getElem.1 hc
       rw [Array.length_toList] at hj
       have hj':j < s.size:=hj
       have:=HDG.out j hj' (by have:=HI.out;omega)
       unfold isDig
       exact decide_eq_true this)
      obtain ⟨P,hP⟩:∃ P,P=preV s i:=⟨_,rfl⟩
      rw [← hP] at HVA ⊢
      clear hP
      by_cases hbig:9223372036854775807 < P
      ·have q1:decide ((9223372036854775807:Int) < (P:Int))=true:=decide_eq_true (by omega)
       have q2:decide (9223372036854775807 < P)=true:=decide_eq_true hbig
       have HE:Hid (numF s.data.toList=none):=Lib.hid (by
        rw [HNF.out]
        unfold natF
        rw [if_pos (.inr (.inr (.inr (.inr (by rw [← HVA.out];exact hbig)))))]
        rfl)
       clear hbig
       go_wp2
       go_ret2
       exact ⟨rfl,0,by unfold i64ok;omega,by rw [HE.out];rfl,fun m hm=>by rw [HE.out] at hm;cases hm⟩
      ·have q1:decide ((9223372036854775807:Int) < (P:Int))=false:=decide_eq_false (by omega)
       have q2:decide (9223372036854775807 < P)=false:=decide_eq_false hbig
       have HE:Hid (numF s.data.toList=some (P:Int)):=Lib.hid (by
        rw [HNF.out]
        unfold natF
        rw [if_neg,← HVA.out]
        ·rfl
        ·simp only [not_or,not_and,List.any_eq_true,Bool.not_eq_true',not_exists]
         obtain ⟨r1,r2,r3⟩:=HRR.out
         refine ⟨r1,r2,r3,fun c hc=>by rw [HAD.out c hc];exact Bool.noConfusion,by rw [← HVA.out];exact hbig⟩)
       have HBG:=Lib.hid hbig
       clear hbig
       go_wp2
       go_ret2
       have h3:=HBG.out
       have h4:wrap64 (P:Int)=(P:Int):=by unfold wrap64;omega
       exact ⟨rfl,(P:Int),by unfold i64ok;omega,by rw [HE.out,h4];rfl,fun m hm=>by rw [HE.out] at hm;injection hm with hm;exact hm.symm⟩
   | true =>
    have g1:=hb
    have g2:decide ((1:Int) < (s.size:Int))=true:=decide_eq_true (by have:=of_decide_eq_true hb;omega)
    have hne:s[0] ≠ 45:=fun e=>h ⟨of_decide_eq_true hb,by rw [e]⟩
    have q45:(((s[0]).toNat:Int) == 45)=false:=by
     rw [beq_eq_false_iff_ne]
     intro e
     exact hne (UInt8.toNat_inj.1 (by show _=45;omega))
    clear hne h
    by_cases h19:19 < s.size
    ·have g3:decide (19 < s.size)=true:=decide_eq_true h19
     have g4:decide ((19:Int) < (s.size:Int))=true:=decide_eq_true (by omega)
     have HE:Hid (numF s.data.toList=none):=Lib.hid (by
      rw [HNF.out]
      unfold natF
      rw [if_pos (.inr (.inl (by rw [HSZ.out];exact h19)))]
      rfl)
     clear h19 hb
     go_enter Tryz.func164,Tryz.ntmps164
     go_wp2
     go_ret2
     exact ⟨rfl,0,by unfold i64ok;omega,by rw [HE.out];rfl,fun m hm=>by rw [HE.out] at hm;cases hm⟩
    ·have g3:decide (19 < s.size)=false:=decide_eq_false h19
     have g4:decide ((19:Int) < (s.size:Int))=false:=decide_eq_false (by omega)
     by_cases h48:s[0]=48
     ·have q48:(((s[0]).toNat:Int) == 48)=true:=by rw [h48];rfl
      have HE:Hid (numF s.data.toList=none):=Lib.hid (by
       rw [HNF.out]
       unfold natF
       rw [if_pos (.inr (.inr (.inl ⟨by rw [HSZ.out];exact of_decide_eq_true hb,by rw [HHD.out,h48]⟩)))]
       rfl)
      clear h19 hb h48
      go_enter Tryz.func164,Tryz.ntmps164
      go_wp2
      go_ret2
      exact ⟨rfl,0,by unfold i64ok;omega,by rw [HE.out];rfl,fun m hm=>by rw [HE.out] at hm;cases hm⟩
     ·have q48:(((s[0]).toNat:Int) == 48)=false:=by
       rw [beq_eq_false_iff_ne]
       intro e
       exact h48 (UInt8.toNat_inj.1 (by show _=48;omega))
      have HRR:Hid (s.data.toList ≠ []∧¬ 19 < s.data.toList.length∧(1 < s.data.toList.length→¬ s.data.toList.head?=some 48)):=Lib.hid ⟨fun e=>by have:=HSZ.out;rw [e] at this;simp at this;omega,by rw [HSZ.out];exact of_decide_eq_false g3,fun h1=>by rw [HHD.out];exact fun e=>h48 (by injection e)⟩
      obtain ⟨n,hn⟩:∃ n,n=s.size:=⟨_,rfl⟩
      have hn1:n ≤ s.size:=by omega
      have hn2:s.size ≤ n:=by omega
      have hn19:n ≤ 19:=by omega
      clear hn hb h19 h48
      go_enter Tryz.func164,Tryz.ntmps164
      go_wp2_with fail
      go_loopg [6,7] n (fun gk nv iv wr=>∃ i:Nat,iv=.int .i64 i∧i ≤ n∧gk=n - i∧nv=.int .u64 (preV s i:Nat)∧wr=w∧∀ j (hj:j < s.size),j < i→48 ≤ (s[j]).toNat∧(s[j]).toNat ≤ 57)
      case atStart=>exact ⟨0,rfl,Nat.zero_le _,rfl,rfl,rfl,fun j _ h=>absurd h (by omega)⟩
      case round =>
       obtain ⟨i,rfl,hi,hgk,rfl,rfl,hdg⟩:=hrel
       have HG:=Lib.hid hgk
       have HDG:=Lib.hid hdg
       clear hgk hdg
       by_cases hil:i < n
       ·have e1:decide ((i:Int) < (s.size:Int))=true:=decide_eq_true (by omega)
        have e2:decide (i < s.size)=true:=decide_eq_true (by omega)
        have hiz:i < s.size:=by omega
        have HPL:Hid (preV s i < 1000000000000000000):=Lib.hid (preV_lt18 s i (by omega) HDG.out)
        have HPS:=Lib.hid (preV_succ s i hiz)
        obtain ⟨P,hP⟩:∃ P,P=preV s i:=⟨_,rfl⟩
        rw [← hP] at HPL HPS ⊢
        have HMEM:Hid (s[i] ∈ s.data.toList):=Lib.hid (by
         have:s[i]=s.data.toList[i]'(by rw [Array.length_toList];exact hiz):=rfl
         rw [this]
         exact List.getElem_mem _)
        clear hP
        by_cases hlo:(s[i]).toNat < 48
        ·have q1:decide (((s[i]).toNat:Int) < 48)=true:=decide_eq_true (by omega)
         have q2:decide ((s[i]).toNat < 48)=true:=decide_eq_true hlo
         have HE:Hid (numF s.data.toList=none):=Lib.hid (by rw [HNF.out,natF_nodigit HMEM.out (by unfold isDig;exact decide_eq_false (by omega))];rfl)
         go_wp2
         go_ret2
         exact ⟨rfl,0,by unfold i64ok;omega,by rw [HE.out];rfl,fun m hm=>by rw [HE.out] at hm;cases hm⟩
        ·have q1:decide (((s[i]).toNat:Int) < 48)=false:=decide_eq_false (by omega)
         have q2:decide ((s[i]).toNat < 48)=false:=decide_eq_false hlo
         by_cases hup:57 < (s[i]).toNat
         ·have q3:decide ((57:Int) < ((s[i]).toNat:Int))=true:=decide_eq_true (by omega)
          have q4:decide (57 < (s[i]).toNat)=true:=decide_eq_true hup
          have HE:Hid (numF s.data.toList=none):=Lib.hid (by rw [HNF.out,natF_nodigit HMEM.out (by unfold isDig;exact decide_eq_false (by omega))];rfl)
          go_wp2
          go_ret2
          exact ⟨rfl,0,by unfold i64ok;omega,by rw [HE.out];rfl,fun m hm=>by rw [HE.out] at hm;cases hm⟩
         ·have q3:decide ((57:Int) < ((s[i]).toNat:Int))=false:=decide_eq_false (by omega)
          have q4:decide (57 < (s[i]).toNat)=false:=decide_eq_false hup
          have HLU:=Lib.hid (And.intro hlo hup)
          clear hlo hup
          go_wp2
          go_roundg (n - (i + 1))
          case measure=>have:=HG.out;omega
          case rel =>
           have h1:=HLU.out
           refine ⟨i + 1,by simp,by omega,rfl,?_,rfl,fun j hj hji=>?_⟩
           ·rw [HPS.out]
            have h2:=HPL.out
            have h3:=(s[i]).toNat_lt
            congr 1
            simp [IntKind.wrap,IntKind.bits,IntKind.signed]
            omega
           ·by_cases hji2:j=i
            ·subst hji2;omega
            ·exact HDG.out j hj (by omega)
       ·have e1:decide ((i:Int) < (s.size:Int))=false:=decide_eq_false (by omega)
        have e2:decide (i < s.size)=false:=decide_eq_false (by omega)
        have HI:Hid (i=s.size):=Lib.hid (by omega)
        have HVA:Hid (preV s i=decV s.data.toList):=Lib.hid (by rw [HI.out];exact preV_all s)
        have HAD:Hid (∀ c ∈ s.data.toList,isDig c=true):=Lib.hid (fun c hc=>by
         obtain ⟨j,hj,rfl⟩:=List.mem_iff_getElem.1 hc
         rw [Array.length_toList] at hj
         have hj':j < s.size:=hj
         have:=HDG.out j hj' (by have:=HI.out;omega)
         unfold isDig
         exact decide_eq_true this)
        obtain ⟨P,hP⟩:∃ P,P=preV s i:=⟨_,rfl⟩
        rw [← hP] at HVA ⊢
        clear hP
        by_cases hbig:9223372036854775807 < P
        ·have q1:decide ((9223372036854775807:Int) < (P:Int))=true:=decide_eq_true (by omega)
         have q2:decide (9223372036854775807 < P)=true:=decide_eq_true hbig
         have HE:Hid (numF s.data.toList=none):=Lib.hid (by
          rw [HNF.out]
          unfold natF
          rw [if_pos (.inr (.inr (.inr (.inr (by rw [← HVA.out];exact hbig)))))]
          rfl)
         clear hbig
         go_wp2
         go_ret2
         exact ⟨rfl,0,by unfold i64ok;omega,by rw [HE.out];rfl,fun m hm=>by rw [HE.out] at hm;cases hm⟩
        ·have q1:decide ((9223372036854775807:Int) < (P:Int))=false:=decide_eq_false (by omega)
         have q2:decide (9223372036854775807 < P)=false:=decide_eq_false hbig
         have HE:Hid (numF s.data.toList=some (P:Int)):=Lib.hid (by
          rw [HNF.out]
          unfold natF
          rw [if_neg,← HVA.out]
          ·rfl
          ·simp only [not_or,not_and,List.any_eq_true,Bool.not_eq_true',not_exists]
           obtain ⟨r1,r2,r3⟩:=HRR.out
           refine ⟨r1,r2,r3,fun c hc=>by rw [HAD.out c hc];exact Bool.noConfusion,by rw [← HVA.out];exact hbig⟩)
         have HBG:=Lib.hid hbig
         clear hbig
         go_wp2
         go_ret2
         have h3:=HBG.out
         have h4:wrap64 (P:Int)=(P:Int):=by unfold wrap64;omega
         exact ⟨rfl,(P:Int),by unfold i64ok;omega,by rw [HE.out,h4];rfl,fun m hm=>by rw [HE.out] at hm;injection hm with hm;exact hm.symm⟩
  exact key _ rfl
theorem number_any:∀ (n:Nat) (s:ByteArray),s.size ≤ n→s.size ≤ 4294967296→∀ w,Calls Tryz.prog 164 #[.string s] w (NumPost s w)
 | 0,s,h0,hs,w=>number_digits s w hs (fun e=>by rw [e] at h0;exact absurd h0 (by decide)) (fun e=>by omega)
 | n + 1,s,h0,hs,w=>by
  by_cases hm:s=minS
  ·subst hm
   have HE:Hid (numF minS.data.toList=some (-9223372036854775808)):=Lib.hid (by rw [minS_list];unfold numF;rw [if_pos rfl])
   have hm1:(minS.toList == [45,57,50,50,51,51,55,50,48,51,54,56,53,52,55,55,53,56,48,56])=true:=by
    rw [ByteArray.toList_eq,beq_iff_eq]
    rfl
   obtain ⟨q,hq⟩:∃ q,q=minS:=⟨_,rfl⟩
   rw [← hq] at hm1 HE ⊢
   clear hq
   go_enter Tryz.func164,Tryz.ntmps164
   go_wp2
   go_ret2
   exact ⟨rfl,-9223372036854775808,by unfold i64ok;omega,by rw [HE.out];rfl,fun m hm=>by rw [HE.out] at hm;injection hm with hm;exact hm.symm⟩
  ·by_cases hd:1 < s.size∧s.data.toList.head?=some 45
   ·obtain ⟨h1,h2⟩:=hd
    have hp:0 < s.size:=by omega
    have hsz:s.data.toList.length=s.size:=Array.length_toList
    have hm1:(s.toList == [45,57,50,50,51,51,55,50,48,51,54,56,53,52,55,55,53,56,48,56])=false:=by
     rw [beq_eq_false_iff_ne,ByteArray.toList_eq]
     exact fun h=>hm (bytes_inj h)
    have hhead:s.data.toList.head?=some (s[0]):=by
     rw [List.head?_eq_getElem?,List.getElem?_eq_getElem (by rw [hsz];exact hp)]
     rfl
    have h45:s[0]=45:=by rw [hhead] at h2;injection h2
    have q45:(((s[0]).toNat:Int) == 45)=true:=by rw [h45];rfl
    have g1:decide (1 < s.size)=true:=decide_eq_true h1
    have g2:decide ((1:Int) < (s.size:Int))=true:=decide_eq_true (by omega)
    obtain ⟨t,ht⟩:∃ t,t=s.extract 1 s.size:=⟨_,rfl⟩
    have htl:t.data.toList=s.data.toList.tail:=by
     rw [ht,Go.Lib.extract_data,List.take_of_length_le (by rw [List.length_drop,Array.length_toList];exact Nat.le_refl _),List.drop_one]
    have htz:t.size + 1=s.size:=by
     have h3:t.size=t.data.toList.length:=Array.length_toList.symm
     rw [h3,htl,List.length_tail,hsz]
     omega
    have hcons:s.data.toList=45 :: t.data.toList:=by
     rw [htl]
     cases hl:s.data.toList with
     | nil=>rw [hl] at h2;cases h2
     | cons a r=>rw [hl] at h2;injection h2 with h2;rw [h2];rfl
    have HNM:=Lib.hid (numF_minus t.data.toList (by rw [← hcons,← minS_list];exact fun e=>hm (bytes_inj e)))
    have HC:=Lib.hid hcons
    have hrun:∀ W,(Instr.slice 9 (.string s) (some (.int .i64 1)) none none).run Tryz.prog W=.ok (.string t) W:=by
     intro W
     rw [ht]
     exact run_slice_string_l (P:=Tryz.prog) W 9 s Tryz.underlying9 .i64 1 (by omega) (by omega)
    have HI:=Lib.hid (fun W=>number_any n t (by omega) (by omega) W)
    clear hcons h2 hhead h45 htl hsz hm h0 ht h1 htz
    go_enter Tryz.func164,Tryz.ntmps164
    go_upto_region 5 with (go_at_call 164;refine (HI.out _).mono ?_;rintro e w1 ⟨hw,m,hm64,rfl,hmv⟩;obtain rfl:=hw.symm)
    have HM6:=Lib.hid hm64
    have HMV:=Lib.hid hmv
    clear hm64 hmv
    cases hq:numF t.data.toList with
    | none =>
     have HE:Hid (numF s.data.toList=none):=Lib.hid (by rw [HC.out,HNM.out,hq])
     simp only [Option.isSome_none]
     clear hq
     go_wp2
     go_ret2
     exact ⟨rfl,wrap64 (-m),by
      have:=HM6.out
      unfold i64ok at this ⊢
      unfold wrap64
      omega,by rw [HE.out];rfl,fun m hm=>by rw [HE.out] at hm;cases hm⟩
    | some k =>
     obtain rfl:=HMV.out k hq
     simp only [Option.isSome_some]
     have h6:=HM6.out
     unfold i64ok at h6
     by_cases h0:0 < k
     ·have HE:Hid (numF s.data.toList=some (-k)):=Lib.hid (by rw [HC.out,HNM.out,hq];simp [h0])
      have q0:decide (0 < k)=true:=decide_eq_true h0
      have hw:wrap64 (-k)=-k:=by unfold wrap64;omega
      clear hq
      go_wp2
      go_ret2
      exact ⟨rfl,-k,by unfold i64ok;omega,by rw [HE.out];rfl,fun m hm=>by rw [HE.out] at hm;injection hm with hm;exact hm.symm⟩
     ·have HE:Hid (numF s.data.toList=none):=Lib.hid (by rw [HC.out,HNM.out,hq];simp [h0])
      have q0:decide (0 < k)=false:=decide_eq_false h0
      clear hq
      go_wp2
      go_ret2
      exact ⟨rfl,wrap64 (-k),by
       unfold i64ok wrap64
       omega,by rw [HE.out];rfl,fun m hm=>by rw [HE.out] at hm;cases hm⟩
   ·exact number_digits s w hs hm hd
def opdL (u:Tok) (k:Nat):List Tok→Except (Nat × Nat) (Int × Tok)
 | []=>.error (9,u.pos + u.s.length)
 | t :: _=>match oprL k t with
  | .error e=>.error (e,t.pos)
  | .ok x=>.ok x
def OpdPost (w:World) (x:Except (Nat × Nat) (Int × Tok)) (e:Ending) (w':World):Prop:=Below w.heap.size w w'∧match x with
 | .error y=>e=.returned (.tuple #[.int .i64 0,.agg #[.string ⟨#[]⟩,.int .i64 0],.int .i64 y.1,.int .i64 y.2])
 | .ok (o,nm)=>e=.returned (.tuple #[.int .i64 o,.agg #[.string ⟨nm.s.toArray⟩,.int .i64 nm.pos],.int .i64 0,.int .i64 0])
theorem oprL_num {k:Nat} {t:Tok} {m:Int} (h:numF t.s=some m):oprL k t=if fitsF (shapeF k) m then .ok (m,noTok) else .error 12:=by
 unfold oprL
 rw [h]
theorem oprL_nam {k:Nat} {t:Tok} (h:numF t.s=none):oprL k t=if leadsF k && nameF t.s then .ok (0,t) else .error 9:=by
 unfold oprL
 rw [h]
set_option maxHeartbeats 4000000 in
theorem operand_doc {w:World} (k:Nat) (hk:k < 41) (u:Tok) (rest:List Tok) (A:Option Addr) (n c:Nat) (hT:Reads w w.heap.size 2 A n (rows tkc (u :: rest))) (hu:∀ t ∈ u :: rest,t.s.length ≤ 4294967296∧t.pos ≤ 4294967296) :
  Calls Tryz.prog 143 #[.int .i64 k,.slice A n c] w (OpdPost w (opdL u k rest)):=by
 have hl:=hT.1
 rw [rows_length tkc 2 tkc_len] at hl
 have hn0:n=rest.length + 1:=by rw [List.length_cons] at hl;omega
 obtain ⟨bt,off,rfl,hbt,hcell⟩:=reads_flat hT (by omega) (by omega)
 cases rest with
 | nil =>
  have hn1:n=1:=by simpa using hn0
  subst hn1
  obtain ⟨s,hs⟩:∃ s:ByteArray,s=⟨u.s.toArray⟩:=⟨_,rfl⟩
  have c0:w.cell? ⟨bt,off,none⟩=some (.string s):=hs ▸ hcell 0 _ rfl
  have c1:w.cell? ⟨bt,off + 1,none⟩=some (.int .i64 u.pos):=hcell 1 _ rfl
  have hu1:=hu u (List.mem_cons_self ..)
  have hsz:s.size=u.s.length:=by
   have e1:s.size=s.data.toList.length:=Array.length_toList.symm
   rw [e1,hs]
  have hw:wrap64 ((u.pos:Int) + (s.size:Int))=(u.pos:Int) + (s.size:Int):=by unfold wrap64;omega
  have HSZ:=Lib.hid hsz
  have hpz:(u.pos:Int) + (s.size:Int) ≤ 9223372036854775807:=by omega
  clear hcell hs hl hn0 hT hsz
  go_enter Tryz.func143,Tryz.ntmps143
  go_wp2_with fail
  go_region
  have HX:Hid (opdL u k []=.error (9,u.pos + u.s.length)):=Lib.hid rfl
  go_wp2_with fail
  refine bodyPost_ret (v:=.tuple #[.int .i64 (0),.agg #[.string ⟨#[]⟩,.int .i64 0],.int .i64 (9),.int .i64 ((u.pos:Int) + (s.size:Int))]) (by simp [results,Tryz.results143,go_sem]) rfl ?_
  refine ⟨by repeat (first | with_reducible exact Below.refl _ _ | with_reducible refine Below.drew ?_ | with_reducible refine below_drewN ?_ _ | ((with_reducible refine Below.alloc ?_ ?_ _);(rotate_left;focus (first | with_reducible exact Nat.le_refl _ | omega | (simp;done) | (simp;omega) | (simp [World.setCell];done) | (simp [World.setCell];omega)))) | ((with_reducible refine Below.setCell ?_ ?_ _);(rotate_left;focus (first | with_reducible exact Nat.le_refl _ | omega | (simp;done) | (simp;omega) | (simp [World.setCell];done) | (simp [World.setCell];omega))))),?_⟩
  rw [HX.out]
  show _=Ending.returned (.tuple #[_,_,_,.int .i64 ((u.pos + u.s.length:Nat):Int)])
  rw [← HSZ.out,Int.natCast_add]
  rfl
 | cons t rest' =>
  have hn2:2 ≤ n:=by rw [hn0,List.length_cons];omega
  have z1:decide ((n:Int) < 2)=false:=decide_eq_false (by omega)
  have z2:decide (n < 2)=false:=decide_eq_false (by omega)
  obtain ⟨s,hs⟩:∃ s:ByteArray,s=⟨t.s.toArray⟩:=⟨_,rfl⟩
  have c0:w.cell? ⟨bt,off + 2,none⟩=some (.string s):=hs ▸ hcell 2 _ rfl
  have c1:w.cell? ⟨bt,off + 3,none⟩=some (.int .i64 t.pos):=hcell 3 _ rfl
  have ht1:=hu t (by simp)
  have hsl:s.data.toList=t.s:=by rw [hs]
  have hsz:s.size=t.s.length:=by
   have e1:s.size=s.data.toList.length:=Array.length_toList.symm
   rw [e1,hsl]
  have HSQ:=Lib.hid hs
  have HNA:=Lib.hid (fun W=>name_any s (by omega) W)
  have HLE:=Lib.hid (fun W=>rleads_any k W)
  have HRG:=Lib.hid (fun W=>range_any k hk W)
  have HNP:=Lib.hid (fun W=>number_any s.size s (Nat.le_refl _) (by omega) W)
  rw [hsl] at HNA
  have hn1:1 < n:=by omega
  clear hcell hs hl hn0 hT hsz
  cases hnum:numF t.s with
  | none =>
   have HNU:Hid (∀ W,Calls Tryz.prog 164 #[.string s] W fun e w'=>w'=W∧∃ mm:Int,e=.returned (.tuple #[.int .i64 mm,.bool false])):=Lib.hid (fun W=>(HNP.out W).mono fun e w' h=>⟨h.1,by
    obtain ⟨_,mm,_,h2,_⟩:=h
    rw [hsl,hnum] at h2
    exact ⟨mm,h2⟩⟩)
   cases hlead:leadsF k with
   | false =>
    have HX:Hid (opdL u k (t :: rest')=.error (9,t.pos)):=Lib.hid (by show (match oprL k t with | .error e=>_ | .ok x=>_)=_;rw [oprL_nam hnum,hlead];rfl)
    rw [hlead] at HLE
    generalize nameF t.s=bn at HNA
    clear hnum hlead hsl HNP
    go_enter Tryz.func143,Tryz.ntmps143
    go_wp2_with (first | (go_at_call 164;refine (HNU.out _).mono ?_;rintro e w1 ⟨hw,mm,rfl⟩;obtain rfl:=hw.symm) | (go_at_call 163;refine (HNA.out _).mono ?_;rintro e w1 ⟨rfl,hw⟩;obtain rfl:=hw.symm) | (go_at_call 104;refine (HLE.out _).mono ?_;rintro e w1 ⟨rfl,hw⟩;obtain rfl:=hw.symm) | (go_at_call 126;refine (HRG.out _).mono ?_;rintro e w1 ⟨rfl,hw⟩;obtain rfl:=hw.symm))
    go_region
    go_wp2_with fail
    refine bodyPost_ret (v:=.tuple #[.int .i64 (0),.agg #[.string ⟨#[]⟩,.int .i64 0],.int .i64 (9),.int .i64 ((t.pos:Int))]) (by simp [results,Tryz.results143,go_sem]) rfl ?_
    refine ⟨by repeat (first | with_reducible exact Below.refl _ _ | with_reducible refine Below.drew ?_ | with_reducible refine below_drewN ?_ _ | ((with_reducible refine Below.alloc ?_ ?_ _);(rotate_left;focus (first | with_reducible exact Nat.le_refl _ | omega | (simp;done) | (simp;omega) | (simp [World.setCell];done) | (simp [World.setCell];omega)))) | ((with_reducible refine Below.setCell ?_ ?_ _);(rotate_left;focus (first | with_reducible exact Nat.le_refl _ | omega | (simp;done) | (simp;omega) | (simp [World.setCell];done) | (simp [World.setCell];omega))))),?_⟩
    rw [HX.out]
    rfl
   | true =>
    rw [hlead] at HLE
    cases hna:nameF t.s with
    | false =>
     have HX:Hid (opdL u k (t :: rest')=.error (9,t.pos)):=Lib.hid (by show (match oprL k t with | .error e=>_ | .ok x=>_)=_;rw [oprL_nam hnum,hlead,hna];rfl)
     rw [hna] at HNA
     clear hnum hlead hna hsl HNP
     go_enter Tryz.func143,Tryz.ntmps143
     go_wp2_with (first | (go_at_call 164;refine (HNU.out _).mono ?_;rintro e w1 ⟨hw,mm,rfl⟩;obtain rfl:=hw.symm) | (go_at_call 163;refine (HNA.out _).mono ?_;rintro e w1 ⟨rfl,hw⟩;obtain rfl:=hw.symm) | (go_at_call 104;refine (HLE.out _).mono ?_;rintro e w1 ⟨rfl,hw⟩;obtain rfl:=hw.symm) | (go_at_call 126;refine (HRG.out _).mono ?_;rintro e w1 ⟨rfl,hw⟩;obtain rfl:=hw.symm))
     go_region
     go_wp2_with fail
     refine bodyPost_ret (v:=.tuple #[.int .i64 (0),.agg #[.string ⟨#[]⟩,.int .i64 0],.int .i64 (9),.int .i64 ((t.pos:Int))]) (by simp [results,Tryz.results143,go_sem]) rfl ?_
     refine ⟨by repeat (first | with_reducible exact Below.refl _ _ | with_reducible refine Below.drew ?_ | with_reducible refine below_drewN ?_ _ | ((with_reducible refine Below.alloc ?_ ?_ _);(rotate_left;focus (first | with_reducible exact Nat.le_refl _ | omega | (simp;done) | (simp;omega) | (simp [World.setCell];done) | (simp [World.setCell];omega)))) | ((with_reducible refine Below.setCell ?_ ?_ _);(rotate_left;focus (first | with_reducible exact Nat.le_refl _ | omega | (simp;done) | (simp;omega) | (simp [World.setCell];done) | (simp [World.setCell];omega))))),?_⟩
     rw [HX.out]
     rfl
    | true =>
     have HX:Hid (opdL u k (t :: rest')=.ok (0,t)):=Lib.hid (by show (match oprL k t with | .error e=>_ | .ok x=>_)=_;rw [oprL_nam hnum,hlead,hna];rfl)
     rw [hna] at HNA
     clear hnum hlead hna hsl HNP
     go_enter Tryz.func143,Tryz.ntmps143
     go_wp2_with (first | (go_at_call 164;refine (HNU.out _).mono ?_;rintro e w1 ⟨hw,mm,rfl⟩;obtain rfl:=hw.symm) | (go_at_call 163;refine (HNA.out _).mono ?_;rintro e w1 ⟨rfl,hw⟩;obtain rfl:=hw.symm) | (go_at_call 104;refine (HLE.out _).mono ?_;rintro e w1 ⟨rfl,hw⟩;obtain rfl:=hw.symm) | (go_at_call 126;refine (HRG.out _).mono ?_;rintro e w1 ⟨rfl,hw⟩;obtain rfl:=hw.symm))
     go_region
     go_wp2_with fail
     refine bodyPost_ret (v:=.tuple #[.int .i64 (0),.agg #[.string s,.int .i64 t.pos],.int .i64 (0),.int .i64 (0)]) (by simp [results,Tryz.results143,go_sem]) rfl ?_
     refine ⟨by repeat (first | with_reducible exact Below.refl _ _ | with_reducible refine Below.drew ?_ | with_reducible refine below_drewN ?_ _ | ((with_reducible refine Below.alloc ?_ ?_ _);(rotate_left;focus (first | with_reducible exact Nat.le_refl _ | omega | (simp;done) | (simp;omega) | (simp [World.setCell];done) | (simp [World.setCell];omega)))) | ((with_reducible refine Below.setCell ?_ ?_ _);(rotate_left;focus (first | with_reducible exact Nat.le_refl _ | omega | (simp;done) | (simp;omega) | (simp [World.setCell];done) | (simp [World.setCell];omega))))),?_⟩
     rw [HX.out]
     rw [HSQ.out]
  | some m =>
   have hm64:i64ok0 m:=(numF_some.1 hnum).1
   have HNU:Hid (∀ W,Calls Tryz.prog 164 #[.string s] W fun e w'=>w'=W∧∃ mm:Unit,e=.returned (.tuple #[.int .i64 m,.bool true])):=Lib.hid (fun W=>(HNP.out W).mono fun e w' h=>⟨h.1,by
    obtain ⟨_,mm,_,h2,h3⟩:=h
    have:=h3 m (by rw [hsl];exact hnum)
    subst this
    rw [hsl,hnum] at h2
    exact ⟨(),h2⟩⟩)
   have hfr:=fits_range (shapeF k) (by rcases shape_cases k hk with h | h | h | h | h | h | h <;> omega) m hm64.1 hm64.2
   obtain ⟨lo,hlo⟩:∃ lo,lo=loF (shapeF k):=⟨_,rfl⟩
   obtain ⟨hi,hhi⟩:∃ hi,hi=hiF (shapeF k):=⟨_,rfl⟩
   rw [← hlo,← hhi] at hfr HRG
   generalize nameF t.s=bn at HNA
   generalize leadsF k=bl at HLE
   by_cases h1:m < lo
   ·have q1:decide (m < lo)=true:=decide_eq_true h1
    have HX:Hid (opdL u k (t :: rest')=.error (12,t.pos)):=Lib.hid (by show (match oprL k t with | .error e=>_ | .ok x=>_)=_;rw [oprL_num hnum,hfr,decide_eq_false (by omega)];rfl)
    clear hnum hsl HNP hfr hlo hhi h1
    go_enter Tryz.func143,Tryz.ntmps143
    go_wp2_with (first | (go_at_call 164;refine (HNU.out _).mono ?_;rintro e w1 ⟨hw,mm,rfl⟩;obtain rfl:=hw.symm) | (go_at_call 163;refine (HNA.out _).mono ?_;rintro e w1 ⟨rfl,hw⟩;obtain rfl:=hw.symm) | (go_at_call 104;refine (HLE.out _).mono ?_;rintro e w1 ⟨rfl,hw⟩;obtain rfl:=hw.symm) | (go_at_call 126;refine (HRG.out _).mono ?_;rintro e w1 ⟨rfl,hw⟩;obtain rfl:=hw.symm))
    go_region
    go_wp2_with fail
    refine bodyPost_ret (v:=.tuple #[.int .i64 (0),.agg #[.string ⟨#[]⟩,.int .i64 0],.int .i64 (12),.int .i64 ((t.pos:Int))]) (by simp [results,Tryz.results143,go_sem]) rfl ?_
    refine ⟨by repeat (first | with_reducible exact Below.refl _ _ | with_reducible refine Below.drew ?_ | with_reducible refine below_drewN ?_ _ | ((with_reducible refine Below.alloc ?_ ?_ _);(rotate_left;focus (first | with_reducible exact Nat.le_refl _ | omega | (simp;done) | (simp;omega) | (simp [World.setCell];done) | (simp [World.setCell];omega)))) | ((with_reducible refine Below.setCell ?_ ?_ _);(rotate_left;focus (first | with_reducible exact Nat.le_refl _ | omega | (simp;done) | (simp;omega) | (simp [World.setCell];done) | (simp [World.setCell];omega))))),?_⟩
    rw [HX.out]
    rfl
   ·have q1:decide (m < lo)=false:=decide_eq_false h1
    by_cases h2:hi < m
    ·have q2:decide (hi < m)=true:=decide_eq_true h2
     have HX:Hid (opdL u k (t :: rest')=.error (12,t.pos)):=Lib.hid (by show (match oprL k t with | .error e=>_ | .ok x=>_)=_;rw [oprL_num hnum,hfr,decide_eq_false (by omega)];rfl)
     clear hnum hsl HNP hfr hlo hhi h1 h2
     go_enter Tryz.func143,Tryz.ntmps143
     go_wp2_with (first | (go_at_call 164;refine (HNU.out _).mono ?_;rintro e w1 ⟨hw,mm,rfl⟩;obtain rfl:=hw.symm) | (go_at_call 163;refine (HNA.out _).mono ?_;rintro e w1 ⟨rfl,hw⟩;obtain rfl:=hw.symm) | (go_at_call 104;refine (HLE.out _).mono ?_;rintro e w1 ⟨rfl,hw⟩;obtain rfl:=hw.symm) | (go_at_call 126;refine (HRG.out _).mono ?_;rintro e w1 ⟨rfl,hw⟩;obtain rfl:=hw.symm))
     go_region
     go_wp2_with fail
     refine bodyPost_ret (v:=.tuple #[.int .i64 (0),.agg #[.string ⟨#[]⟩,.int .i64 0],.int .i64 (12),.int .i64 ((t.pos:Int))]) (by simp [results,Tryz.results143,go_sem]) rfl ?_
     refine ⟨by repeat (first | with_reducible exact Below.refl _ _ | with_reducible refine Below.drew ?_ | with_reducible refine below_drewN ?_ _ | ((with_reducible refine Below.alloc ?_ ?_ _);(rotate_left;focus (first | with_reducible exact Nat.le_refl _ | omega | (simp;done) | (simp;omega) | (simp [World.setCell];done) | (simp [World.setCell];omega)))) | ((with_reducible refine Below.setCell ?_ ?_ _);(rotate_left;focus (first | with_reducible exact Nat.le_refl _ | omega | (simp;done) | (simp;omega) | (simp [World.setCell];done) | (simp [World.setCell];omega))))),?_⟩
     rw [HX.out]
     rfl
    ·have q2:decide (hi < m)=false:=decide_eq_false h2
     have HX:Hid (opdL u k (t :: rest')=.ok (m,noTok)):=Lib.hid (by show (match oprL k t with | .error e=>_ | .ok x=>_)=_;rw [oprL_num hnum,hfr,decide_eq_true (by omega)];rfl)
     clear hnum hsl HNP hfr hlo hhi h1 h2
     go_enter Tryz.func143,Tryz.ntmps143
     go_wp2_with (first | (go_at_call 164;refine (HNU.out _).mono ?_;rintro e w1 ⟨hw,mm,rfl⟩;obtain rfl:=hw.symm) | (go_at_call 163;refine (HNA.out _).mono ?_;rintro e w1 ⟨rfl,hw⟩;obtain rfl:=hw.symm) | (go_at_call 104;refine (HLE.out _).mono ?_;rintro e w1 ⟨rfl,hw⟩;obtain rfl:=hw.symm) | (go_at_call 126;refine (HRG.out _).mono ?_;rintro e w1 ⟨rfl,hw⟩;obtain rfl:=hw.symm))
     go_wp2_with fail
     refine bodyPost_ret (v:=.tuple #[.int .i64 (m),.agg #[.string ⟨#[]⟩,.int .i64 0],.int .i64 (0),.int .i64 (0)]) (by simp [results,Tryz.results143,go_sem]) rfl ?_
     refine ⟨by repeat (first | with_reducible exact Below.refl _ _ | with_reducible refine Below.drew ?_ | with_reducible refine below_drewN ?_ _ | ((with_reducible refine Below.alloc ?_ ?_ _);(rotate_left;focus (first | with_reducible exact Nat.le_refl _ | omega | (simp;done) | (simp;omega) | (simp [World.setCell];done) | (simp [World.setCell];omega)))) | ((with_reducible refine Below.setCell ?_ ?_ _);(rotate_left;focus (first | with_reducible exact Nat.le_refl _ | omega | (simp;done) | (simp;omega) | (simp [World.setCell];done) | (simp [World.setCell];omega))))),?_⟩
     rw [HX.out]
     rfl
def LinPost (B:Nat) (w:World) (ab:Nat) (x:Except (Nat × Nat) RSt) (e:Ending) (w':World):Prop:=match x with
 | .error y=>e=.returned (.tuple #[.int .i64 y.1,.int .i64 y.2])∧Frm w w' (RaS ab B)
 | .ok r'=>∃ ov av nv lv:Value,e=.returned (.tuple #[.int .i64 0,.int .i64 0])∧RaIs B w' ab ov av nv lv r'∧Frm w w' (RaS ab B)
theorem labL_err {r:RSt} {l:List Tok} {y:Nat × Nat} (h:labL r l=.error y):y.1=9 ∨ y.1=11:=by
 unfold labL at h
 split at h
 ·cases h
 ·split at h
  ·split at h
   ·injection h with h;subst h;exact .inl rfl
   ·split at h
    ·injection h with h;subst h;exact .inr rfl
    ·cases h
  ·cases h
theorem labL_mem {r r':RSt} {l l':List Tok} (h:labL r l=.ok (l',r')):∀ t ∈ l',t ∈ l:=by
 unfold labL at h
 split at h
 ·injection h with h;injection h with h1 h2;subst h1;intro t ht;exact ht
 ·split at h
  ·split at h
   ·cases h
   ·split at h
    ·cases h
    ·injection h with h;injection h with h1 h2;subst h1;intro t ht;exact List.mem_cons_of_mem _ ht
  ·injection h with h;injection h with h1 h2;subst h1;intro t ht;exact ht
theorem opdL_err {u:Tok} {k:Nat} {rest:List Tok} {y:Nat × Nat} (h:opdL u k rest=.error y):y.1=9 ∨ y.1=12:=by
 unfold opdL at h
 split at h
 ·injection h with h;subst h;exact .inl rfl
 ·split at h
  ·rename_i e he
   injection h with h
   subst h
   unfold oprL at he
   split at he
   ·split at he
    ·cases he
    ·injection he with he;subst he;exact .inr rfl
   ·split at he
    ·cases he
    ·injection he with he;subst he;exact .inl rfl
  ·cases h
theorem insL_opd {r:RSt} {u:Tok} {rest:List Tok} {k wd:Nat} (h:codeF u.s=some k) (hw:wd=widthF (shapeF k)):insL r u rest=if 0 < wd then (match opdL u k rest with | .error e=>.error e | .ok (o,nm)=>endL r u k o nm rest.tail) else endL r u k 0 noTok rest:=by
 rw [insL_code h hw]
 split
 ·cases rest with
  | nil=>rfl
  | cons t rest' =>
   unfold operL opdL
   simp only
   cases oprL k t with
   | error e=>rfl
   | ok x=>rfl
 ·rfl
theorem insL_nocode {r:RSt} {u:Tok} {rest:List Tok} (h:codeF u.s=none):insL r u rest=.error (9,u.pos):=by
 unfold insL
 rw [h]
theorem RaIs.added {B:Nat} {w:World} {ab:Nat} {ov av nv lv:Value} {r:RSt} {x:Ins} {z:Int} (h:RaRaw B w ab ov av nv lv z (r.ins.map Ins.op ++ [x.op]) (r.ins.map Ins.pos ++ [x.pos]) (r.ins.map Ins.name ++ [x.name]) (r.labels.map labTok)) (hl:r.ins.length ≤ r.size)
  (hz:z=((r.size + (1 + widthF (shapeF x.code)):Nat):Int)) (h512:r.size + (1 + widthF (shapeF x.code)) ≤ 512):RaIs B w ab ov av nv lv ⟨r.labels,r.ins ++ [x]⟩:=by
 refine ⟨?_,?_,?_⟩
 ·rw [rsize_snoc,← hz,List.map_append,List.map_append,List.map_append]
  exact h
 ·rw [rsize_snoc];exact h512
 ·rw [rsize_snoc,List.length_append,List.length_singleton];omega
theorem Blk.newAt {w:World} {t:TypeId} {cs:Array Value} {n:Nat} (h:w.heap.size=n):Blk (w.alloc (.cells cs t)) n t cs:=h ▸ Blk.new w t cs
def restL (r:RSt):List Tok→Except (Nat × Nat) RSt
 | []=>.ok r
 | t :: rest=>insL r t rest
theorem lineL_ok {r r':RSt} {l l':List Tok} (h:labL r l=.ok (l',r')):lineL r l=restL r' l':=by
 rw [lineL_labL,h]
 cases l' <;> rfl
set_option maxHeartbeats 4000000 in
theorem line_doc {B:Nat} {w:World} {ab:Nat} {ov av nv lv:Value} {r:RSt} (hR:RaIs B w ab ov av nv lv r) (hB:B ≤ w.heap.size) (l:List Tok) (A:Option Addr) (n c:Nat)
  (hT:Reads w B 2 A n (rows tkc l)) (hc:n ≤ c) (hA:∀ ad,A=some ad→ad.block ≠ ab) (hu:∀ t ∈ l,t.s ≠ []∧t.s.length ≤ 4294967296∧t.pos ≤ 4294967296) (hn:n ≤ 4294967296) (hlab:r.labels.length ≤ 4294967295) :
  Calls Tryz.prog 113 #[.pointer (some ⟨ab,0,none⟩),.slice A n c] w (LinPost B w ab (lineL r l)):=by
 have HLA:=Lib.hid (labels_any hR hB l A n c hT hc hA (fun t ht=>⟨(hu t ht).1,(hu t ht).2.1⟩) hn hlab)
 cases hx:labL r l with
 | error y =>
  rw [hx] at HLA
  have HL1:Hid (Calls Tryz.prog 141 #[.pointer (some ⟨ab,0,none⟩),.slice A n c] w fun e w'=>e=.returned (.tuple #[.slice none 0 0,.int .i64 y.1,.int .i64 y.2])∧Frm w w' (RaS ab B)):=Lib.hid HLA.out
  have HX:Hid (lineL r l=.error y):=Lib.hid (by rw [lineL_labL,hx])
  have q1:((y.1:Int) != 0)=true:=by
   rcases labL_err hx with h | h <;> rw [h] <;> rfl
  clear hx HLA hT hR
  go_enter Tryz.func113,Tryz.ntmps113
  go_wp2_with (go_at_call 141;refine HL1.out.mono ?_;rintro e w1 ⟨rfl,hf1⟩)
  go_ret2
  rw [HX.out]
  exact ⟨rfl,hf1⟩
 | ok x =>
  obtain ⟨l',r'⟩:=x
  rw [hx] at HLA
  have HL1:Hid (Calls Tryz.prog 141 #[.pointer (some ⟨ab,0,none⟩),.slice A n c] w fun e w'=>∃ (A':Option Addr) (n' c':Nat) (ov av nv lv:Value),e=.returned (.tuple #[.slice A' n' c',.int .i64 0,.int .i64 0])∧n' ≤ c'∧RaIs B w' ab ov av nv lv r'∧Reads w' B 2 A' n' (rows tkc l')∧(∀ ad,A'=some ad→ad.block ≠ ab)∧Frm w w' (RaS ab B)):=Lib.hid HLA.out
  have hmem:=labL_mem hx
  have hu':∀ t ∈ l',t.s ≠ []∧t.s.length ≤ 4294967296∧t.pos ≤ 4294967296:=fun t ht=>hu t (hmem t ht)
  have hll:=lineL_ok hx
  clear hx HLA hT hR hmem hu
  go_enter Tryz.func113,Tryz.ntmps113
  go_upto_region 2 with (go_at_call 141;refine HL1.out.mono ?_;rintro e w1 ⟨A1,n1,cc,ov1,av1,nv1,lv1,rfl,hc1,hR1,hT1,hA1,hf1⟩)
  have hl1:=hT1.1
  rw [rows_length tkc 2 tkc_len] at hl1
  cases l' with
  | nil =>
   have hn0:n1=0:=by simp at hl1;omega
   subst hn0
   have HX:=Lib.hid hll
   have HR1:=Lib.hid hR1
   clear hll hl1 hT1 hR1
   go_wp2_with fail
   go_ret2
   rw [HX.out]
   exact ⟨ov1,av1,nv1,lv1,rfl,HR1.out,hf1⟩
  | cons t rest =>
   have hn1:n1=rest.length + 1:=by rw [List.length_cons] at hl1;omega
   have z1:((n1:Int) == 0)=false:=by simp;omega
   replace hll:lineL r l=insL r' t rest:=hll
   obtain ⟨bt,off,rfl,hbt,hcell⟩:=reads_flat hT1 (by omega) (by omega)
   obtain ⟨s,hs⟩:∃ s:ByteArray,s=⟨t.s.toArray⟩:=⟨_,rfl⟩
   have c0:w1.cell? ⟨bt,off,none⟩=some (.string s):=hs ▸ hcell 0 _ rfl
   have c1:w1.cell? ⟨bt,off + 1,none⟩=some (.int .i64 t.pos):=hcell 1 _ rfl
   have hsl:s.data.toList=t.s:=by rw [hs]
   have hbw:bt < w1.heap.size:=by have:=hf1.size;omega
   have HCD:=Lib.hid (fun W=>rcode_any s W)
   rw [hsl] at HCD
   have hn1p:0 < n1:=by omega
   have HF1:=Lib.hid hf1
   have hwz:=hf1.size
   have hut:=hu' t (List.mem_cons_self ..)
   clear hs hsl hf1 hl1
   cases hcode:codeF t.s with
   | none =>
    have HX:Hid (lineL r l=.error (9,t.pos)):=Lib.hid (by rw [hll,insL_nocode hcode])
    rw [hcode] at HCD
    have HC:Hid (∀ W,Calls Tryz.prog 142 #[.string s] W fun e w'=>e=.returned (.int .i64 (-1))∧Below W.heap.size W w'):=Lib.hid HCD.out
    clear hcode HCD hll hcell hT1 hR1
    go_upto_region 6 with (go_at_call 142;refine (HC.out _).mono ?_;rintro e w2 ⟨rfl,hb2⟩;have c1:w2.cell? ⟨bt,off + 1,none⟩=some (.int .i64 t.pos):=(hb2.cell (p:=⟨bt,off + 1,none⟩) hbw).trans c1;have hbw2:bt < w2.heap.size:=Nat.lt_of_lt_of_le hbw hb2.size)
    go_quiet (fail)
    go_wp2_with fail
    go_ret2
    rw [HX.out]
    exact ⟨rfl,HF1.out.trans (Frm.of_below (S:=fun _=>False) (below_drewN hb2 _)) fun _ h=>h.elim⟩
   | some k =>
    have hk:=codeF_lt hcode
    rw [hcode] at HCD
    have HC:Hid (∀ W,Calls Tryz.prog 142 #[.string s] W fun e w'=>e=.returned (.int .i64 (k:Int))∧Below W.heap.size W w'):=Lib.hid HCD.out
    have HWD:=Lib.hid (fun W=>rwidth_any k hk W)
    have HIN0:=Lib.hid (fun wd (h:wd=widthF (shapeF k))=>insL_opd (r:=r') (u:=t) (rest:=rest) hcode h)
    obtain ⟨wd,hwd⟩:∃ wd,wd=widthF (shapeF k):=⟨_,rfl⟩
    rw [← hwd] at HWD
    have hw8:wd ≤ 8:=by rw [hwd];unfold widthF;split <;> (try split) <;> (try split) <;> omega
    have HIN:=Lib.hid (HIN0.out wd hwd)
    have HWE:=Lib.hid hwd
    have HLL:=Lib.hid hll
    have hk0:decide ((k:Int) < 0)=false:=decide_eq_false (by omega)
    have HR1:=Lib.hid hR1
    have HT1:=Lib.hid hT1
    have HN1:=Lib.hid hn1
    have HHU:=Lib.hid hu'
    clear hcode hwd hll hcell hT1 hR1 HCD HIN0 hn1 hu' c1
    go_upto_region 11 with (first | (go_at_call 142;refine (HC.out _).mono ?_;rintro e w2 ⟨rfl,hb2⟩) | (go_at_call 73;refine (HWD.out _).mono ?_;rintro e w3 ⟨rfl,hw⟩;obtain rfl:=hw.symm))
    obtain ⟨ob,hob⟩:∃ ob,ob=w2.heap.size:=⟨_,rfl⟩
    obtain ⟨nb,hnb⟩:∃ nb,nb=w2.heap.size + 1:=⟨_,rfl⟩
    obtain ⟨W,hW⟩:∃ W,W=(w2.alloc (.cells #[.int .i64 k,.int .i64 0] 113)).alloc (.cells #[.string ⟨#[]⟩,.int .i64 0] 159):=⟨_,rfl⟩
    rw [← hW,← hnb,← hob]
    have hOB0:Blk W ob 113 #[.int .i64 k,.int .i64 0]:=by rw [hW,hob];exact (Blk.new w2 _ _).alloc _
    have hNB0:Blk W nb 159 #[.string ⟨#[]⟩,.int .i64 0]:=by rw [hW,hnb];exact Blk.newAt (by simp)
    have HOW:Hid (w1.heap.size ≤ ob∧w1.heap.size ≤ nb):=Lib.hid (by have:=hb2.size;omega)
    have hBw1:B ≤ w1.heap.size:=Nat.le_trans hB hwz
    have hBW0:Below w1.heap.size w1 W:=by rw [hW];exact (hb2.alloc hb2.size _).alloc (by have:=hb2.size;simp;omega) _
    clear hW hob hnb hb2
    by_cases hwd0:0 < wd
    ·have e1:decide ((0:Int) < (wd:Int))=true:=decide_eq_true (by omega)
     have e2:decide (0 < wd)=true:=decide_eq_true hwd0
     have HIN2:Hid (lineL r l=match opdL t k rest with | .error e=>.error e | .ok (o,nm)=>endL r' t k o nm rest.tail):=Lib.hid (by rw [HLL.out,HIN.out,if_pos hwd0])
     have hwW:=hBW0.size
     have hOPD:=operand_doc (w:=W) k hk t rest _ n1 cc ((HT1.out.below (hBW0.mono hBw1)).more (Nat.le_trans hBw1 hwW)) (fun x hx=>(HHU.out x hx).2)
     have HBW1:=Lib.hid hBW0
     have HOBa:=Lib.hid hOB0
     have HNBa:=Lib.hid hNB0
     clear hwd0 hBW0 hOB0 hNB0 HIN HLL
     cases hx2:opdL t k rest with
     | error y =>
      have HX:Hid (lineL r l=.error y):=Lib.hid (by rw [HIN2.out,hx2])
      rw [hx2] at hOPD
      have HOPD:=Lib.hid hOPD
      have q1:((y.1:Int) != 0)=true:=by
       rcases opdL_err hx2 with h | h <;> rw [h] <;> rfl
      clear hx2 hOPD
      go_wp2_with (go_at_call 143;refine HOPD.out.mono ?_;rintro e w3 ⟨hb3,rfl⟩;have P3:=HOBa.out.below hb3 HOBa.out.lt;have N3:=HNBa.out.below hb3 HNBa.out.lt;have y1:w3.cell? ⟨ob,1,none⟩=some (.int .i64 0):=(P3.cell 1).trans rfl;have y2:w3.cell? ⟨nb,0,none⟩=some (.string ⟨#[]⟩):=(N3.cell 0).trans rfl;have y3:w3.cell? ⟨nb,1,none⟩=some (.int .i64 0):=(N3.cell 1).trans rfl;have y4:=P3.frozen 1;have y5:=N3.frozen 0;have y6:=N3.frozen 1;have y7:=P3.lt;have y8:=N3.lt;have y9:ob ≠ nb:=P3.ne_ N3 (by decide);have y10:nb ≠ ob:=Ne.symm y9)
      go_ret2
      rw [HX.out]
      refine ⟨rfl,?_⟩
      have hF3:Frm w w3 (RaS ab B):=HF1.out.trans (Frm.of_below (S:=fun _=>False) (HBW1.out.trans (hb3.mono HBW1.out.size))) fun _ h=>h.elim
      have hq:=HOW.out
      repeat (first | exact hF3 | refine Frm.set ?_ _ _ _ (.inl (.inr (by omega))))
     | ok x =>
      obtain ⟨o,nm⟩:=x
      rw [hx2] at hOPD
      have HOPD0:=Lib.hid hOPD
      obtain ⟨u2,rest2,rfl⟩:∃ u2 rest2,rest=u2 :: rest2:=by
       cases rest with
       | nil=>cases hx2
       | cons a b=>exact ⟨a,b,rfl⟩
      have HEND:Hid (lineL r l=endL r' t k o nm rest2):=Lib.hid (by rw [HIN2.out,hx2];rfl)
      obtain ⟨qv,hqv⟩:∃ qv:ByteArray,qv=⟨nm.s.toArray⟩:=⟨_,rfl⟩
      have HOPD:Hid (Calls Tryz.prog 143 #[.int .i64 k,.slice (some ⟨bt,off,none⟩) n1 cc] W fun e w'=>Below W.heap.size W w'∧e=.returned (.tuple #[.int .i64 o,.agg #[.string qv,.int .i64 nm.pos],.int .i64 0,.int .i64 0])):=Lib.hid (by rw [hqv];exact HOPD0.out)
      have HQV:=Lib.hid hqv
      clear hx2 hOPD HOPD0 hqv
      go_upto_region 16 with (go_at_call 143;refine HOPD.out.mono ?_;rintro e w3 ⟨hb3,rfl⟩;have P3:=HOBa.out.below hb3 HOBa.out.lt;have N3:=HNBa.out.below hb3 HNBa.out.lt;have y1:w3.cell? ⟨ob,1,none⟩=some (.int .i64 0):=(P3.cell 1).trans rfl;have y2:w3.cell? ⟨nb,0,none⟩=some (.string ⟨#[]⟩):=(N3.cell 0).trans rfl;have y3:w3.cell? ⟨nb,1,none⟩=some (.int .i64 0):=(N3.cell 1).trans rfl;have y4:=P3.frozen 1;have y5:=N3.frozen 0;have y6:=N3.frozen 1;have y7:=P3.lt;have y8:=N3.lt;have y9:ob ≠ nb:=P3.ne_ N3 (by decide);have y10:nb ≠ ob:=Ne.symm y9)
      obtain ⟨W4,hW4⟩:∃ W4,W4=((w3.setCell ⟨ob,1,none⟩ (.int .i64 o)).setCell ⟨nb,0,none⟩ (.string qv)).setCell ⟨nb,1,none⟩ (.int .i64 nm.pos):=⟨_,rfl⟩
      rw [← hW4]
      have HOB:Hid (Blk W4 ob 113 #[.int .i64 k,.int .i64 o]):=Lib.hid (by rw [hW4];exact ((P3.set_ 1 _).far y9 _).far y9 _)
      have HNB:Hid (Blk W4 nb 159 #[.string ⟨nm.s.toArray⟩,.int .i64 nm.pos]):=Lib.hid (by rw [hW4,← HQV.out];exact ((N3.far y10 _).set_ 0 _).set_ 1 _)
      have HBW:Hid (Below w1.heap.size w1 W4):=Lib.hid (by
       rw [hW4]
       have hq:=HOW.out
       exact (((HBW1.out.trans (hb3.mono HBW1.out.size)).setCell (show w1.heap.size ≤ ob from hq.1) _).setCell (show w1.heap.size ≤ nb from hq.2) _).setCell (show w1.heap.size ≤ nb from hq.2) _)
      clear hW4 P3 N3 y1 y2 y3 y4 y5 y6 y7 y8 y9 y10 hb3
      have HRW:=Lib.hid (HR1.out.keep HBW.out)
      have HTW:=Lib.hid (HT1.out.below (HBW.out.mono hBw1))
      cases rest2 with
      | cons x rx =>
       have HX:Hid (lineL r l=.error (9,x.pos)):=Lib.hid (HEND.out.trans rfl)
       obtain ⟨bt2,off2,he2,hb2,hcell2⟩:=reads_flat HTW.out (by omega) (by omega)
       cases he2
       have x1:(W4).cell? ⟨bt,off + 5,none⟩=some (.int .i64 x.pos):=hcell2 5 _ rfl
       have hbw2:bt < (W4).heap.size:=by have:=HBW.out.size;omega
       have hlk:2 < n1:=by have:=HN1.out;simp only [List.length_cons] at this;omega
       have g1:decide ((2:Int) < (n1:Int))=true:=decide_eq_true (by omega)
       have g2:decide (2 < n1)=true:=decide_eq_true hlk
       clear hcell2 hb2
       go_upto_region 17 with fail
       go_quiet (fail)
       go_wp2_with fail
       go_ret2
       rw [HX.out]
       exact ⟨rfl,(HF1.out.trans (Frm.of_below (S:=fun _=>False) HBW.out) fun _ h=>h.elim).drewN _⟩
      | nil =>
       have hlk:n1 ≤ 2:=by have:=HN1.out;simp only [List.length_cons,List.length_nil] at this;omega
       have g1:decide ((2:Int) < (n1:Int))=false:=decide_eq_false (by omega)
       have g2:decide (2 < n1)=false:=decide_eq_false (by omega)
       have hrs:=HRW.out.size
       have hblk:=HRW.out.raw.blk
       have r3:(W4).cell? ⟨ab,3,none⟩=some (.int .i64 (r'.size:Int)):=(hblk.cell 3).trans rfl
       have hal:=hblk.lt
       have HBLK:=Lib.hid hblk
       clear hblk
       by_cases hfull:512 < r'.size + (1 + wd)
       ·have HX:Hid (lineL r l=.error (2,t.pos)):=Lib.hid (HEND.out.trans (by show endL r' t k (o) nm []=_;unfold endL;rw [← HWE.out,if_pos hfull]))
        obtain ⟨bt2,off2,he2,hb2,hcell2⟩:=reads_flat HTW.out (by omega) (by omega)
        cases he2
        have x1:(W4).cell? ⟨bt,off + 1,none⟩=some (.int .i64 t.pos):=hcell2 1 _ rfl
        have hbw2:bt < (W4).heap.size:=by have:=HBW.out.size;omega
        have q1:decide ((512:Int) < (r'.size:Int) + 1 + (wd:Int))=true:=decide_eq_true (by omega)
        clear hcell2 hb2 hfull
        go_upto_region 19 with fail
        go_quiet (fail)
        go_wp2_with fail
        go_ret2
        rw [HX.out]
        exact ⟨rfl,(HF1.out.trans (Frm.of_below (S:=fun _=>False) HBW.out) fun _ h=>h.elim).drewN _⟩
       ·have HX:Hid (lineL r l=.ok ⟨r'.labels,r'.ins ++ [⟨k,o,r'.size,nm⟩]⟩):=Lib.hid (HEND.out.trans (by show endL r' t k (o) nm []=_;unfold endL;rw [← HWE.out,if_neg hfull]))
        have q1:decide ((512:Int) < (r'.size:Int) + 1 + (wd:Int))=false:=decide_eq_false (by omega)
        have HFU:=Lib.hid hfull
        have HFW:Hid (Frm w W4 (RaS ab B)):=Lib.hid (HF1.out.trans (Frm.of_below (S:=fun _=>False) HBW.out) fun _ h=>h.elim)
        have hBW:B ≤ (W4).heap.size:=Nat.le_trans hBw1 HBW.out.size
        obtain ⟨oo,hoo⟩:∃ oo:Int,oo=o:=⟨_,rfl⟩
        obtain ⟨qq,hqq⟩:∃ qq:ByteArray,qq=⟨(nm).s.toArray⟩:=⟨_,rfl⟩
        obtain ⟨pp,hpp⟩:∃ pp:Int,pp=(nm).pos:=⟨_,rfl⟩
        have HOB1:Hid (Blk W4 ob 113 #[.int .i64 k,.int .i64 oo]):=Lib.hid (by rw [hoo];exact HOB.out)
        have HNB1:Hid (Blk W4 nb 159 #[.string qq,.int .i64 pp]):=Lib.hid (by rw [hqq,hpp];exact HNB.out)
        have HTK:Hid (tkc nm=[.string qq,.int .i64 pp]):=Lib.hid (by rw [hqq,hpp];rfl)
        have HOO:=Lib.hid hoo
        obtain ⟨m,hm⟩:∃ m,m=r'.ins.length:=⟨_,rfl⟩
        have HM:=Lib.hid hm
        have hm5:m ≤ 512:=by have:=HRW.out.len;omega
        have hc63:m + 1 ≤ maxLen:=by unfold maxLen;omega
        have hcb16:(m + 1) * 16 ≤ 140737488355328:=by omega
        have hcb8:(m + 1) * 8 ≤ 140737488355328:=by omega
        have hcb24:(m + 1) * 24 ≤ 140737488355328:=by omega
        have HRR:=HRW.out.raw
        have HLO:Hid ((r'.ins.map Ins.op).length=m):=Lib.hid (by rw [List.length_map,hm])
        have HLA2:Hid ((r'.ins.map Ins.pos).length=m):=Lib.hid (by rw [List.length_map,hm])
        have HLN:Hid ((r'.ins.map Ins.name).length=m):=Lib.hid (by rw [List.length_map,hm])
        have HRAW:=Lib.hid HRR
        have hov2:ov1.ownBlock ≠ some ob:=fun e=>by have:=(HR1.out.raw.ops.lt ob e).2;have:=HOW.out;omega
        have hnv2:nv1.ownBlock ≠ some nb:=fun e=>by have:=(HR1.out.raw.nms.lt nb e).2;have:=HOW.out;omega
        have HOV:=Lib.hid hov2
        have HNV:=Lib.hid hnv2
        clear hfull hoo hqq hpp hm HRR hov2 hnv2
        rw [HOO.out.symm] at HX
        go_upto_region 20 with fail
        go_cut [80] from 80 (fun _ wc=>∃ ov2:Value,RaRaw B wc ab ov2 av1 nv1 lv1 (r'.size:Int) (r'.ins.map Ins.op ++ [⟨k,oo⟩]) (r'.ins.map Ins.pos) (r'.ins.map Ins.name) (r'.labels.map labTok)∧Frm w wc (RaS ab B)∧B ≤ wc.heap.size∧Blk wc nb 159 #[.string qq,.int .i64 pp])
        case first =>
         have hown:=HRAW.out.ops
         rw [HLO.out] at hown
         have hblk:=HRAW.out.blk
         have hnb:=own_ne_blk hown hblk (by decide)
         have m0:(W4).cell? ⟨ab,0,none⟩=some ov1:=(hblk.cell 0).trans rfl
         have o0:(W4).cell? ⟨ob,0,none⟩=some (.int .i64 k):=(HOB1.out.cell 0).trans rfl
         have o1:(W4).cell? ⟨ob,1,none⟩=some (.int .i64 oo):=(HOB1.out.cell 1).trans rfl
         have hol:=HOB1.out.lt
         have h1c:∀ v ∈ [Value.int .i64 k,.int .i64 oo],v.oneCell'=true:=by intro v hv;simp at hv;rcases hv with rfl | rfl <;> rfl
         obtain ⟨i0,hi,hz0,hz1,hz2⟩:=info_parts info_op
         go_region_law
          (refine step_append_lies _ (by rfl) _ _ _ (by rfl) B 113 i0 _ 2 16 Tryz.underlying108 hi hz0 hz1 hz2 rfl (by omega) ov1 m (rows opc (r'.ins.map Ins.op)) (by rfl) (show _ from hown.alloc _)
            ⟨(W4).heap.size,0,none⟩ 1 1 [.int .i64 k,.int .i64 oo] (by rfl) (by rfl) (World.news_of_block (cs:=#[.int .i64 k,.int .i64 oo]) (t:=113) (fr:=(0,0)) (heap_alloc_new W4 _)) h1c
            (by omega) hc63 hcb16 (by simp;omega) ((W4).heap.size + 1) (by simp) ?_;intro gg cap w3 hown3 hgrow hat hlt3;have hR3:Blk w3 ab 151 #[ov1,av1,nv1,.int .i64 (r'.size:Int),lv1]:=(hgrow.block ab (by simp;omega) (fun hh=>hnb hh.symm)).trans ((Below.heap_alloc W4 _ ab hal).trans hblk);have m4:w3.cell? ⟨ab,0,none⟩=some ov1:=(hR3.cell 0).trans rfl;have f4:w3.frozen? ⟨ab,0,none⟩=false:=hR3.frozen 0;have hrl3:ab < w3.heap.size:=hR3.lt)
         all_goals (have hfin:=HRAW.out.put_ops (o:=⟨k,oo⟩) hBW (by first | exact ((Below.refl _ _).alloc (Nat.le_refl _) _).drew | exact ((Below.refl _ _).drew.alloc (Nat.le_refl _) _) | exact ((Below.refl _ _).alloc (Nat.le_refl _) _)) hgrow (congrArg (· + 1) HLO.out.symm) hown3)
         all_goals (have hnbk:Blk (w3.setCell ⟨ab,0,none⟩ (.slice (some ⟨gg,0,none⟩) (m + 1) cap)) nb 159 #[.string qq,.int .i64 pp]:=Blk.far (((hgrow.block nb (by have:=HNB1.out.lt;simp;omega) (fun hh=>own_ne_blk hown HNB1.out (by decide) hh.symm)).trans ((Below.heap_alloc W4 _ nb HNB1.out.lt).trans HNB1.out))) (HNB1.out.ne_ hblk (by decide)) _)
         all_goals go_wp2_with fail
         all_goals go_meet
         all_goals exact ⟨_,hfin.1,HFW.out.trans hfin.2 (fun _ h=>.inl h),Nat.le_trans hBW hfin.2.size,hnbk⟩
        case rest =>
         obtain ⟨ov2,hraw2,hF2,hBW2,hNB2⟩:=hcut
         have hal:=hraw2.blk.lt
         obtain ⟨W2,hW2⟩:∃ W2,W2=wc:=⟨_,rfl⟩
         rw [← hW2] at hraw2 hF2 hBW2 hNB2 hal ⊢
         have HRA2:=Lib.hid hraw2
         have HF2:=Lib.hid hF2
         have HNB2:=Lib.hid hNB2
         clear hW2 hraw2 hF2 hNB2
         go_upto_region 21 with fail
         go_cut [90] from 90 (fun _ wc=>∃ av2:Value,RaRaw B wc ab ov2 av2 nv1 lv1 (r'.size:Int) (r'.ins.map Ins.op ++ [⟨k,oo⟩]) (r'.ins.map Ins.pos ++ [r'.size]) (r'.ins.map Ins.name) (r'.labels.map labTok)∧Frm w wc (RaS ab B)∧B ≤ wc.heap.size∧Blk wc nb 159 #[.string qq,.int .i64 pp])
         case first =>
          have hown:=HRA2.out.ats
          rw [HLA2.out] at hown
          have hblk:=HRA2.out.blk
          have hnb:=own_ne_blk hown hblk (by decide)
          have m0:W2.cell? ⟨ab,1,none⟩=some av1:=(hblk.cell 1).trans rfl
          have m3:W2.cell? ⟨ab,3,none⟩=some (.int .i64 (r'.size:Int)):=(hblk.cell 3).trans rfl
          have h1c:∀ v ∈ [Value.int .i64 (r'.size:Int)],v.oneCell'=true:=by intro v hv;simp at hv;rcases hv with rfl;rfl
          obtain ⟨i0,hi,hz0,hz1,hz2⟩:=info_parts info_int
          go_region_law
           (refine step_append_lies _ (by rfl) _ _ _ (by rfl) B 3 i0 _ 1 8 Tryz.underlying47 hi hz0 hz1 hz2 rfl (by omega) av1 m (plc (r'.ins.map Ins.pos)) (by rfl) (show _ from hown.alloc _)
             ⟨W2.heap.size,0,none⟩ 1 1 [.int .i64 (r'.size:Int)] (by rfl) (by rfl) (World.news_of_block (cs:=#[.int .i64 (r'.size:Int)]) (t:=3) (fr:=(0,0)) (heap_alloc_new W2 _)) h1c
             (by omega) hc63 hcb8 (by simp;omega) (W2.heap.size + 1) (by simp) ?_;intro gg cap w3 hown3 hgrow hat hlt3;have hR3:Blk w3 ab 151 #[ov2,av1,nv1,.int .i64 (r'.size:Int),lv1]:=(hgrow.block ab (by simp;omega) (fun hh=>hnb hh.symm)).trans ((Below.heap_alloc W2 _ ab hal).trans hblk);have m4:w3.cell? ⟨ab,1,none⟩=some av1:=(hR3.cell 1).trans rfl;have m5:w3.cell? ⟨ab,3,none⟩=some (.int .i64 (r'.size:Int)):=(hR3.cell 3).trans rfl;have f4:w3.frozen? ⟨ab,1,none⟩=false:=hR3.frozen 1;have hrl3:ab < w3.heap.size:=hR3.lt)
          all_goals (have hfin:=HRA2.out.put_ats (p:=r'.size) hBW2 (by first | exact ((Below.refl _ _).alloc (Nat.le_refl _) _).drew | exact ((Below.refl _ _).drew.alloc (Nat.le_refl _) _) | exact ((Below.refl _ _).alloc (Nat.le_refl _) _)) hgrow (congrArg (· + 1) HLA2.out.symm) hown3)
          all_goals (have hnbk:Blk (w3.setCell ⟨ab,1,none⟩ (.slice (some ⟨gg,0,none⟩) (m + 1) cap)) nb 159 #[.string qq,.int .i64 pp]:=Blk.far (((hgrow.block nb (by have:=HNB2.out.lt;simp;omega) (fun hh=>own_ne_blk hown HNB2.out (by decide) hh.symm)).trans ((Below.heap_alloc W2 _ nb HNB2.out.lt).trans HNB2.out))) (HNB2.out.ne_ hblk (by decide)) _)
          all_goals go_wp2_with fail
          all_goals go_meet
          all_goals exact ⟨_,hfin.1,HF2.out.trans hfin.2 (fun _ h=>.inl h),Nat.le_trans hBW2 hfin.2.size,hnbk⟩
         case rest =>
          obtain ⟨av2,hraw3,hF3,hBW3,hNB3⟩:=hcut
          have hal:=hraw3.blk.lt
          obtain ⟨W3,hW3⟩:∃ W3,W3=wc:=⟨_,rfl⟩
          rw [← hW3] at hraw3 hF3 hBW3 hNB3 hal ⊢
          have HRA3:=Lib.hid hraw3
          have HF3:=Lib.hid hF3
          have HNB3:=Lib.hid hNB3
          clear hW3 hraw3 hF3 hNB3
          go_upto_region 22 with fail
          go_cut [103] from 103 (fun _ wc=>∃ nv2:Value,RaRaw B wc ab ov2 av2 nv2 lv1 (r'.size:Int) (r'.ins.map Ins.op ++ [⟨k,oo⟩]) (r'.ins.map Ins.pos ++ [r'.size]) (r'.ins.map Ins.name ++ [nm]) (r'.labels.map labTok)∧Frm w wc (RaS ab B))
          case first =>
           have hown:=HRA3.out.nms
           rw [HLN.out] at hown
           have hblk:=HRA3.out.blk
           have hnb:=own_ne_blk hown hblk (by decide)
           have m0:W3.cell? ⟨ab,2,none⟩=some nv1:=(hblk.cell 2).trans rfl
           have n0:W3.cell? ⟨nb,0,none⟩=some (.string qq):=(HNB3.out.cell 0).trans rfl
           have n1':W3.cell? ⟨nb,1,none⟩=some (.int .i64 pp):=(HNB3.out.cell 1).trans rfl
           have hnl:=HNB3.out.lt
           have h1c:∀ v ∈ [Value.string qq,.int .i64 pp],v.oneCell'=true:=by intro v hv;simp at hv;rcases hv with rfl | rfl <;> rfl
           obtain ⟨i0,hi,hz0,hz1,hz2⟩:=info_parts info_rtok
           go_region_law
            (refine step_append_lies _ (by rfl) _ _ _ (by rfl) B 159 i0 _ 2 24 Tryz.underlying149 hi hz0 hz1 hz2 rfl (by omega) nv1 m (rows tkc (r'.ins.map Ins.name)) (by rfl) (show _ from hown.alloc _)
              ⟨W3.heap.size,0,none⟩ 1 1 [.string qq,.int .i64 pp] (by rfl) (by rfl) (World.news_of_block (cs:=#[.string qq,.int .i64 pp]) (t:=159) (fr:=(0,0)) (heap_alloc_new W3 _)) h1c
              (by omega) hc63 hcb24 (by simp;omega) (W3.heap.size + 1) (by simp) ?_;intro gg cap w3 hown3 hgrow hat hlt3;have hR3:Blk w3 ab 151 #[ov2,av2,nv1,.int .i64 (r'.size:Int),lv1]:=(hgrow.block ab (by simp;omega) (fun hh=>hnb hh.symm)).trans ((Below.heap_alloc W3 _ ab hal).trans hblk);have m4:w3.cell? ⟨ab,2,none⟩=some nv1:=(hR3.cell 2).trans rfl;have f4:w3.frozen? ⟨ab,2,none⟩=false:=hR3.frozen 2;have hrl3:ab < w3.heap.size:=hR3.lt)
           all_goals (have hfin:=HRA3.out.put_nms (t:=nm) hBW3 (by first | exact ((Below.refl _ _).alloc (Nat.le_refl _) _).drew | exact ((Below.refl _ _).drew.alloc (Nat.le_refl _) _) | exact ((Below.refl _ _).alloc (Nat.le_refl _) _)) hgrow (hat.imp id fun h=>by omega) (congrArg (· + 1) HLN.out.symm) (by rw [HTK.out];exact hown3))
           all_goals go_wp2_with fail
           all_goals go_meet
           all_goals exact ⟨_,hfin.1,HF3.out.trans hfin.2 (fun _ h=>.inl h)⟩
          case rest =>
           obtain ⟨nv2,hraw4,hF4⟩:=hcut
           have hal:=hraw4.blk.lt
           have m3:wc.cell? ⟨ab,3,none⟩=some (.int .i64 (r'.size:Int)):=(hraw4.blk.cell 3).trans rfl
           have f3:wc.frozen? ⟨ab,3,none⟩=false:=hraw4.blk.frozen 3
           have HRA4:=Lib.hid hraw4
           have HF4:=Lib.hid hF4
           clear hraw4 hF4
           go_wp2_with fail
           go_ret2
           rw [HX.out]
           have hps:=HRA4.out.put_size ((r'.size:Int) + 1 + (wd:Int))
           refine ⟨ov2,av2,nv2,lv1,rfl,RaIs.added (x:=⟨k,oo,r'.size,nm⟩) hps.1 HRW.out.len (by rw [← HWE.out];omega) (by have:=HFU.out;rw [← HWE.out];omega),HF4.out.trans hps.2 fun _ h=>.inl h⟩
    ·have e1:decide ((0:Int) < (wd:Int))=false:=decide_eq_false (by omega)
     have e2:decide (0 < wd)=false:=decide_eq_false hwd0
     have HEND:Hid (lineL r l=endL r' t k 0 noTok rest):=Lib.hid (by rw [HLL.out,HIN.out,if_neg hwd0])
     have HBW:=Lib.hid hBW0
     have HOB:Hid (Blk W ob 113 #[.int .i64 k,.int .i64 0]):=Lib.hid hOB0
     have HNB:Hid (Blk W nb 159 #[.string ⟨noTok.s.toArray⟩,.int .i64 noTok.pos]):=Lib.hid hNB0
     clear hwd0 hBW0 hOB0 hNB0 HIN HLL
     have HRW:=Lib.hid (HR1.out.keep HBW.out)
     have HTW:=Lib.hid (HT1.out.below (HBW.out.mono hBw1))
     cases rest with
     | cons x rx =>
      have HX:Hid (lineL r l=.error (9,x.pos)):=Lib.hid (HEND.out.trans rfl)
      obtain ⟨bt2,off2,he2,hb2,hcell2⟩:=reads_flat HTW.out (by omega) (by omega)
      cases he2
      have x1:(W).cell? ⟨bt,off + 3,none⟩=some (.int .i64 x.pos):=hcell2 3 _ rfl
      have hbw2:bt < (W).heap.size:=by have:=HBW.out.size;omega
      have hlk:1 < n1:=by have:=HN1.out;simp only [List.length_cons] at this;omega
      have g1:decide ((1:Int) < (n1:Int))=true:=decide_eq_true (by omega)
      have g2:decide (1 < n1)=true:=decide_eq_true hlk
      clear hcell2 hb2
      go_upto_region 17 with fail
      go_quiet (fail)
      go_wp2_with fail
      go_ret2
      rw [HX.out]
      exact ⟨rfl,(HF1.out.trans (Frm.of_below (S:=fun _=>False) HBW.out) fun _ h=>h.elim).drewN _⟩
     | nil =>
      have hlk:n1 ≤ 1:=by have:=HN1.out;simp only [List.length_cons,List.length_nil] at this;omega
      have g1:decide ((1:Int) < (n1:Int))=false:=decide_eq_false (by omega)
      have g2:decide (1 < n1)=false:=decide_eq_false (by omega)
      have hrs:=HRW.out.size
      have hblk:=HRW.out.raw.blk
      have r3:(W).cell? ⟨ab,3,none⟩=some (.int .i64 (r'.size:Int)):=(hblk.cell 3).trans rfl
      have hal:=hblk.lt
      have HBLK:=Lib.hid hblk
      clear hblk
      by_cases hfull:512 < r'.size + (1 + wd)
      ·have HX:Hid (lineL r l=.error (2,t.pos)):=Lib.hid (HEND.out.trans (by show endL r' t k ((0:Int)) noTok []=_;unfold endL;rw [← HWE.out,if_pos hfull]))
       obtain ⟨bt2,off2,he2,hb2,hcell2⟩:=reads_flat HTW.out (by omega) (by omega)
       cases he2
       have x1:(W).cell? ⟨bt,off + 1,none⟩=some (.int .i64 t.pos):=hcell2 1 _ rfl
       have hbw2:bt < (W).heap.size:=by have:=HBW.out.size;omega
       have q1:decide ((512:Int) < (r'.size:Int) + 1 + (wd:Int))=true:=decide_eq_true (by omega)
       clear hcell2 hb2 hfull
       go_upto_region 19 with fail
       go_quiet (fail)
       go_wp2_with fail
       go_ret2
       rw [HX.out]
       exact ⟨rfl,(HF1.out.trans (Frm.of_below (S:=fun _=>False) HBW.out) fun _ h=>h.elim).drewN _⟩
      ·have HX:Hid (lineL r l=.ok ⟨r'.labels,r'.ins ++ [⟨k,(0:Int),r'.size,noTok⟩]⟩):=Lib.hid (HEND.out.trans (by show endL r' t k ((0:Int)) noTok []=_;unfold endL;rw [← HWE.out,if_neg hfull]))
       have q1:decide ((512:Int) < (r'.size:Int) + 1 + (wd:Int))=false:=decide_eq_false (by omega)
       have HFU:=Lib.hid hfull
       have HFW:Hid (Frm w W (RaS ab B)):=Lib.hid (HF1.out.trans (Frm.of_below (S:=fun _=>False) HBW.out) fun _ h=>h.elim)
       have hBW:B ≤ (W).heap.size:=Nat.le_trans hBw1 HBW.out.size
       obtain ⟨oo,hoo⟩:∃ oo:Int,oo=(0:Int):=⟨_,rfl⟩
       obtain ⟨qq,hqq⟩:∃ qq:ByteArray,qq=⟨(noTok).s.toArray⟩:=⟨_,rfl⟩
       obtain ⟨pp,hpp⟩:∃ pp:Int,pp=(noTok).pos:=⟨_,rfl⟩
       have HOB1:Hid (Blk W ob 113 #[.int .i64 k,.int .i64 oo]):=Lib.hid (by rw [hoo];exact HOB.out)
       have HNB1:Hid (Blk W nb 159 #[.string qq,.int .i64 pp]):=Lib.hid (by rw [hqq,hpp];exact HNB.out)
       have HTK:Hid (tkc noTok=[.string qq,.int .i64 pp]):=Lib.hid (by rw [hqq,hpp];rfl)
       have HOO:=Lib.hid hoo
       obtain ⟨m,hm⟩:∃ m,m=r'.ins.length:=⟨_,rfl⟩
       have HM:=Lib.hid hm
       have hm5:m ≤ 512:=by have:=HRW.out.len;omega
       have hc63:m + 1 ≤ maxLen:=by unfold maxLen;omega
       have hcb16:(m + 1) * 16 ≤ 140737488355328:=by omega
       have hcb8:(m + 1) * 8 ≤ 140737488355328:=by omega
       have hcb24:(m + 1) * 24 ≤ 140737488355328:=by omega
       have HRR:=HRW.out.raw
       have HLO:Hid ((r'.ins.map Ins.op).length=m):=Lib.hid (by rw [List.length_map,hm])
       have HLA2:Hid ((r'.ins.map Ins.pos).length=m):=Lib.hid (by rw [List.length_map,hm])
       have HLN:Hid ((r'.ins.map Ins.name).length=m):=Lib.hid (by rw [List.length_map,hm])
       have HRAW:=Lib.hid HRR
       have hov2:ov1.ownBlock ≠ some ob:=fun e=>by have:=(HR1.out.raw.ops.lt ob e).2;have:=HOW.out;omega
       have hnv2:nv1.ownBlock ≠ some nb:=fun e=>by have:=(HR1.out.raw.nms.lt nb e).2;have:=HOW.out;omega
       have HOV:=Lib.hid hov2
       have HNV:=Lib.hid hnv2
       clear hfull hoo hqq hpp hm HRR hov2 hnv2
       rw [HOO.out.symm] at HX
       go_upto_region 20 with fail
       go_cut [80] from 80 (fun _ wc=>∃ ov2:Value,RaRaw B wc ab ov2 av1 nv1 lv1 (r'.size:Int) (r'.ins.map Ins.op ++ [⟨k,oo⟩]) (r'.ins.map Ins.pos) (r'.ins.map Ins.name) (r'.labels.map labTok)∧Frm w wc (RaS ab B)∧B ≤ wc.heap.size∧Blk wc nb 159 #[.string qq,.int .i64 pp])
       case first =>
        have hown:=HRAW.out.ops
        rw [HLO.out] at hown
        have hblk:=HRAW.out.blk
        have hnb:=own_ne_blk hown hblk (by decide)
        have m0:(W).cell? ⟨ab,0,none⟩=some ov1:=(hblk.cell 0).trans rfl
        have o0:(W).cell? ⟨ob,0,none⟩=some (.int .i64 k):=(HOB1.out.cell 0).trans rfl
        have o1:(W).cell? ⟨ob,1,none⟩=some (.int .i64 oo):=(HOB1.out.cell 1).trans rfl
        have hol:=HOB1.out.lt
        have h1c:∀ v ∈ [Value.int .i64 k,.int .i64 oo],v.oneCell'=true:=by intro v hv;simp at hv;rcases hv with rfl | rfl <;> rfl
        obtain ⟨i0,hi,hz0,hz1,hz2⟩:=info_parts info_op
        go_region_law
         (refine step_append_lies _ (by rfl) _ _ _ (by rfl) B 113 i0 _ 2 16 Tryz.underlying108 hi hz0 hz1 hz2 rfl (by omega) ov1 m (rows opc (r'.ins.map Ins.op)) (by rfl) (show _ from hown.alloc _)
           ⟨(W).heap.size,0,none⟩ 1 1 [.int .i64 k,.int .i64 oo] (by rfl) (by rfl) (World.news_of_block (cs:=#[.int .i64 k,.int .i64 oo]) (t:=113) (fr:=(0,0)) (heap_alloc_new W _)) h1c
           (by omega) hc63 hcb16 (by simp;omega) ((W).heap.size + 1) (by simp) ?_;intro gg cap w3 hown3 hgrow hat hlt3;have hR3:Blk w3 ab 151 #[ov1,av1,nv1,.int .i64 (r'.size:Int),lv1]:=(hgrow.block ab (by simp;omega) (fun hh=>hnb hh.symm)).trans ((Below.heap_alloc W _ ab hal).trans hblk);have m4:w3.cell? ⟨ab,0,none⟩=some ov1:=(hR3.cell 0).trans rfl;have f4:w3.frozen? ⟨ab,0,none⟩=false:=hR3.frozen 0;have hrl3:ab < w3.heap.size:=hR3.lt)
        all_goals (have hfin:=HRAW.out.put_ops (o:=⟨k,oo⟩) hBW (by first | exact ((Below.refl _ _).alloc (Nat.le_refl _) _).drew | exact ((Below.refl _ _).drew.alloc (Nat.le_refl _) _) | exact ((Below.refl _ _).alloc (Nat.le_refl _) _)) hgrow (congrArg (· + 1) HLO.out.symm) hown3)
        all_goals (have hnbk:Blk (w3.setCell ⟨ab,0,none⟩ (.slice (some ⟨gg,0,none⟩) (m + 1) cap)) nb 159 #[.string qq,.int .i64 pp]:=Blk.far (((hgrow.block nb (by have:=HNB1.out.lt;simp;omega) (fun hh=>own_ne_blk hown HNB1.out (by decide) hh.symm)).trans ((Below.heap_alloc W _ nb HNB1.out.lt).trans HNB1.out))) (HNB1.out.ne_ hblk (by decide)) _)
        all_goals go_wp2_with fail
        all_goals go_meet
        all_goals exact ⟨_,hfin.1,HFW.out.trans hfin.2 (fun _ h=>.inl h),Nat.le_trans hBW hfin.2.size,hnbk⟩
       case rest =>
        obtain ⟨ov2,hraw2,hF2,hBW2,hNB2⟩:=hcut
        have hal:=hraw2.blk.lt
        obtain ⟨W2,hW2⟩:∃ W2,W2=wc:=⟨_,rfl⟩
        rw [← hW2] at hraw2 hF2 hBW2 hNB2 hal ⊢
        have HRA2:=Lib.hid hraw2
        have HF2:=Lib.hid hF2
        have HNB2:=Lib.hid hNB2
        clear hW2 hraw2 hF2 hNB2
        go_upto_region 21 with fail
        go_cut [90] from 90 (fun _ wc=>∃ av2:Value,RaRaw B wc ab ov2 av2 nv1 lv1 (r'.size:Int) (r'.ins.map Ins.op ++ [⟨k,oo⟩]) (r'.ins.map Ins.pos ++ [r'.size]) (r'.ins.map Ins.name) (r'.labels.map labTok)∧Frm w wc (RaS ab B)∧B ≤ wc.heap.size∧Blk wc nb 159 #[.string qq,.int .i64 pp])
        case first =>
         have hown:=HRA2.out.ats
         rw [HLA2.out] at hown
         have hblk:=HRA2.out.blk
         have hnb:=own_ne_blk hown hblk (by decide)
         have m0:W2.cell? ⟨ab,1,none⟩=some av1:=(hblk.cell 1).trans rfl
         have m3:W2.cell? ⟨ab,3,none⟩=some (.int .i64 (r'.size:Int)):=(hblk.cell 3).trans rfl
         have h1c:∀ v ∈ [Value.int .i64 (r'.size:Int)],v.oneCell'=true:=by intro v hv;simp at hv;rcases hv with rfl;rfl
         obtain ⟨i0,hi,hz0,hz1,hz2⟩:=info_parts info_int
         go_region_law
          (refine step_append_lies _ (by rfl) _ _ _ (by rfl) B 3 i0 _ 1 8 Tryz.underlying47 hi hz0 hz1 hz2 rfl (by omega) av1 m (plc (r'.ins.map Ins.pos)) (by rfl) (show _ from hown.alloc _)
            ⟨W2.heap.size,0,none⟩ 1 1 [.int .i64 (r'.size:Int)] (by rfl) (by rfl) (World.news_of_block (cs:=#[.int .i64 (r'.size:Int)]) (t:=3) (fr:=(0,0)) (heap_alloc_new W2 _)) h1c
            (by omega) hc63 hcb8 (by simp;omega) (W2.heap.size + 1) (by simp) ?_;intro gg cap w3 hown3 hgrow hat hlt3;have hR3:Blk w3 ab 151 #[ov2,av1,nv1,.int .i64 (r'.size:Int),lv1]:=(hgrow.block ab (by simp;omega) (fun hh=>hnb hh.symm)).trans ((Below.heap_alloc W2 _ ab hal).trans hblk);have m4:w3.cell? ⟨ab,1,none⟩=some av1:=(hR3.cell 1).trans rfl;have m5:w3.cell? ⟨ab,3,none⟩=some (.int .i64 (r'.size:Int)):=(hR3.cell 3).trans rfl;have f4:w3.frozen? ⟨ab,1,none⟩=false:=hR3.frozen 1;have hrl3:ab < w3.heap.size:=hR3.lt)
         all_goals (have hfin:=HRA2.out.put_ats (p:=r'.size) hBW2 (by first | exact ((Below.refl _ _).alloc (Nat.le_refl _) _).drew | exact ((Below.refl _ _).drew.alloc (Nat.le_refl _) _) | exact ((Below.refl _ _).alloc (Nat.le_refl _) _)) hgrow (congrArg (· + 1) HLA2.out.symm) hown3)
         all_goals (have hnbk:Blk (w3.setCell ⟨ab,1,none⟩ (.slice (some ⟨gg,0,none⟩) (m + 1) cap)) nb 159 #[.string qq,.int .i64 pp]:=Blk.far (((hgrow.block nb (by have:=HNB2.out.lt;simp;omega) (fun hh=>own_ne_blk hown HNB2.out (by decide) hh.symm)).trans ((Below.heap_alloc W2 _ nb HNB2.out.lt).trans HNB2.out))) (HNB2.out.ne_ hblk (by decide)) _)
         all_goals go_wp2_with fail
         all_goals go_meet
         all_goals exact ⟨_,hfin.1,HF2.out.trans hfin.2 (fun _ h=>.inl h),Nat.le_trans hBW2 hfin.2.size,hnbk⟩
        case rest =>
         obtain ⟨av2,hraw3,hF3,hBW3,hNB3⟩:=hcut
         have hal:=hraw3.blk.lt
         obtain ⟨W3,hW3⟩:∃ W3,W3=wc:=⟨_,rfl⟩
         rw [← hW3] at hraw3 hF3 hBW3 hNB3 hal ⊢
         have HRA3:=Lib.hid hraw3
         have HF3:=Lib.hid hF3
         have HNB3:=Lib.hid hNB3
         clear hW3 hraw3 hF3 hNB3
         go_upto_region 22 with fail
         go_cut [103] from 103 (fun _ wc=>∃ nv2:Value,RaRaw B wc ab ov2 av2 nv2 lv1 (r'.size:Int) (r'.ins.map Ins.op ++ [⟨k,oo⟩]) (r'.ins.map Ins.pos ++ [r'.size]) (r'.ins.map Ins.name ++ [noTok]) (r'.labels.map labTok)∧Frm w wc (RaS ab B))
         case first =>
          have hown:=HRA3.out.nms
          rw [HLN.out] at hown
          have hblk:=HRA3.out.blk
          have hnb:=own_ne_blk hown hblk (by decide)
          have m0:W3.cell? ⟨ab,2,none⟩=some nv1:=(hblk.cell 2).trans rfl
          have n0:W3.cell? ⟨nb,0,none⟩=some (.string qq):=(HNB3.out.cell 0).trans rfl
          have n1':W3.cell? ⟨nb,1,none⟩=some (.int .i64 pp):=(HNB3.out.cell 1).trans rfl
          have hnl:=HNB3.out.lt
          have h1c:∀ v ∈ [Value.string qq,.int .i64 pp],v.oneCell'=true:=by intro v hv;simp at hv;rcases hv with rfl | rfl <;> rfl
          obtain ⟨i0,hi,hz0,hz1,hz2⟩:=info_parts info_rtok
          go_region_law
           (refine step_append_lies _ (by rfl) _ _ _ (by rfl) B 159 i0 _ 2 24 Tryz.underlying149 hi hz0 hz1 hz2 rfl (by omega) nv1 m (rows tkc (r'.ins.map Ins.name)) (by rfl) (show _ from hown.alloc _)
             ⟨W3.heap.size,0,none⟩ 1 1 [.string qq,.int .i64 pp] (by rfl) (by rfl) (World.news_of_block (cs:=#[.string qq,.int .i64 pp]) (t:=159) (fr:=(0,0)) (heap_alloc_new W3 _)) h1c
             (by omega) hc63 hcb24 (by simp;omega) (W3.heap.size + 1) (by simp) ?_;intro gg cap w3 hown3 hgrow hat hlt3;have hR3:Blk w3 ab 151 #[ov2,av2,nv1,.int .i64 (r'.size:Int),lv1]:=(hgrow.block ab (by simp;omega) (fun hh=>hnb hh.symm)).trans ((Below.heap_alloc W3 _ ab hal).trans hblk);have m4:w3.cell? ⟨ab,2,none⟩=some nv1:=(hR3.cell 2).trans rfl;have f4:w3.frozen? ⟨ab,2,none⟩=false:=hR3.frozen 2;have hrl3:ab < w3.heap.size:=hR3.lt)
          all_goals (have hfin:=HRA3.out.put_nms (t:=noTok) hBW3 (by first | exact ((Below.refl _ _).alloc (Nat.le_refl _) _).drew | exact ((Below.refl _ _).drew.alloc (Nat.le_refl _) _) | exact ((Below.refl _ _).alloc (Nat.le_refl _) _)) hgrow (hat.imp id fun h=>by omega) (congrArg (· + 1) HLN.out.symm) (by rw [HTK.out];exact hown3))
          all_goals go_wp2_with fail
          all_goals go_meet
          all_goals exact ⟨_,hfin.1,HF3.out.trans hfin.2 (fun _ h=>.inl h)⟩
         case rest =>
          obtain ⟨nv2,hraw4,hF4⟩:=hcut
          have hal:=hraw4.blk.lt
          have m3:wc.cell? ⟨ab,3,none⟩=some (.int .i64 (r'.size:Int)):=(hraw4.blk.cell 3).trans rfl
          have f3:wc.frozen? ⟨ab,3,none⟩=false:=hraw4.blk.frozen 3
          have HRA4:=Lib.hid hraw4
          have HF4:=Lib.hid hF4
          clear hraw4 hF4
          go_wp2_with fail
          go_ret2
          rw [HX.out]
          have hps:=HRA4.out.put_size ((r'.size:Int) + 1 + (wd:Int))
          refine ⟨ov2,av2,nv2,lv1,rfl,RaIs.added (x:=⟨k,oo,r'.size,noTok⟩) hps.1 HRW.out.len (by rw [← HWE.out];omega) (by have:=HFU.out;rw [← HWE.out];omega),HF4.out.trans hps.2 fun _ h=>.inl h⟩
end Go.Proofs.YtiheggkkgbfndaaGreatDoor
