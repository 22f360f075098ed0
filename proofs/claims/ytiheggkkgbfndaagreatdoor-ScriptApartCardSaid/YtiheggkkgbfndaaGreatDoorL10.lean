/- carouselref24.Number. (From XBu by replacement.) -/
import Derived.Test.YtiheggkkgbfndaaGreatDoorL02
import Derived.Test.YtiheggkkgbfndaaGreatDoorL01
import Derived.Deep.LoopGhost
import Derived.Deep.QuietTactic
import Derived.BigQuiet
import Derived.Test.YtiheggkkgbfndaaGreatDoorL05
import Derived.Test.YtiheggkkgbfndaaGreatDoorL08
namespace Go.Proofs.YtiheggkkgbfndaaGreatDoor
open Go.RowKit Go.Joins Go.ChangeShapes Go.WideShapes Go.Deep
set_option linter.unusedVariables false
set_option linter.unusedSimpArgs false
set_option maxRecDepth 100000
def preN (s:ByteArray) (i:Nat):Nat:=decV (s.data.toList.take i)
theorem preN_succ (s:ByteArray) (i:Nat) (h:i < s.size):preN s (i + 1)=10 * preN s i + ((s[i]).toNat - 48):=by
 unfold preN
 rw [List.take_add_one,List.getElem?_eq_getElem (by rw [Array.length_toList];exact h)]
 exact decV_snoc _ _
theorem preN_all (s:ByteArray):preN s s.size=decV s.data.toList:=by
 unfold preN
 rw [List.take_of_length_le (by rw [Array.length_toList];exact Nat.le_refl _)]
theorem decN_lt (l:List UInt8) (hd:∀ c ∈ l,isDig c=true):decV l < 10 ^ l.length:=by
 induction l using snoc_ind' with
 | h0=>simp [decV]
 | h1 l c ih =>
  have h1:=ih fun x hx=>hd x (List.mem_append_left _ hx)
  have h2:48 ≤ c.toNat∧c.toNat ≤ 57:=by simpa [isDig] using hd c (by simp)
  rw [decV_snoc,List.length_append,List.length_singleton,Nat.pow_succ]
  omega
theorem preN_lt18 (s:ByteArray) (i:Nat) (hi:i ≤ 18) (hd:∀ j (h:j < s.size),j < i→48 ≤ (s[j]).toNat∧(s[j]).toNat ≤ 57):preN s i < 1000000000000000000:=by
 have h:=decN_lt (s.data.toList.take i) (fun c hc=>by
  obtain ⟨j,hj,rfl⟩:=List.mem_iff_getElem.1 hc
  rw [List.length_take,Array.length_toList] at hj
  have h2:=hd j (show j < s.data.size by omega) (by omega)
  rw [List.getElem_take]
  unfold isDig
  exact decide_eq_true h2)
 have h3:(s.data.toList.take i).length ≤ 18:=by rw [List.length_take];omega
 have h4:(10:Nat) ^ (s.data.toList.take i).length ≤ 10 ^ 18:=Nat.pow_le_pow_right (by omega) h3
 have h5:(10:Nat) ^ 18=1000000000000000000:=by decide
 unfold preN
 omega
theorem natF_noDig {l:List UInt8} {c:UInt8} (h:c ∈ l) (hd:isDig c=false):natF l=none:=by
 unfold natF
 rw [if_pos]
 exact .inr (.inr (.inr (.inl (List.any_eq_true.2 ⟨c,h,by rw [hd];rfl⟩))))
def NatPost (s:ByteArray) (w:World) (e:Ending) (w':World):Prop:=w'=w∧∃ n:Nat,n ≤ 9223372036854775807∧e=.returned (.tuple #[.int .i64 (n:Int),.bool (natF s.data.toList).isSome])∧∀ m,natF s.data.toList=some m→m=n
set_option maxHeartbeats 2000000 in
theorem rNumber_any (s:ByteArray) (w:World) (hs:s.size ≤ 4294967296):Calls Tryz.prog 51 #[.string s] w (NatPost s w):=by
 have hsz:s.data.toList.length=s.size:=Array.length_toList
 by_cases h0:s.size=0
 ·have hs0:s=⟨#[]⟩:=bytes_inj (List.eq_nil_of_length_eq_zero (by rw [hsz];exact h0))
  have HE:Hid (natF (⟨#[]⟩:ByteArray).data.toList=none):=Lib.hid (by unfold natF;rw [if_pos (.inl rfl)])
  subst hs0
  clear h0 hsz hs
  go_enter Tryz.func51,Tryz.ntmps51
  go_wp2
  go_ret2
  exact ⟨rfl,0,by omega,by rw [HE.out];rfl,fun m hm=>by rw [HE.out] at hm;cases hm⟩
 ·have hp:0 < s.size:=by omega
  have hE:(s.toList == [])=false:=by
   rw [beq_eq_false_iff_ne,ByteArray.toList_eq]
   intro h
   rw [h] at hsz
   exact h0 hsz.symm
  have hhead:s.data.toList.head?=some (s[0]):=by
   rw [List.head?_eq_getElem?,List.getElem?_eq_getElem (by rw [hsz];exact hp)]
   rfl
  have HHD:=Lib.hid hhead
  clear h0 hhead
  have HSZ:=Lib.hid hsz
  clear hsz
  have key:∀ (b:Bool),decide (1 < s.size)=b→Calls Tryz.prog 51 #[.string s] w (NatPost s w):=by
   intro b hb
   cases b with
   | false =>
    have g1:=hb
    have g2:decide ((1:Int) < (s.size:Int))=false:=decide_eq_false (by have:=of_decide_eq_false hb;omega)
    have g3:decide (19 < s.size)=false:=decide_eq_false (by have:=of_decide_eq_false hb;omega)
    have g4:decide ((19:Int) < (s.size:Int))=false:=decide_eq_false (by have:=of_decide_eq_false hb;omega)
    have HRR:Hid (s.data.toList ≠ []∧¬ 19 < s.data.toList.length∧(1 < s.data.toList.length→¬ s.data.toList.head?=some 48)):=Lib.hid ⟨fun e=>by have:=HSZ.out;rw [e] at this;simp at this;omega,by rw [HSZ.out];exact of_decide_eq_false g3,fun h1=>absurd h1 (by rw [HSZ.out];exact of_decide_eq_false g1)⟩
    obtain ⟨n,hn⟩:∃ n,n=s.size:=⟨_,rfl⟩
    have hn1:n ≤ s.size:=by omega
    have hn2:s.size ≤ n:=by omega
    have hn19:n ≤ 19:=by have:=of_decide_eq_false g3;omega
    clear hn hb
    go_enter Tryz.func51,Tryz.ntmps51
    go_wp2_with fail
    go_loopg [4,5] n (fun gk nv iv wr=>∃ i:Nat,iv=.int .i64 i∧i ≤ n∧gk=n - i∧nv=.int .u64 (preN s i:Nat)∧wr=w∧∀ j (hj:j < s.size),j < i→48 ≤ (s[j]).toNat∧(s[j]).toNat ≤ 57)
    case atStart=>exact ⟨0,rfl,Nat.zero_le _,rfl,rfl,rfl,fun j _ h=>absurd h (by omega)⟩
    case round =>
     obtain ⟨i,rfl,hi,hgk,rfl,rfl,hdg⟩:=hrel
     have HG:=Lib.hid hgk
     have HDG:=Lib.hid hdg
     clear hgk hdg
     by_cases hil:i < n
     ·have e1:decide ((i:Int) < (s.size:Int))=true:=decide_eq_true (by omega)
      have e2:decide (i < s.size)=true:=decide_eq_true (by omega)
      have hiz:i < s.size:=by omega
      have HPL:Hid (preN s i < 1000000000000000000):=Lib.hid (preN_lt18 s i (by omega) HDG.out)
      have HPS:=Lib.hid (preN_succ s i hiz)
      obtain ⟨P,hP⟩:∃ P,P=preN s i:=⟨_,rfl⟩
      rw [← hP] at HPL HPS ⊢
      have HMEM:Hid (s[i] ∈ s.data.toList):=Lib.hid (by
       have:s[i]=s.data.toList[i]'(by rw [Array.length_toList];exact hiz):=rfl
       rw [this]
       exact List.getElem_mem _)
      clear hP
      by_cases hlo:(s[i]).toNat < 48
      ·have q1:decide (((s[i]).toNat:Int) < 48)=true:=decide_eq_true (by omega)
       have q2:decide ((s[i]).toNat < 48)=true:=decide_eq_true hlo
       have HE:Hid (natF s.data.toList=none):=Lib.hid (natF_noDig HMEM.out (by unfold isDig;exact decide_eq_false (by omega)))
       go_wp2
       go_ret2
       exact ⟨rfl,0,by omega,by rw [HE.out];rfl,fun m hm=>by rw [HE.out] at hm;cases hm⟩
      ·have q1:decide (((s[i]).toNat:Int) < 48)=false:=decide_eq_false (by omega)
       have q2:decide ((s[i]).toNat < 48)=false:=decide_eq_false hlo
       by_cases hup:57 < (s[i]).toNat
       ·have q3:decide ((57:Int) < ((s[i]).toNat:Int))=true:=decide_eq_true (by omega)
        have q4:decide (57 < (s[i]).toNat)=true:=decide_eq_true hup
        have HE:Hid (natF s.data.toList=none):=Lib.hid (natF_noDig HMEM.out (by unfold isDig;exact decide_eq_false (by omega)))
        go_wp2
        go_ret2
        exact ⟨rfl,0,by omega,by rw [HE.out];rfl,fun m hm=>by rw [HE.out] at hm;cases hm⟩
       ·have q3:decide ((57:Int) < ((s[i]).toNat:Int))=false:=decide_eq_false (by omega)
        have q4:decide (57 < (s[i]).toNat)=false:=decide_eq_false hup
        have HLU:=Lib.hid (And.intro hlo hup)
        clear hlo hup
        go_wp2
        go_roundg (n - (i + 1))
        case measure=>have:=HG.out;omega
        case rel =>
         have h1:=HLU.out
         refine ⟨i + 1,by simp,by omega,rfl,?_,rfl,fun j hj hji=>?_⟩
         ·rw [HPS.out]
          have h2:=HPL.out
          have h3:=(s[i]).toNat_lt
          congr 1
          simp [IntKind.wrap,IntKind.bits,IntKind.signed]
          omega
         ·by_cases hji2:j=i
          ·subst hji2;omega
          ·exact HDG.out j hj (by omega)
     ·have e1:decide ((i:Int) < (s.size:Int))=false:=decide_eq_false (by omega)
      have e2:decide (i < s.size)=false:=decide_eq_false (by omega)
      have HI:Hid (i=s.size):=Lib.hid (by omega)
      have HVA:Hid (preN s i=decV s.data.toList):=Lib.hid (by rw [HI.out];exact preN_all s)
      have HAD:Hid (∀ c ∈ s.data.toList,isDig c=true):=Lib.hid (fun c hc=>by
       obtain ⟨j,hj,rfl⟩:=List.mem_iff_getElem.1 hc
       rw [Array.length_toList] at hj
       have hj':j < s.size:=hj
       have:=HDG.out j hj' (by have:=HI.out;omega)
       unfold isDig
       exact decide_eq_true this)
      obtain ⟨P,hP⟩:∃ P,P=preN s i:=⟨_,rfl⟩
      rw [← hP] at HVA ⊢
      clear hP
      by_cases hbig:9223372036854775807 < P
      ·have q1:decide ((9223372036854775807:Int) < (P:Int))=true:=decide_eq_true (by omega)
       have q2:decide (9223372036854775807 < P)=true:=decide_eq_true hbig
       have HE:Hid (natF s.data.toList=none):=Lib.hid (by
        unfold natF
        rw [if_pos (.inr (.inr (.inr (.inr (by rw [← HVA.out];exact hbig)))))])
       clear hbig
       go_wp2
       go_ret2
       exact ⟨rfl,0,by omega,by rw [HE.out];rfl,fun m hm=>by rw [HE.out] at hm;cases hm⟩
      ·have q1:decide ((9223372036854775807:Int) < (P:Int))=false:=decide_eq_false (by omega)
       have q2:decide (9223372036854775807 < P)=false:=decide_eq_false hbig
       have HE:Hid (natF s.data.toList=some P):=Lib.hid (by
        unfold natF
        rw [if_neg,← HVA.out]
        ·simp only [not_or,not_and,List.any_eq_true,Bool.not_eq_true',not_exists]
         obtain ⟨r1,r2,r3⟩:=HRR.out
         refine ⟨r1,r2,r3,fun c hc=>by rw [HAD.out c hc];exact Bool.noConfusion,by rw [← HVA.out];exact hbig⟩)
       have HBG:=Lib.hid hbig
       clear hbig
       go_wp2
       go_ret2
       have h3:=HBG.out
       have h4:wrap64 (P:Int)=(P:Int):=by unfold wrap64;omega
       exact ⟨rfl,P,by omega,by rw [HE.out,h4];rfl,fun m hm=>by rw [HE.out] at hm;injection hm with hm;exact hm.symm⟩
   | true =>
    have g1:=hb
    have g2:decide ((1:Int) < (s.size:Int))=true:=decide_eq_true (by have:=of_decide_eq_true hb;omega)
    by_cases h19:19 < s.size
    ·have g3:decide (19 < s.size)=true:=decide_eq_true h19
     have g4:decide ((19:Int) < (s.size:Int))=true:=decide_eq_true (by omega)
     have HE:Hid (natF s.data.toList=none):=Lib.hid (by
      unfold natF
      rw [if_pos (.inr (.inl (by rw [HSZ.out];exact h19)))])
     clear h19 hb
     go_enter Tryz.func51,Tryz.ntmps51
     go_wp2
     go_ret2
     exact ⟨rfl,0,by omega,by rw [HE.out];rfl,fun m hm=>by rw [HE.out] at hm;cases hm⟩
    ·have g3:decide (19 < s.size)=false:=decide_eq_false h19
     have g4:decide ((19:Int) < (s.size:Int))=false:=decide_eq_false (by omega)
     by_cases h48:s[0]=48
     ·have q48:(((s[0]).toNat:Int) == 48)=true:=by rw [h48];rfl
      have HE:Hid (natF s.data.toList=none):=Lib.hid (by
       unfold natF
       rw [if_pos (.inr (.inr (.inl ⟨by rw [HSZ.out];exact of_decide_eq_true hb,by rw [HHD.out,h48]⟩)))])
      clear h19 hb h48
      go_enter Tryz.func51,Tryz.ntmps51
      go_wp2
      go_ret2
      exact ⟨rfl,0,by omega,by rw [HE.out];rfl,fun m hm=>by rw [HE.out] at hm;cases hm⟩
     ·have q48:(((s[0]).toNat:Int) == 48)=false:=by
       rw [beq_eq_false_iff_ne]
       intro e
       exact h48 (UInt8.toNat_inj.1 (by show _=48;omega))
      have HRR:Hid (s.data.toList ≠ []∧¬ 19 < s.data.toList.length∧(1 < s.data.toList.length→¬ s.data.toList.head?=some 48)):=Lib.hid ⟨fun e=>by have:=HSZ.out;rw [e] at this;simp at this;omega,by rw [HSZ.out];exact of_decide_eq_false g3,fun h1=>by rw [HHD.out];exact fun e=>h48 (by injection e)⟩
      obtain ⟨n,hn⟩:∃ n,n=s.size:=⟨_,rfl⟩
      have hn1:n ≤ s.size:=by omega
      have hn2:s.size ≤ n:=by omega
      have hn19:n ≤ 19:=by omega
      clear hn hb h19 h48
      go_enter Tryz.func51,Tryz.ntmps51
      go_wp2_with fail
      go_loopg [4,5] n (fun gk nv iv wr=>∃ i:Nat,iv=.int .i64 i∧i ≤ n∧gk=n - i∧nv=.int .u64 (preN s i:Nat)∧wr=w∧∀ j (hj:j < s.size),j < i→48 ≤ (s[j]).toNat∧(s[j]).toNat ≤ 57)
      case atStart=>exact ⟨0,rfl,Nat.zero_le _,rfl,rfl,rfl,fun j _ h=>absurd h (by omega)⟩
      case round =>
       obtain ⟨i,rfl,hi,hgk,rfl,rfl,hdg⟩:=hrel
       have HG:=Lib.hid hgk
       have HDG:=Lib.hid hdg
       clear hgk hdg
       by_cases hil:i < n
       ·have e1:decide ((i:Int) < (s.size:Int))=true:=decide_eq_true (by omega)
        have e2:decide (i < s.size)=true:=decide_eq_true (by omega)
        have hiz:i < s.size:=by omega
        have HPL:Hid (preN s i < 1000000000000000000):=Lib.hid (preN_lt18 s i (by omega) HDG.out)
        have HPS:=Lib.hid (preN_succ s i hiz)
        obtain ⟨P,hP⟩:∃ P,P=preN s i:=⟨_,rfl⟩
        rw [← hP] at HPL HPS ⊢
        have HMEM:Hid (s[i] ∈ s.data.toList):=Lib.hid (by
         have:s[i]=s.data.toList[i]'(by rw [Array.length_toList];exact hiz):=rfl
         rw [this]
         exact List.getElem_mem _)
        clear hP
        by_cases hlo:(s[i]).toNat < 48
        ·have q1:decide (((s[i]).toNat:Int) < 48)=true:=decide_eq_true (by omega)
         have q2:decide ((s[i]).toNat < 48)=true:=decide_eq_true hlo
         have HE:Hid (natF s.data.toList=none):=Lib.hid (natF_noDig HMEM.out (by unfold isDig;exact decide_eq_false (by omega)))
         go_wp2
         go_ret2
         exact ⟨rfl,0,by omega,by rw [HE.out];rfl,fun m hm=>by rw [HE.out] at hm;cases hm⟩
        ·have q1:decide (((s[i]).toNat:Int) < 48)=false:=decide_eq_false (by omega)
         have q2:decide ((s[i]).toNat < 48)=false:=decide_eq_false hlo
         by_cases hup:57 < (s[i]).toNat
         ·have q3:decide ((57:Int) < ((s[i]).toNat:Int))=true:=decide_eq_true (by omega)
          have q4:decide (57 < (s[i]).toNat)=true:=decide_eq_true hup
          have HE:Hid (natF s.data.toList=none):=Lib.hid (natF_noDig HMEM.out (by unfold isDig;exact decide_eq_false (by omega)))
          go_wp2
          go_ret2
          exact ⟨rfl,0,by omega,by rw [HE.out];rfl,fun m hm=>by rw [HE.out] at hm;cases hm⟩
         ·have q3:decide ((57:Int) < ((s[i]).toNat:Int))=false:=decide_eq_false (by omega)
          have q4:decide (57 < (s[i]).toNat)=false:=decide_eq_false hup
          have HLU:=Lib.hid (And.intro hlo hup)
          clear hlo hup
          go_wp2
          go_roundg (n - (i + 1))
          case measure=>have:=HG.out;omega
          case rel =>
           have h1:=HLU.out
           refine ⟨i + 1,by simp,by omega,rfl,?_,rfl,fun j hj hji=>?_⟩
           ·rw [HPS.out]
            have h2:=HPL.out
            have h3:=(s[i]).toNat_lt
            congr 1
            simp [IntKind.wrap,IntKind.bits,IntKind.signed]
            omega
           ·by_cases hji2:j=i
            ·subst hji2;omega
            ·exact HDG.out j hj (by omega)
       ·have e1:decide ((i:Int) < (s.size:Int))=false:=decide_eq_false (by omega)
        have e2:decide (i < s.size)=false:=decide_eq_false (by omega)
        have HI:Hid (i=s.size):=Lib.hid (by omega)
        have HVA:Hid (preN s i=decV s.data.toList):=Lib.hid (by rw [HI.out];exact preN_all s)
        have HAD:Hid (∀ c ∈ s.data.toList,isDig c=true):=Lib.hid (fun c hc=>by
         obtain ⟨j,hj,rfl⟩:=List.mem_iff_getElem.1 hc
         rw [Array.length_toList] at hj
         have hj':j < s.size:=hj
         have:=HDG.out j hj' (by have:=HI.out;omega)
         unfold isDig
         exact decide_eq_true this)
        obtain ⟨P,hP⟩:∃ P,P=preN s i:=⟨_,rfl⟩
        rw [← hP] at HVA ⊢
        clear hP
        by_cases hbig:9223372036854775807 < P
        ·have q1:decide ((9223372036854775807:Int) < (P:Int))=true:=decide_eq_true (by omega)
         have q2:decide (9223372036854775807 < P)=true:=decide_eq_true hbig
         have HE:Hid (natF s.data.toList=none):=Lib.hid (by
          unfold natF
          rw [if_pos (.inr (.inr (.inr (.inr (by rw [← HVA.out];exact hbig)))))])
         clear hbig
         go_wp2
         go_ret2
         exact ⟨rfl,0,by omega,by rw [HE.out];rfl,fun m hm=>by rw [HE.out] at hm;cases hm⟩
        ·have q1:decide ((9223372036854775807:Int) < (P:Int))=false:=decide_eq_false (by omega)
         have q2:decide (9223372036854775807 < P)=false:=decide_eq_false hbig
         have HE:Hid (natF s.data.toList=some P):=Lib.hid (by
          unfold natF
          rw [if_neg,← HVA.out]
          ·simp only [not_or,not_and,List.any_eq_true,Bool.not_eq_true',not_exists]
           obtain ⟨r1,r2,r3⟩:=HRR.out
           refine ⟨r1,r2,r3,fun c hc=>by rw [HAD.out c hc];exact Bool.noConfusion,by rw [← HVA.out];exact hbig⟩)
         have HBG:=Lib.hid hbig
         clear hbig
         go_wp2
         go_ret2
         have h3:=HBG.out
         have h4:wrap64 (P:Int)=(P:Int):=by unfold wrap64;omega
         exact ⟨rfl,P,by omega,by rw [HE.out,h4];rfl,fun m hm=>by rw [HE.out] at hm;injection hm with hm;exact hm.symm⟩
  exact key _ rfl
end Go.Proofs.YtiheggkkgbfndaaGreatDoor
namespace Go.Proofs.YtiheggkkgbfndaaGreatDoor
open Go Go.Lib
set_option linter.unusedVariables false
set_option linter.unusedSimpArgs false
theorem sc_bound (a:Nat) (p:List UInt8):(∀ t ∈ (sc a p).1,t.s.length ≤ p.length∧t.pos ≤ a + p.length)∧(sc a p).2.1.length ≤ p.length:=by
 induction p using snoc_ind' with
 | h0=>exact ⟨fun t h=>(by cases h),Nat.le_refl _⟩
 | h1 l x ih =>
  obtain ⟨i1,i2⟩:=ih
  have hl:=sc_len a l
  rw [sc_snoc,scStep,List.length_append,List.length_singleton]
  split
  ·refine ⟨fun t ht=>?_,Nat.zero_le _⟩
   simp only at ht
   split at ht
   ·have:=i1 t ht;omega
   ·rcases List.mem_append.1 ht with h | h
    ·have:=i1 t h;omega
    ·obtain rfl:=List.mem_singleton.1 h
     simp only
     omega
  ·refine ⟨fun t ht=>?_,?_⟩
   ·have:=i1 t ht;omega
   ·simp only [List.length_append,List.length_singleton];omega
theorem lineTok_bound (l:List UInt8) (a:Nat):∀ t ∈ lineTok l a,t.s.length ≤ l.length∧t.pos ≤ a + l.length:=by
 intro t ht
 have hc:(cutR l).length ≤ l.length:=List.IsPrefix.length_le (List.takeWhile_prefix _)
 obtain ⟨h1,h2⟩:=sc_bound a (cutR l)
 have hl:=sc_len a (cutR l)
 unfold lineTok flushT at ht
 split at ht
 ·have:=h1 t ht;omega
 ·rcases List.mem_append.1 ht with h | h
  ·have:=h1 t h;omega
  ·obtain rfl:=List.mem_singleton.1 h
   simp only
   omega
theorem lineTok_count (l:List UInt8) (a:Nat):(lineTok l a).length ≤ l.length + 1:=by
 have hc:(cutR l).length ≤ l.length:=List.IsPrefix.length_le (List.takeWhile_prefix _)
 have:=sc_count a (cutR l)
 unfold lineTok flushT
 split
 ·omega
 ·rw [List.length_append,List.length_singleton];omega
theorem linesL_cons (r:RSt) (x:List Tok) (l:List (List Tok)):linesL r (x :: l)=match lineL r x with | .error e=>.error e | .ok r'=>linesL r' l:=rfl
theorem linesL_app:∀ (l1:List (List Tok)) (r:RSt) (l2:List (List Tok)),linesL r (l1 ++ l2)=match linesL r l1 with | .error e=>.error e | .ok r'=>linesL r' l2
 | [],r,l2=>rfl
 | x :: l1,r,l2=>by
  rw [List.cons_append,linesL_cons,linesL_cons]
  cases lineL r x with
  | error e=>rfl
  | ok r' =>
   simp only
   exact linesL_app l1 r' l2
theorem endL_labels {r r':RSt} {t nm:Tok} {c:Nat} {o:Int} {rest:List Tok} (h:endL r t c o nm rest=.ok r'):r'.labels=r.labels:=by
 cases rest with
 | cons x l=>cases h
 | nil =>
  unfold endL at h
  simp only at h
  split at h
  ·cases h
  ·injection h with h
   subst h
   rfl
theorem insL_labels {r r':RSt} {t:Tok} {rest:List Tok} (h:insL r t rest=.ok r'):r'.labels=r.labels:=by
 unfold insL at h
 split at h
 ·cases h
 ·split at h
  ·split at h
   ·cases h
   ·split at h
    ·cases h
    ·exact endL_labels h
  ·exact endL_labels h
theorem lineL_labels {r r':RSt} {l:List Tok} (h:lineL r l=.ok r'):r'.labels.length ≤ r.labels.length + 1:=by
 unfold lineL at h
 split at h
 ·injection h with h;subst h;omega
 ·split at h
  ·split at h
   ·cases h
   ·split at h
    ·cases h
    ·split at h
     ·injection h with h;subst h;simp
     ·rw [insL_labels h];simp
  ·rw [insL_labels h];omega
def fromF (LS:List (List UInt8)) (j:Nat):Nat:=((LS.take j).map fun l=>l.length + 1).sum
theorem fromF_succ (LS:List (List UInt8)) (j:Nat) (h:j < LS.length):fromF LS (j + 1)=fromF LS j + (LS[j].length + 1):=by
 unfold fromF
 rw [List.take_succ_eq_append_getElem h,List.map_append,List.sum_append]
 simp
theorem fromF_mono (LS:List (List UInt8)):∀ (k j:Nat),j + k ≤ LS.length→fromF LS j ≤ fromF LS (j + k)
 | 0,j,_=>Nat.le_refl _
 | k + 1,j,h=>by
  have h1:=fromF_mono LS k j (by omega)
  have h2:=fromF_succ LS (j + k) (by omega)
  have e:j + (k + 1)=j + k + 1:=by omega
  rw [e]
  omega
theorem splitF_sum (c:UInt8) (l:List UInt8):((splitF c l).map fun x=>x.length + 1).sum=l.length + 1:=by
 induction l with
 | nil=>rfl
 | cons b r ih =>
  unfold splitF
  by_cases hb:b=c
  ·simp only [hb,if_true,List.map_cons,List.sum_cons,List.length_cons,List.length_nil]
   omega
  ·simp only [hb,if_false]
   split
   ·rename_i x xs h
    rw [h] at ih
    simp only [List.map_cons,List.sum_cons,List.length_cons] at ih ⊢
    omega
   ·rename_i h
    exact absurd h (splitF_ne c r)
theorem line_bound (c:UInt8) (l:List UInt8) (j:Nat) (h:j < (splitF c l).length):fromF (splitF c l) j + (splitF c l)[j].length ≤ l.length:=by
 have h1:=fromF_succ (splitF c l) j h
 have h2:=fromF_mono (splitF c l) ((splitF c l).length - (j + 1)) (j + 1) (by omega)
 have h3:fromF (splitF c l) (splitF c l).length=l.length + 1:=by
  unfold fromF
  rw [List.take_length]
  exact splitF_sum c l
 rw [show j + 1 + ((splitF c l).length - (j + 1))=(splitF c l).length by omega,h3] at h2
 omega
theorem toksFrom_get:∀ (LS:List (List UInt8)) (a j:Nat) (h:j < LS.length),(toksFrom a LS)[j]?=some (lineTok LS[j] (a + fromF LS j))
 | [],a,j,h=>absurd h (by simp)
 | l :: r,a,0,h=>by simp [toksFrom,fromF]
 | l :: r,a,j + 1,h=>by
  have h':j < r.length:=by simpa using h
  rw [toksFrom,List.getElem?_cons_succ,toksFrom_get r _ j h']
  have:fromF (l :: r) (j + 1)=(l.length + 1) + fromF r j:=by simp [fromF]
  rw [this]
  simp only [List.getElem_cons_succ]
  congr 2
  omega
def GoodIns (x:Ins):Prop:=x.code < 41∧x.pos ≤ 512∧(x.name.s=[]→fitsF (shapeF x.code) x.operand=true)∧(x.name.s ≠ []→leadsF x.code=true)∧x.name.s.length ≤ 16
structure Good (r:RSt):Prop where
 labs:∀ p ∈ r.labels,p.2 ≤ 512
 ins:∀ x ∈ r.ins,GoodIns x
 size:r.size ≤ 512
theorem codeF_lt0 {s:List UInt8} {c:Nat} (h:codeF s=some c):c < 41:=by
 unfold codeF at h
 exact List.mem_range.1 (List.mem_of_find?_eq_some h)
theorem nameF_ne {s:List UInt8} (h:nameF s=true):s ≠ []:=by
 rintro rfl
 simp [nameF] at h
theorem nameF_le {s:List UInt8} (h:nameF s=true):s.length ≤ 16:=by
 unfold nameF at h
 simp only [Bool.and_eq_true,decide_eq_true_eq] at h
 exact h.1.2
theorem fits_zero0 {sh:Nat} (h:widthF sh=0):fitsF sh 0=true:=by
 unfold widthF at h
 unfold fitsF
 split at h
 ·omega
 ·split at h
  ·omega
  ·split at h
   ·omega
   ·rename_i h1 h2 h3
    simp only [not_or] at h1 h2
    simp [h1,h2,h3]
theorem Good.endL {r r':RSt} {t nm:Tok} {c:Nat} {o:Int} {rest:List Tok} (hr:Good r) (h:endL r t c o nm rest=.ok r') (hc:c < 41) (h1:nm.s=[]→fitsF (shapeF c) o=true) (h2:nm.s ≠ []→leadsF c=true) (h3:nm.s.length ≤ 16):Good r':=by
 cases rest with
 | cons x l=>cases h
 | nil =>
  unfold Proofs.YtiheggkkgbfndaaGreatDoor.endL at h
  simp only at h
  split at h
  ·cases h
  ·rename_i hs
   injection h with h
   subst h
   refine ⟨hr.labs,fun x hx=>?_,?_⟩
   ·rcases List.mem_append.1 hx with hx | hx
    ·exact hr.ins x hx
    ·obtain rfl:=List.mem_singleton.1 hx
     exact ⟨hc,hr.size,h1,h2,h3⟩
   ·show sizeF ((r.ins ++ [_]).map Ins.op) ≤ 512
    rw [List.map_append,List.map_cons,List.map_nil,sizeF_snoc]
    unfold RSt.size at hs
    simp only [Ins.op]
    omega
theorem Good.insL {r r':RSt} {t:Tok} {rest:List Tok} (hr:Good r) (h:insL r t rest=.ok r'):Good r':=by
 unfold Proofs.YtiheggkkgbfndaaGreatDoor.insL at h
 split at h
 ·cases h
 ·rename_i c hc
  have hc41:=codeF_lt0 hc
  split at h
  ·split at h
   ·cases h
   ·rename_i u rest'
    split at h
    ·cases h
    ·rename_i o nm ho
     refine hr.endL h hc41 ?_ ?_ ?_
     ·intro hn
      unfold oprL at ho
      split at ho
      ·split at ho
       ·rename_i hf
        injection ho with ho
        injection ho with h1 h2
        subst h1
        exact hf
       ·cases ho
      ·split at ho
       ·rename_i hl
        injection ho with ho
        injection ho with h1 h2
        subst h2
        rw [Bool.and_eq_true] at hl
        exact absurd hn (nameF_ne hl.2)
       ·cases ho
     ·intro hn
      unfold oprL at ho
      split at ho
      ·split at ho
       ·injection ho with ho
        injection ho with h1 h2
        subst h2
        exact absurd rfl hn
       ·cases ho
      ·split at ho
       ·rename_i hl
        rw [Bool.and_eq_true] at hl
        exact hl.1
       ·cases ho
     ·unfold oprL at ho
      split at ho
      ·split at ho
       ·injection ho with ho
        injection ho with h1 h2
        subst h2
        exact Nat.zero_le _
       ·cases ho
      ·split at ho
       ·rename_i hl
        injection ho with ho
        injection ho with h1 h2
        subst h2
        rw [Bool.and_eq_true] at hl
        exact nameF_le hl.2
       ·cases ho
  ·rename_i hw
   exact hr.endL h hc41 (fun _=>fits_zero0 (by omega)) (fun hn=>absurd rfl hn) (Nat.zero_le _)
theorem Good.lineL {r r':RSt} {l:List Tok} (hr:Good r) (h:lineL r l=.ok r'):Good r':=by
 unfold Proofs.YtiheggkkgbfndaaGreatDoor.lineL at h
 split at h
 ·injection h with h;subst h;exact hr
 ·rename_i t rest
  have hlab:Good ⟨r.labels ++ [(t.s.dropLast,r.size)],r.ins⟩:=⟨fun p hp=>by
   rcases List.mem_append.1 hp with hp | hp
   ·exact hr.labs p hp
   ·obtain rfl:=List.mem_singleton.1 hp
    exact hr.size,hr.ins,hr.size⟩
  split at h
  ·split at h
   ·cases h
   ·split at h
    ·cases h
    ·split at h
     ·injection h with h;subst h;exact hlab
     ·exact hlab.insL h
  ·exact hr.insL h
theorem Good.linesL:∀ {ls:List (List Tok)} {r r':RSt},Good r→linesL r ls=.ok r'→Good r'
 | [],r,r',hr,h=>by injection h with h;subst h;exact hr
 | l :: ls,r,r',hr,h=>by
  rw [linesL_cons] at h
  cases hx:Proofs.YtiheggkkgbfndaaGreatDoor.lineL r l with
  | error e=>rw [hx] at h;cases h
  | ok r1 =>
   rw [hx] at h
   exact Good.linesL (hr.lineL hx) h
theorem Good.start:Good ⟨[],[]⟩:=⟨fun p hp=>(by cases hp),fun x hx=>(by cases hx),Nat.zero_le _⟩
theorem labF2_le {r:RSt} (hr:Good r) {n:List UInt8} {k:Nat} (h:labF2 r.labels n=some k):k ≤ 512:=by
 unfold labF2 at h
 cases hf:r.labels.find? (fun p=>p.1 == n) with
 | none=>rw [hf] at h;cases h
 | some p =>
  rw [hf] at h
  injection h with h
  subst h
  exact hr.labs p (List.mem_of_find?_eq_some hf)
theorem toksFrom_len:∀ (LS:List (List UInt8)) (a:Nat),(toksFrom a LS).length ≤ LS.length
 | [],_=>Nat.le_refl _
 | l :: r,a=>by
  have:=toksFrom_len r (a + l.length + 1)
  simp only [toksFrom,List.length_cons]
  omega
theorem linesL_fail {r0 r:RSt} {ls:List (List Tok)} {l:List Tok} {j:Nat} {e:Nat × Nat} (h1:linesL r0 (ls.take j)=.ok r) (h2:ls[j]?=some l) (h3:lineL r l=.error e):linesL r0 ls=.error e:=by
 have hs:ls=ls.take j ++ l :: ls.drop (j + 1):=by
  obtain ⟨hj,rfl⟩:=List.getElem?_eq_some_iff.1 h2
  rw [← List.drop_eq_getElem_cons hj,List.take_append_drop]
 rw [hs,linesL_app,h1]
 show linesL r (l :: ls.drop (j + 1))=_
 rw [linesL_cons,h3]
/-! ### the names put in -/
theorem resL_snoc (ls:List (List UInt8 × Nat)):∀ (l:List Ins) (x:Ins),resL ls (l ++ [x])=match resL ls l with | .error e=>.error e | .ok L=>(match resOne ls x with | .error e=>.error e | .ok o=>.ok (L ++ [o]))
 | [],x=>by
  simp only [List.nil_append,resL]
  cases resOne ls x <;> rfl
 | y :: l,x=>by
  rw [List.cons_append]
  simp only [resL]
  cases resOne ls y with
  | error e=>rfl
  | ok o =>
   simp only
   rw [resL_snoc ls l x]
   cases resL ls l with
   | error e=>rfl
   | ok L =>
    simp only
    cases resOne ls x <;> rfl
theorem resL_take (ls:List (List UInt8 × Nat)) (l:List Ins) (i:Nat) (h:i < l.length):resL ls (l.take (i + 1))=match resL ls (l.take i) with | .error e=>.error e | .ok L=>(match resOne ls l[i] with | .error e=>.error e | .ok o=>.ok (L ++ [o])):=by
 rw [List.take_succ_eq_append_getElem h]
 exact resL_snoc ls _ _
theorem resL_app_err (ls:List (List UInt8 × Nat)):∀ (l l2:List Ins) (e:Nat × Nat),resL ls l=.error e→resL ls (l ++ l2)=.error e
 | [],l2,e,h=>by cases h
 | y :: l,l2,e,h=>by
  rw [List.cons_append]
  simp only [resL] at h ⊢
  cases hy:resOne ls y with
  | error e'=>rw [hy] at h;exact h
  | ok o =>
   rw [hy] at h
   simp only at h ⊢
   cases hl:resL ls l with
   | error e' =>
    rw [hl] at h
    rw [resL_app_err ls l l2 e' hl]
    exact h
   | ok L=>rw [hl] at h;cases h
theorem resL_fail (ls:List (List UInt8 × Nat)) (l:List Ins) (i:Nat) (h:i < l.length) {L:List AOp} {e:Nat × Nat} (h1:resL ls (l.take i)=.ok L) (h2:resOne ls l[i]=.error e):resL ls l=.error e:=by
 have h3:=resL_take ls l i h
 rw [h1,h2] at h3
 have:=resL_app_err ls _ (l.drop (i + 1)) e h3
 rwa [List.take_append_drop] at this
theorem resOne_good {r:RSt} (hr:Good r) {x:Ins} (hx:x ∈ r.ins) {o:AOp} (h:resOne r.labels x=.ok o):o.code=x.code∧o.code < 41∧fitsF (shapeF o.code) o.operand=true:=by
 obtain ⟨g1,g2,g3,g4,_⟩:=hr.ins x hx
 unfold resOne at h
 split at h
 ·rename_i hn
  injection h with h
  subst h
  exact ⟨rfl,g1,g3 hn⟩
 ·rename_i hn
  have hl:=g4 hn
  split at h
  ·cases h
  ·rename_i k hk
   have hk5:=labF2_le hr hk
   injection h with h
   subst h
   refine ⟨rfl,g1,?_⟩
   simp only
   unfold leadsF at hl
   simp only [Bool.or_eq_true,beq_iff_eq] at hl
   rcases hl with (h24 | h25) | h26
   ·rw [h24]
    show decide _=true
    rw [if_neg (by omega)]
    exact decide_eq_true ⟨by omega,by omega⟩
   ·rw [h25]
    show decide _=true
    rw [if_neg (by omega)]
    exact decide_eq_true ⟨by omega,by omega⟩
   ·rw [h26]
    show decide _=true
    rw [if_pos rfl]
    exact decide_eq_true ⟨by omega,by omega⟩
theorem resL_good {r:RSt} (hr:Good r):∀ (l:List Ins) (L:List AOp),(∀ x ∈ l,x ∈ r.ins)→resL r.labels l=.ok L→(∀ o ∈ L,o.code < 41∧fitsF (shapeF o.code) o.operand=true)∧L.map AOp.code=l.map Ins.code
 | [],L,hm,h=>by
  injection h with h
  subst h
  exact ⟨fun o ho=>(by cases ho),rfl⟩
 | x :: l,L,hm,h=>by
  simp only [resL] at h
  cases hx:resOne r.labels x with
  | error e=>rw [hx] at h;cases h
  | ok o =>
   rw [hx] at h
   simp only at h
   cases hl:resL r.labels l with
   | error e=>rw [hl] at h;cases h
   | ok L1 =>
    rw [hl] at h
    injection h with h
    subst h
    obtain ⟨h1,h2⟩:=resL_good hr l L1 (fun y hy=>hm y (List.mem_cons_of_mem _ hy)) hl
    obtain ⟨e1,e2,e3⟩:=resOne_good hr (hm x (List.mem_cons_self ..)) hx
    refine ⟨fun o' ho=>?_,by rw [List.map_cons,List.map_cons,h2,e1]⟩
    rcases List.mem_cons.1 ho with rfl | ho
    ·exact ⟨e2,e3⟩
    ·exact h1 o' ho
theorem sizeF_codes (L:List AOp):sizeF L=((L.map AOp.code).map fun c=>1 + widthF (shapeF c)).sum:=by
 unfold sizeF
 rw [List.map_map]
 rfl
theorem bytesOf_size (L:List AOp):(bytesOf L).length=sizeF L:=by
 unfold bytesOf sizeF
 rw [List.length_flatMap]
 congr 1
 exact List.map_congr_left fun o _=>encB_length o
theorem resL_size {r:RSt} (hr:Good r) {L:List AOp} (h:resL r.labels r.ins=.ok L):(bytesOf L).length=r.size:=by
 rw [bytesOf_size,sizeF_codes,(resL_good hr r.ins L (fun _ hx=>hx) h).2]
 unfold RSt.size
 rw [sizeF_codes,List.map_map,List.map_map,List.map_map]
 rfl
theorem resL_len {ls:List (List UInt8 × Nat)}:∀ {l:List Ins} {L:List AOp},resL ls l=.ok L→L.length=l.length
 | [],L,h=>by injection h with h;subst h;rfl
 | x :: l,L,h=>by
  simp only [resL] at h
  cases hx:resOne ls x with
  | error e=>rw [hx] at h;cases h
  | ok o =>
   rw [hx] at h
   simp only at h
   cases hl:resL ls l with
   | error e=>rw [hl] at h;cases h
   | ok L1 =>
    rw [hl] at h
    injection h with h
    subst h
    rw [List.length_cons,List.length_cons,resL_len hl]
end Go.Proofs.YtiheggkkgbfndaaGreatDoor
