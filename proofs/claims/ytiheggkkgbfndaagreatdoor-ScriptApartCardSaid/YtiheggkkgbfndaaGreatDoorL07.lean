/- Names: asm.named, carouselref14.Name. -/
import Derived.Test.YtiheggkkgbfndaaGreatDoorL05
import Derived.Test.YtiheggkkgbfndaaGreatDoorL03
import Derived.Test.YtiheggkkgbfndaaGreatDoorL01
import Derived.Deep.LoopGhost
import Derived.WalkLawsBesides
import Derived.BigGuardPart
namespace Go.Proofs.YtiheggkkgbfndaaGreatDoor
open Go.RowKit Go.Joins Go.ChangeShapes Go.WideShapes Go.Deep
set_option linter.unusedVariables false
set_option linter.unusedSimpArgs false
set_option maxRecDepth 100000

def chN (i c:Nat):Bool:=(c == 95) || (decide (97 ≤ c) && decide (c ≤ 122)) || (decide (65 ≤ c) && decide (c ≤ 90)) || (decide (0 < i) && (decide (48 ≤ c) && decide (c ≤ 57)))
theorem chF_at (s:ByteArray) (i:Nat) (h:i < s.size):chF i (s.data.toList.getD i 0)=chN i (s[i]).toNat:=by
 have e:s.data.toList.getD i 0=s[i]:=by
  rw [List.getD_eq_getElem?_getD,List.getElem?_eq_getElem (by rw [Array.length_toList];exact h)]
  rfl
 rw [e]
 unfold chF chN isLet isDig
 have e2:(s[i] == 95)=((s[i]).toNat == 95):=by
  rw [Bool.eq_iff_iff,beq_iff_eq,beq_iff_eq,← UInt8.toNat_inj]
  rfl
 rw [e2]
 simp
theorem nameF_bad (s:ByteArray) (i:Nat) (h:i < s.size) (hc:chN i (s[i]).toNat=false):nameF s.data.toList=false:=by
 unfold nameF
 have h2:((List.range s.data.toList.length).all fun i=>chF i (s.data.toList.getD i 0))=false:=by
  rw [List.all_eq_false]
  exact ⟨i,List.mem_range.2 (by rw [Array.length_toList];exact h),by rw [chF_at s i h,hc];exact Bool.false_ne_true⟩
 rw [h2,Bool.and_false]
theorem nameF_all (s:ByteArray) (h:∀ j,j < s.size→chF j (s.data.toList.getD j 0)=true):nameF s.data.toList=(!s.data.toList.isEmpty && decide (s.size ≤ 16)):=by
 unfold nameF
 have h2:((List.range s.data.toList.length).all fun i=>chF i (s.data.toList.getD i 0))=true:=by
  rw [List.all_eq_true]
  intro i hi
  exact h i (by have:=List.mem_range.1 hi;rwa [Array.length_toList] at this)
 rw [h2,Bool.and_true]
 rfl
theorem name_len (s:ByteArray):(!s.data.toList.isEmpty && decide (s.size ≤ 16))=(decide (1 ≤ s.size) && decide (s.size ≤ 16)):=by
 congr 1
 rw [Bool.eq_iff_iff,Bool.not_eq_true',decide_eq_true_eq,← Bool.not_eq_true,List.isEmpty_iff]
 constructor
 ·intro h
  rcases Nat.eq_zero_or_pos s.size with h0 | h0
  ·exact absurd (List.eq_nil_of_length_eq_zero (by rw [Array.length_toList];exact h0)) h
  ·exact h0
 ·intro h e
  have:=congrArg List.length e
  rw [Array.length_toList] at this
  have h2:s.size=0:=this
  omega
theorem chr_cases (c:Nat):(c ≤ 47) ∨ (48 ≤ c∧c ≤ 57) ∨ (58 ≤ c∧c ≤ 64) ∨ (65 ≤ c∧c ≤ 90) ∨ (91 ≤ c∧c ≤ 94) ∨ c=95 ∨ c=96 ∨ (97 ≤ c∧c ≤ 122) ∨ 123 ≤ c:=by omega
set_option maxHeartbeats 4000000 in
theorem named_any (s:ByteArray) (hs:s.size ≤ 4611686018427387904) (w:World):Calls Tryz.prog 161 #[.string s] w fun r w'=>r=.returned (.bool (nameF s.data.toList))∧w'=w:=by
 obtain ⟨n,hn⟩:∃ n,n=s.size:=⟨_,rfl⟩
 have hn1:n ≤ s.size:=by omega
 have hn2:s.size ≤ n:=by omega
 clear hn
 go_enter Tryz.func161,Tryz.ntmps161
 go_wp2_with fail
 go_loopg [7] n (fun gk iv wr=>∃ i:Nat,iv=.int .i64 i∧i ≤ n∧gk=n - i∧(∀ j,j < i→chF j (s.data.toList.getD j 0)=true)∧wr=w)
 case atStart=>exact ⟨0,rfl,Nat.zero_le _,rfl,fun j hj=>absurd hj (by omega),rfl⟩
 case round =>
  obtain ⟨i,rfl,hi,hgk,hno,rfl⟩:=hrel
  have HG:=Lib.hid hgk
  have HNO:=Lib.hid hno
  clear hgk hno
  by_cases hin:i < n
  ·have hil:i < s.size:=by omega
   have e1:decide ((i:Int) < (s.size:Int))=true:=decide_eq_true (by omega)
   have e2:decide (i < s.size)=true:=decide_eq_true hil
   rcases chr_cases (s[i]).toNat with hc | hc | hc | hc | hc | hc | hc | hc | hc
   ·have g0:(((s[i]).toNat:Int) == 95)=false:=by simp;omega
    have g1a:decide ((97:Int) ≤ ((s[i]).toNat:Int))=false:=decide_eq_false (by omega)
    have g1b:decide (97 ≤ (s[i]).toNat)=false:=decide_eq_false (by omega)
    have g2a:decide (((s[i]).toNat:Int) ≤ 122)=true:=decide_eq_true (by omega)
    have g2b:decide ((s[i]).toNat ≤ 122)=true:=decide_eq_true (by omega)
    have g3a:decide ((65:Int) ≤ ((s[i]).toNat:Int))=false:=decide_eq_false (by omega)
    have g3b:decide (65 ≤ (s[i]).toNat)=false:=decide_eq_false (by omega)
    have g4a:decide (((s[i]).toNat:Int) ≤ 90)=true:=decide_eq_true (by omega)
    have g4b:decide ((s[i]).toNat ≤ 90)=true:=decide_eq_true (by omega)
    have g5a:decide ((48:Int) ≤ ((s[i]).toNat:Int))=false:=decide_eq_false (by omega)
    have g5b:decide (48 ≤ (s[i]).toNat)=false:=decide_eq_false (by omega)
    have g6a:decide (((s[i]).toNat:Int) ≤ 57)=true:=decide_eq_true (by omega)
    have g6b:decide ((s[i]).toNat ≤ 57)=true:=decide_eq_true (by omega)
    by_cases hi0:i=0
    ·have z1:decide ((0:Int) < (i:Int))=false:=decide_eq_false (by omega)
     have z2:decide (0 < i)=false:=decide_eq_false (by omega)
     have z3:((i:Int) == 0)=true:=by simp;omega
     have hch:chN i (s[i]).toNat=false:=by unfold chN;simp;omega
     have HNF:Hid (nameF s.data.toList=false):=Lib.hid (nameF_bad s i hil hch)
     clear hch hi0
     go_wp2
     go_ret
     exact ⟨by rw [HNF.out];rfl,rfl⟩
    ·have z1:decide ((0:Int) < (i:Int))=true:=decide_eq_true (by omega)
     have z2:decide (0 < i)=true:=decide_eq_true (by omega)
     have z3:((i:Int) == 0)=false:=by simp;omega
     have hch:chN i (s[i]).toNat=false:=by unfold chN;simp;omega
     have HNF:Hid (nameF s.data.toList=false):=Lib.hid (nameF_bad s i hil hch)
     clear hch hi0
     go_wp2
     go_ret
     exact ⟨by rw [HNF.out];rfl,rfl⟩
   ·have g0:(((s[i]).toNat:Int) == 95)=false:=by simp;omega
    have g1a:decide ((97:Int) ≤ ((s[i]).toNat:Int))=false:=decide_eq_false (by omega)
    have g1b:decide (97 ≤ (s[i]).toNat)=false:=decide_eq_false (by omega)
    have g2a:decide (((s[i]).toNat:Int) ≤ 122)=true:=decide_eq_true (by omega)
    have g2b:decide ((s[i]).toNat ≤ 122)=true:=decide_eq_true (by omega)
    have g3a:decide ((65:Int) ≤ ((s[i]).toNat:Int))=false:=decide_eq_false (by omega)
    have g3b:decide (65 ≤ (s[i]).toNat)=false:=decide_eq_false (by omega)
    have g4a:decide (((s[i]).toNat:Int) ≤ 90)=true:=decide_eq_true (by omega)
    have g4b:decide ((s[i]).toNat ≤ 90)=true:=decide_eq_true (by omega)
    have g5a:decide ((48:Int) ≤ ((s[i]).toNat:Int))=true:=decide_eq_true (by omega)
    have g5b:decide (48 ≤ (s[i]).toNat)=true:=decide_eq_true (by omega)
    have g6a:decide (((s[i]).toNat:Int) ≤ 57)=true:=decide_eq_true (by omega)
    have g6b:decide ((s[i]).toNat ≤ 57)=true:=decide_eq_true (by omega)
    by_cases hi0:i=0
    ·have z1:decide ((0:Int) < (i:Int))=false:=decide_eq_false (by omega)
     have z2:decide (0 < i)=false:=decide_eq_false (by omega)
     have z3:((i:Int) == 0)=true:=by simp;omega
     have hch:chN i (s[i]).toNat=false:=by unfold chN;simp;omega
     have HNF:Hid (nameF s.data.toList=false):=Lib.hid (nameF_bad s i hil hch)
     clear hch hi0
     go_wp2
     go_ret
     exact ⟨by rw [HNF.out];rfl,rfl⟩
    ·have z1:decide ((0:Int) < (i:Int))=true:=decide_eq_true (by omega)
     have z2:decide (0 < i)=true:=decide_eq_true (by omega)
     have z3:((i:Int) == 0)=false:=by simp;omega
     have hch:chN i (s[i]).toNat=true:=by unfold chN;simp;omega
     have HCH:=Lib.hid hch
     clear hch hi0
     go_wp2
     go_roundg (n - (i + 1))
     case measure=>have:=HG.out;omega
     case rel=>exact ⟨i + 1,by simp,by omega,rfl,fun j hj=>by
      by_cases e:j=i
      ·subst e
       rw [chF_at s j hil]
       exact HCH.out
      ·exact HNO.out j (by omega),rfl⟩
   ·have g0:(((s[i]).toNat:Int) == 95)=false:=by simp;omega
    have g1a:decide ((97:Int) ≤ ((s[i]).toNat:Int))=false:=decide_eq_false (by omega)
    have g1b:decide (97 ≤ (s[i]).toNat)=false:=decide_eq_false (by omega)
    have g2a:decide (((s[i]).toNat:Int) ≤ 122)=true:=decide_eq_true (by omega)
    have g2b:decide ((s[i]).toNat ≤ 122)=true:=decide_eq_true (by omega)
    have g3a:decide ((65:Int) ≤ ((s[i]).toNat:Int))=false:=decide_eq_false (by omega)
    have g3b:decide (65 ≤ (s[i]).toNat)=false:=decide_eq_false (by omega)
    have g4a:decide (((s[i]).toNat:Int) ≤ 90)=true:=decide_eq_true (by omega)
    have g4b:decide ((s[i]).toNat ≤ 90)=true:=decide_eq_true (by omega)
    have g5a:decide ((48:Int) ≤ ((s[i]).toNat:Int))=true:=decide_eq_true (by omega)
    have g5b:decide (48 ≤ (s[i]).toNat)=true:=decide_eq_true (by omega)
    have g6a:decide (((s[i]).toNat:Int) ≤ 57)=false:=decide_eq_false (by omega)
    have g6b:decide ((s[i]).toNat ≤ 57)=false:=decide_eq_false (by omega)
    by_cases hi0:i=0
    ·have z1:decide ((0:Int) < (i:Int))=false:=decide_eq_false (by omega)
     have z2:decide (0 < i)=false:=decide_eq_false (by omega)
     have z3:((i:Int) == 0)=true:=by simp;omega
     have hch:chN i (s[i]).toNat=false:=by unfold chN;simp;omega
     have HNF:Hid (nameF s.data.toList=false):=Lib.hid (nameF_bad s i hil hch)
     clear hch hi0
     go_wp2
     go_ret
     exact ⟨by rw [HNF.out];rfl,rfl⟩
    ·have z1:decide ((0:Int) < (i:Int))=true:=decide_eq_true (by omega)
     have z2:decide (0 < i)=true:=decide_eq_true (by omega)
     have z3:((i:Int) == 0)=false:=by simp;omega
     have hch:chN i (s[i]).toNat=false:=by unfold chN;simp;omega
     have HNF:Hid (nameF s.data.toList=false):=Lib.hid (nameF_bad s i hil hch)
     clear hch hi0
     go_wp2
     go_ret
     exact ⟨by rw [HNF.out];rfl,rfl⟩
   ·have g0:(((s[i]).toNat:Int) == 95)=false:=by simp;omega
    have g1a:decide ((97:Int) ≤ ((s[i]).toNat:Int))=false:=decide_eq_false (by omega)
    have g1b:decide (97 ≤ (s[i]).toNat)=false:=decide_eq_false (by omega)
    have g2a:decide (((s[i]).toNat:Int) ≤ 122)=true:=decide_eq_true (by omega)
    have g2b:decide ((s[i]).toNat ≤ 122)=true:=decide_eq_true (by omega)
    have g3a:decide ((65:Int) ≤ ((s[i]).toNat:Int))=true:=decide_eq_true (by omega)
    have g3b:decide (65 ≤ (s[i]).toNat)=true:=decide_eq_true (by omega)
    have g4a:decide (((s[i]).toNat:Int) ≤ 90)=true:=decide_eq_true (by omega)
    have g4b:decide ((s[i]).toNat ≤ 90)=true:=decide_eq_true (by omega)
    have g5a:decide ((48:Int) ≤ ((s[i]).toNat:Int))=true:=decide_eq_true (by omega)
    have g5b:decide (48 ≤ (s[i]).toNat)=true:=decide_eq_true (by omega)
    have g6a:decide (((s[i]).toNat:Int) ≤ 57)=false:=decide_eq_false (by omega)
    have g6b:decide ((s[i]).toNat ≤ 57)=false:=decide_eq_false (by omega)
    by_cases hi0:i=0
    ·have z1:decide ((0:Int) < (i:Int))=false:=decide_eq_false (by omega)
     have z2:decide (0 < i)=false:=decide_eq_false (by omega)
     have z3:((i:Int) == 0)=true:=by simp;omega
     have hch:chN i (s[i]).toNat=true:=by unfold chN;simp;omega
     have HCH:=Lib.hid hch
     clear hch hi0
     go_wp2
     go_roundg (n - (i + 1))
     case measure=>have:=HG.out;omega
     case rel=>exact ⟨i + 1,by simp,by omega,rfl,fun j hj=>by
      by_cases e:j=i
      ·subst e
       rw [chF_at s j hil]
       exact HCH.out
      ·exact HNO.out j (by omega),rfl⟩
    ·have z1:decide ((0:Int) < (i:Int))=true:=decide_eq_true (by omega)
     have z2:decide (0 < i)=true:=decide_eq_true (by omega)
     have z3:((i:Int) == 0)=false:=by simp;omega
     have hch:chN i (s[i]).toNat=true:=by unfold chN;simp;omega
     have HCH:=Lib.hid hch
     clear hch hi0
     go_wp2
     go_roundg (n - (i + 1))
     case measure=>have:=HG.out;omega
     case rel=>exact ⟨i + 1,by simp,by omega,rfl,fun j hj=>by
      by_cases e:j=i
      ·subst e
       rw [chF_at s j hil]
       exact HCH.out
      ·exact HNO.out j (by omega),rfl⟩
   ·have g0:(((s[i]).toNat:Int) == 95)=false:=by simp;omega
    have g1a:decide ((97:Int) ≤ ((s[i]).toNat:Int))=false:=decide_eq_false (by omega)
    have g1b:decide (97 ≤ (s[i]).toNat)=false:=decide_eq_false (by omega)
    have g2a:decide (((s[i]).toNat:Int) ≤ 122)=true:=decide_eq_true (by omega)
    have g2b:decide ((s[i]).toNat ≤ 122)=true:=decide_eq_true (by omega)
    have g3a:decide ((65:Int) ≤ ((s[i]).toNat:Int))=true:=decide_eq_true (by omega)
    have g3b:decide (65 ≤ (s[i]).toNat)=true:=decide_eq_true (by omega)
    have g4a:decide (((s[i]).toNat:Int) ≤ 90)=false:=decide_eq_false (by omega)
    have g4b:decide ((s[i]).toNat ≤ 90)=false:=decide_eq_false (by omega)
    have g5a:decide ((48:Int) ≤ ((s[i]).toNat:Int))=true:=decide_eq_true (by omega)
    have g5b:decide (48 ≤ (s[i]).toNat)=true:=decide_eq_true (by omega)
    have g6a:decide (((s[i]).toNat:Int) ≤ 57)=false:=decide_eq_false (by omega)
    have g6b:decide ((s[i]).toNat ≤ 57)=false:=decide_eq_false (by omega)
    by_cases hi0:i=0
    ·have z1:decide ((0:Int) < (i:Int))=false:=decide_eq_false (by omega)
     have z2:decide (0 < i)=false:=decide_eq_false (by omega)
     have z3:((i:Int) == 0)=true:=by simp;omega
     have hch:chN i (s[i]).toNat=false:=by unfold chN;simp;omega
     have HNF:Hid (nameF s.data.toList=false):=Lib.hid (nameF_bad s i hil hch)
     clear hch hi0
     go_wp2
     go_ret
     exact ⟨by rw [HNF.out];rfl,rfl⟩
    ·have z1:decide ((0:Int) < (i:Int))=true:=decide_eq_true (by omega)
     have z2:decide (0 < i)=true:=decide_eq_true (by omega)
     have z3:((i:Int) == 0)=false:=by simp;omega
     have hch:chN i (s[i]).toNat=false:=by unfold chN;simp;omega
     have HNF:Hid (nameF s.data.toList=false):=Lib.hid (nameF_bad s i hil hch)
     clear hch hi0
     go_wp2
     go_ret
     exact ⟨by rw [HNF.out];rfl,rfl⟩
   ·have g0:(((s[i]).toNat:Int) == 95)=true:=by simp;omega
    have g1a:decide ((97:Int) ≤ ((s[i]).toNat:Int))=false:=decide_eq_false (by omega)
    have g1b:decide (97 ≤ (s[i]).toNat)=false:=decide_eq_false (by omega)
    have g2a:decide (((s[i]).toNat:Int) ≤ 122)=true:=decide_eq_true (by omega)
    have g2b:decide ((s[i]).toNat ≤ 122)=true:=decide_eq_true (by omega)
    have g3a:decide ((65:Int) ≤ ((s[i]).toNat:Int))=true:=decide_eq_true (by omega)
    have g3b:decide (65 ≤ (s[i]).toNat)=true:=decide_eq_true (by omega)
    have g4a:decide (((s[i]).toNat:Int) ≤ 90)=false:=decide_eq_false (by omega)
    have g4b:decide ((s[i]).toNat ≤ 90)=false:=decide_eq_false (by omega)
    have g5a:decide ((48:Int) ≤ ((s[i]).toNat:Int))=true:=decide_eq_true (by omega)
    have g5b:decide (48 ≤ (s[i]).toNat)=true:=decide_eq_true (by omega)
    have g6a:decide (((s[i]).toNat:Int) ≤ 57)=false:=decide_eq_false (by omega)
    have g6b:decide ((s[i]).toNat ≤ 57)=false:=decide_eq_false (by omega)
    by_cases hi0:i=0
    ·have z1:decide ((0:Int) < (i:Int))=false:=decide_eq_false (by omega)
     have z2:decide (0 < i)=false:=decide_eq_false (by omega)
     have z3:((i:Int) == 0)=true:=by simp;omega
     have hch:chN i (s[i]).toNat=true:=by unfold chN;simp;omega
     have HCH:=Lib.hid hch
     clear hch hi0
     go_wp2
     go_roundg (n - (i + 1))
     case measure=>have:=HG.out;omega
     case rel=>exact ⟨i + 1,by simp,by omega,rfl,fun j hj=>by
      by_cases e:j=i
      ·subst e
       rw [chF_at s j hil]
       exact HCH.out
      ·exact HNO.out j (by omega),rfl⟩
    ·have z1:decide ((0:Int) < (i:Int))=true:=decide_eq_true (by omega)
     have z2:decide (0 < i)=true:=decide_eq_true (by omega)
     have z3:((i:Int) == 0)=false:=by simp;omega
     have hch:chN i (s[i]).toNat=true:=by unfold chN;simp;omega
     have HCH:=Lib.hid hch
     clear hch hi0
     go_wp2
     go_roundg (n - (i + 1))
     case measure=>have:=HG.out;omega
     case rel=>exact ⟨i + 1,by simp,by omega,rfl,fun j hj=>by
      by_cases e:j=i
      ·subst e
       rw [chF_at s j hil]
       exact HCH.out
      ·exact HNO.out j (by omega),rfl⟩
   ·have g0:(((s[i]).toNat:Int) == 95)=false:=by simp;omega
    have g1a:decide ((97:Int) ≤ ((s[i]).toNat:Int))=false:=decide_eq_false (by omega)
    have g1b:decide (97 ≤ (s[i]).toNat)=false:=decide_eq_false (by omega)
    have g2a:decide (((s[i]).toNat:Int) ≤ 122)=true:=decide_eq_true (by omega)
    have g2b:decide ((s[i]).toNat ≤ 122)=true:=decide_eq_true (by omega)
    have g3a:decide ((65:Int) ≤ ((s[i]).toNat:Int))=true:=decide_eq_true (by omega)
    have g3b:decide (65 ≤ (s[i]).toNat)=true:=decide_eq_true (by omega)
    have g4a:decide (((s[i]).toNat:Int) ≤ 90)=false:=decide_eq_false (by omega)
    have g4b:decide ((s[i]).toNat ≤ 90)=false:=decide_eq_false (by omega)
    have g5a:decide ((48:Int) ≤ ((s[i]).toNat:Int))=true:=decide_eq_true (by omega)
    have g5b:decide (48 ≤ (s[i]).toNat)=true:=decide_eq_true (by omega)
    have g6a:decide (((s[i]).toNat:Int) ≤ 57)=false:=decide_eq_false (by omega)
    have g6b:decide ((s[i]).toNat ≤ 57)=false:=decide_eq_false (by omega)
    by_cases hi0:i=0
    ·have z1:decide ((0:Int) < (i:Int))=false:=decide_eq_false (by omega)
     have z2:decide (0 < i)=false:=decide_eq_false (by omega)
     have z3:((i:Int) == 0)=true:=by simp;omega
     have hch:chN i (s[i]).toNat=false:=by unfold chN;simp;omega
     have HNF:Hid (nameF s.data.toList=false):=Lib.hid (nameF_bad s i hil hch)
     clear hch hi0
     go_wp2
     go_ret
     exact ⟨by rw [HNF.out];rfl,rfl⟩
    ·have z1:decide ((0:Int) < (i:Int))=true:=decide_eq_true (by omega)
     have z2:decide (0 < i)=true:=decide_eq_true (by omega)
     have z3:((i:Int) == 0)=false:=by simp;omega
     have hch:chN i (s[i]).toNat=false:=by unfold chN;simp;omega
     have HNF:Hid (nameF s.data.toList=false):=Lib.hid (nameF_bad s i hil hch)
     clear hch hi0
     go_wp2
     go_ret
     exact ⟨by rw [HNF.out];rfl,rfl⟩
   ·have g0:(((s[i]).toNat:Int) == 95)=false:=by simp;omega
    have g1a:decide ((97:Int) ≤ ((s[i]).toNat:Int))=true:=decide_eq_true (by omega)
    have g1b:decide (97 ≤ (s[i]).toNat)=true:=decide_eq_true (by omega)
    have g2a:decide (((s[i]).toNat:Int) ≤ 122)=true:=decide_eq_true (by omega)
    have g2b:decide ((s[i]).toNat ≤ 122)=true:=decide_eq_true (by omega)
    have g3a:decide ((65:Int) ≤ ((s[i]).toNat:Int))=true:=decide_eq_true (by omega)
    have g3b:decide (65 ≤ (s[i]).toNat)=true:=decide_eq_true (by omega)
    have g4a:decide (((s[i]).toNat:Int) ≤ 90)=false:=decide_eq_false (by omega)
    have g4b:decide ((s[i]).toNat ≤ 90)=false:=decide_eq_false (by omega)
    have g5a:decide ((48:Int) ≤ ((s[i]).toNat:Int))=true:=decide_eq_true (by omega)
    have g5b:decide (48 ≤ (s[i]).toNat)=true:=decide_eq_true (by omega)
    have g6a:decide (((s[i]).toNat:Int) ≤ 57)=false:=decide_eq_false (by omega)
    have g6b:decide ((s[i]).toNat ≤ 57)=false:=decide_eq_false (by omega)
    by_cases hi0:i=0
    ·have z1:decide ((0:Int) < (i:Int))=false:=decide_eq_false (by omega)
     have z2:decide (0 < i)=false:=decide_eq_false (by omega)
     have z3:((i:Int) == 0)=true:=by simp;omega
     have hch:chN i (s[i]).toNat=true:=by unfold chN;simp;omega
     have HCH:=Lib.hid hch
     clear hch hi0
     go_wp2
     go_roundg (n - (i + 1))
     case measure=>have:=HG.out;omega
     case rel=>exact ⟨i + 1,by simp,by omega,rfl,fun j hj=>by
      by_cases e:j=i
      ·subst e
       rw [chF_at s j hil]
       exact HCH.out
      ·exact HNO.out j (by omega),rfl⟩
    ·have z1:decide ((0:Int) < (i:Int))=true:=decide_eq_true (by omega)
     have z2:decide (0 < i)=true:=decide_eq_true (by omega)
     have z3:((i:Int) == 0)=false:=by simp;omega
     have hch:chN i (s[i]).toNat=true:=by unfold chN;simp;omega
     have HCH:=Lib.hid hch
     clear hch hi0
     go_wp2
     go_roundg (n - (i + 1))
     case measure=>have:=HG.out;omega
     case rel=>exact ⟨i + 1,by simp,by omega,rfl,fun j hj=>by
      by_cases e:j=i
      ·subst e
       rw [chF_at s j hil]
       exact HCH.out
      ·exact HNO.out j (by omega),rfl⟩
   ·have g0:(((s[i]).toNat:Int) == 95)=false:=by simp;omega
    have g1a:decide ((97:Int) ≤ ((s[i]).toNat:Int))=true:=decide_eq_true (by omega)
    have g1b:decide (97 ≤ (s[i]).toNat)=true:=decide_eq_true (by omega)
    have g2a:decide (((s[i]).toNat:Int) ≤ 122)=false:=decide_eq_false (by omega)
    have g2b:decide ((s[i]).toNat ≤ 122)=false:=decide_eq_false (by omega)
    have g3a:decide ((65:Int) ≤ ((s[i]).toNat:Int))=true:=decide_eq_true (by omega)
    have g3b:decide (65 ≤ (s[i]).toNat)=true:=decide_eq_true (by omega)
    have g4a:decide (((s[i]).toNat:Int) ≤ 90)=false:=decide_eq_false (by omega)
    have g4b:decide ((s[i]).toNat ≤ 90)=false:=decide_eq_false (by omega)
    have g5a:decide ((48:Int) ≤ ((s[i]).toNat:Int))=true:=decide_eq_true (by omega)
    have g5b:decide (48 ≤ (s[i]).toNat)=true:=decide_eq_true (by omega)
    have g6a:decide (((s[i]).toNat:Int) ≤ 57)=false:=decide_eq_false (by omega)
    have g6b:decide ((s[i]).toNat ≤ 57)=false:=decide_eq_false (by omega)
    by_cases hi0:i=0
    ·have z1:decide ((0:Int) < (i:Int))=false:=decide_eq_false (by omega)
     have z2:decide (0 < i)=false:=decide_eq_false (by omega)
     have z3:((i:Int) == 0)=true:=by simp;omega
     have hch:chN i (s[i]).toNat=false:=by unfold chN;simp;omega
     have HNF:Hid (nameF s.data.toList=false):=Lib.hid (nameF_bad s i hil hch)
     clear hch hi0
     go_wp2
     go_ret
     exact ⟨by rw [HNF.out];rfl,rfl⟩
    ·have z1:decide ((0:Int) < (i:Int))=true:=decide_eq_true (by omega)
     have z2:decide (0 < i)=true:=decide_eq_true (by omega)
     have z3:((i:Int) == 0)=false:=by simp;omega
     have hch:chN i (s[i]).toNat=false:=by unfold chN;simp;omega
     have HNF:Hid (nameF s.data.toList=false):=Lib.hid (nameF_bad s i hil hch)
     clear hch hi0
     go_wp2
     go_ret
     exact ⟨by rw [HNF.out];rfl,rfl⟩
  ·have e1:decide ((i:Int) < (s.size:Int))=false:=decide_eq_false (by omega)
   have e2:decide (i < s.size)=false:=decide_eq_false (by omega)
   have HNA:=Lib.hid (nameF_all s fun j hj=>HNO.out j (by omega))
   have hem:s.data.toList.isEmpty=decide (s.size=0):=by
    rw [Bool.eq_iff_iff,List.isEmpty_iff,decide_eq_true_eq]
    constructor
    ·intro h
     have:=congrArg List.length h
     rw [Array.length_toList] at this
     exact this
    ·intro h
     exact List.eq_nil_of_length_eq_zero (by rw [Array.length_toList];exact h)
   have HEM:=Lib.hid hem
   clear hem
   go_wp2
   all_goals rename_i hstr
   all_goals rw [ByteArray.toList_eq] at hstr
   all_goals have HV:nameF s.data.toList=(!s.data.toList.isEmpty && decide ((s.size:Int) ≤ 16)):=by rw [HNA.out];congr 1;exact decide_eq_decide.2 ⟨fun h=>by omega,fun h=>by omega⟩
   all_goals rw [hstr] at HV
   all_goals go_ret
   all_goals exact ⟨by rw [HV];rfl,rfl⟩
set_option maxHeartbeats 4000000 in
theorem name_any (s:ByteArray) (hs:s.size ≤ 4611686018427387904) (w:World):Calls Tryz.prog 163 #[.string s] w fun r w'=>r=.returned (.bool (nameF s.data.toList))∧w'=w:=by
 by_cases hl1:s.size < 1
 ·have e1:decide ((s.size:Int) < 1)=true:=decide_eq_true (by omega)
  have e2:decide (s.size < 1)=true:=decide_eq_true hl1
  have HNF:Hid (nameF s.data.toList=false):=Lib.hid (by
   rw [nameF_all s (fun j hj=>absurd hj (by omega)),name_len s]
   simp;omega)
  clear hl1
  go_enter Tryz.func163,Tryz.ntmps163
  go_wp2
  go_ret
  exact ⟨by rw [HNF.out];rfl,rfl⟩
 ·by_cases hl16:16 < s.size
  ·have e1:decide ((s.size:Int) < 1)=false:=decide_eq_false (by omega)
   have e2:decide (s.size < 1)=false:=decide_eq_false hl1
   have e3:decide ((16:Int) < (s.size:Int))=true:=decide_eq_true (by omega)
   have e4:decide (16 < s.size)=true:=decide_eq_true hl16
   have HNF:Hid (nameF s.data.toList=false):=Lib.hid (by
    unfold nameF
    have:decide (s.data.toList.length ≤ 16)=false:=decide_eq_false (by rw [Array.length_toList];show ¬ s.size ≤ 16;omega)
    rw [this]
    simp)
   clear hl1 hl16
   go_enter Tryz.func163,Tryz.ntmps163
   go_wp2
   go_ret
   exact ⟨by rw [HNF.out];rfl,rfl⟩
  ·have k1:decide ((s.size:Int) < 1)=false:=decide_eq_false (by omega)
   have k2:decide (s.size < 1)=false:=decide_eq_false hl1
   have k3:decide ((16:Int) < (s.size:Int))=false:=decide_eq_false (by omega)
   have k4:decide (16 < s.size)=false:=decide_eq_false hl16
   have HL3:Hid (s.size ≤ 16):=Lib.hid (by omega)
   have HL4:Hid (1 ≤ s.size):=Lib.hid (by omega)
   obtain ⟨n,hn⟩:∃ n,n=s.size:=⟨_,rfl⟩
   have hn1:n ≤ s.size:=by omega
   have hn2:s.size ≤ n:=by omega
   have hl2:1 ≤ s.size:=by omega
   clear hn hl1 hl16
   go_enter Tryz.func163,Tryz.ntmps163
   go_wp2_with fail
   go_loopg [3] n (fun gk iv wr=>∃ i:Nat,iv=.int .i64 i∧i ≤ n∧gk=n - i∧(∀ j,j < i→chF j (s.data.toList.getD j 0)=true)∧wr=w)
   case atStart=>exact ⟨0,rfl,Nat.zero_le _,rfl,fun j hj=>absurd hj (by omega),rfl⟩
   case round =>
    obtain ⟨i,rfl,hi,hgk,hno,rfl⟩:=hrel
    have HG:=Lib.hid hgk
    have HNO:=Lib.hid hno
    clear hgk hno
    by_cases hin:i < n
    ·have hil:i < s.size:=by omega
     have e1:decide ((i:Int) < (s.size:Int))=true:=decide_eq_true (by omega)
     have e2:decide (i < s.size)=true:=decide_eq_true hil
     rcases chr_cases (s[i]).toNat with hc | hc | hc | hc | hc | hc | hc | hc | hc
     ·have g0:(((s[i]).toNat:Int) == 95)=false:=by simp;omega
      have g1a:decide ((97:Int) ≤ ((s[i]).toNat:Int))=false:=decide_eq_false (by omega)
      have g1b:decide (97 ≤ (s[i]).toNat)=false:=decide_eq_false (by omega)
      have g2a:decide (((s[i]).toNat:Int) ≤ 122)=true:=decide_eq_true (by omega)
      have g2b:decide ((s[i]).toNat ≤ 122)=true:=decide_eq_true (by omega)
      have g3a:decide ((65:Int) ≤ ((s[i]).toNat:Int))=false:=decide_eq_false (by omega)
      have g3b:decide (65 ≤ (s[i]).toNat)=false:=decide_eq_false (by omega)
      have g4a:decide (((s[i]).toNat:Int) ≤ 90)=true:=decide_eq_true (by omega)
      have g4b:decide ((s[i]).toNat ≤ 90)=true:=decide_eq_true (by omega)
      have g5a:decide (((s[i]).toNat:Int) < 48)=true:=decide_eq_true (by omega)
      have g5b:decide ((s[i]).toNat < 48)=true:=decide_eq_true (by omega)
      have g6a:decide ((57:Int) < ((s[i]).toNat:Int))=false:=decide_eq_false (by omega)
      have g6b:decide (57 < (s[i]).toNat)=false:=decide_eq_false (by omega)
      by_cases hi0:i=0
      ·have z1:decide ((0:Int) < (i:Int))=false:=decide_eq_false (by omega)
       have z2:decide (0 < i)=false:=decide_eq_false (by omega)
       have z3:((i:Int) == 0)=true:=by simp;omega
       have hch:chN i (s[i]).toNat=false:=by unfold chN;simp;omega
       have HNF:Hid (nameF s.data.toList=false):=Lib.hid (nameF_bad s i hil hch)
       clear hch hi0
       go_wp2
       go_ret
       exact ⟨by rw [HNF.out];rfl,rfl⟩
      ·have z1:decide ((0:Int) < (i:Int))=true:=decide_eq_true (by omega)
       have z2:decide (0 < i)=true:=decide_eq_true (by omega)
       have z3:((i:Int) == 0)=false:=by simp;omega
       have hch:chN i (s[i]).toNat=false:=by unfold chN;simp;omega
       have HNF:Hid (nameF s.data.toList=false):=Lib.hid (nameF_bad s i hil hch)
       clear hch hi0
       go_wp2
       go_ret
       exact ⟨by rw [HNF.out];rfl,rfl⟩
     ·have g0:(((s[i]).toNat:Int) == 95)=false:=by simp;omega
      have g1a:decide ((97:Int) ≤ ((s[i]).toNat:Int))=false:=decide_eq_false (by omega)
      have g1b:decide (97 ≤ (s[i]).toNat)=false:=decide_eq_false (by omega)
      have g2a:decide (((s[i]).toNat:Int) ≤ 122)=true:=decide_eq_true (by omega)
      have g2b:decide ((s[i]).toNat ≤ 122)=true:=decide_eq_true (by omega)
      have g3a:decide ((65:Int) ≤ ((s[i]).toNat:Int))=false:=decide_eq_false (by omega)
      have g3b:decide (65 ≤ (s[i]).toNat)=false:=decide_eq_false (by omega)
      have g4a:decide (((s[i]).toNat:Int) ≤ 90)=true:=decide_eq_true (by omega)
      have g4b:decide ((s[i]).toNat ≤ 90)=true:=decide_eq_true (by omega)
      have g5a:decide (((s[i]).toNat:Int) < 48)=false:=decide_eq_false (by omega)
      have g5b:decide ((s[i]).toNat < 48)=false:=decide_eq_false (by omega)
      have g6a:decide ((57:Int) < ((s[i]).toNat:Int))=false:=decide_eq_false (by omega)
      have g6b:decide (57 < (s[i]).toNat)=false:=decide_eq_false (by omega)
      by_cases hi0:i=0
      ·have z1:decide ((0:Int) < (i:Int))=false:=decide_eq_false (by omega)
       have z2:decide (0 < i)=false:=decide_eq_false (by omega)
       have z3:((i:Int) == 0)=true:=by simp;omega
       have hch:chN i (s[i]).toNat=false:=by unfold chN;simp;omega
       have HNF:Hid (nameF s.data.toList=false):=Lib.hid (nameF_bad s i hil hch)
       clear hch hi0
       go_wp2
       go_ret
       exact ⟨by rw [HNF.out];rfl,rfl⟩
      ·have z1:decide ((0:Int) < (i:Int))=true:=decide_eq_true (by omega)
       have z2:decide (0 < i)=true:=decide_eq_true (by omega)
       have z3:((i:Int) == 0)=false:=by simp;omega
       have hch:chN i (s[i]).toNat=true:=by unfold chN;simp;omega
       have HCH:=Lib.hid hch
       clear hch hi0
       go_wp2
       go_roundg (n - (i + 1))
       case measure=>have:=HG.out;omega
       case rel=>exact ⟨i + 1,by simp,by omega,rfl,fun j hj=>by
        by_cases e:j=i
        ·subst e
         rw [chF_at s j hil]
         exact HCH.out
        ·exact HNO.out j (by omega),rfl⟩
     ·have g0:(((s[i]).toNat:Int) == 95)=false:=by simp;omega
      have g1a:decide ((97:Int) ≤ ((s[i]).toNat:Int))=false:=decide_eq_false (by omega)
      have g1b:decide (97 ≤ (s[i]).toNat)=false:=decide_eq_false (by omega)
      have g2a:decide (((s[i]).toNat:Int) ≤ 122)=true:=decide_eq_true (by omega)
      have g2b:decide ((s[i]).toNat ≤ 122)=true:=decide_eq_true (by omega)
      have g3a:decide ((65:Int) ≤ ((s[i]).toNat:Int))=false:=decide_eq_false (by omega)
      have g3b:decide (65 ≤ (s[i]).toNat)=false:=decide_eq_false (by omega)
      have g4a:decide (((s[i]).toNat:Int) ≤ 90)=true:=decide_eq_true (by omega)
      have g4b:decide ((s[i]).toNat ≤ 90)=true:=decide_eq_true (by omega)
      have g5a:decide (((s[i]).toNat:Int) < 48)=false:=decide_eq_false (by omega)
      have g5b:decide ((s[i]).toNat < 48)=false:=decide_eq_false (by omega)
      have g6a:decide ((57:Int) < ((s[i]).toNat:Int))=true:=decide_eq_true (by omega)
      have g6b:decide (57 < (s[i]).toNat)=true:=decide_eq_true (by omega)
      by_cases hi0:i=0
      ·have z1:decide ((0:Int) < (i:Int))=false:=decide_eq_false (by omega)
       have z2:decide (0 < i)=false:=decide_eq_false (by omega)
       have z3:((i:Int) == 0)=true:=by simp;omega
       have hch:chN i (s[i]).toNat=false:=by unfold chN;simp;omega
       have HNF:Hid (nameF s.data.toList=false):=Lib.hid (nameF_bad s i hil hch)
       clear hch hi0
       go_wp2
       go_ret
       exact ⟨by rw [HNF.out];rfl,rfl⟩
      ·have z1:decide ((0:Int) < (i:Int))=true:=decide_eq_true (by omega)
       have z2:decide (0 < i)=true:=decide_eq_true (by omega)
       have z3:((i:Int) == 0)=false:=by simp;omega
       have hch:chN i (s[i]).toNat=false:=by unfold chN;simp;omega
       have HNF:Hid (nameF s.data.toList=false):=Lib.hid (nameF_bad s i hil hch)
       clear hch hi0
       go_wp2
       go_ret
       exact ⟨by rw [HNF.out];rfl,rfl⟩
     ·have g0:(((s[i]).toNat:Int) == 95)=false:=by simp;omega
      have g1a:decide ((97:Int) ≤ ((s[i]).toNat:Int))=false:=decide_eq_false (by omega)
      have g1b:decide (97 ≤ (s[i]).toNat)=false:=decide_eq_false (by omega)
      have g2a:decide (((s[i]).toNat:Int) ≤ 122)=true:=decide_eq_true (by omega)
      have g2b:decide ((s[i]).toNat ≤ 122)=true:=decide_eq_true (by omega)
      have g3a:decide ((65:Int) ≤ ((s[i]).toNat:Int))=true:=decide_eq_true (by omega)
      have g3b:decide (65 ≤ (s[i]).toNat)=true:=decide_eq_true (by omega)
      have g4a:decide (((s[i]).toNat:Int) ≤ 90)=true:=decide_eq_true (by omega)
      have g4b:decide ((s[i]).toNat ≤ 90)=true:=decide_eq_true (by omega)
      have g5a:decide (((s[i]).toNat:Int) < 48)=false:=decide_eq_false (by omega)
      have g5b:decide ((s[i]).toNat < 48)=false:=decide_eq_false (by omega)
      have g6a:decide ((57:Int) < ((s[i]).toNat:Int))=true:=decide_eq_true (by omega)
      have g6b:decide (57 < (s[i]).toNat)=true:=decide_eq_true (by omega)
      by_cases hi0:i=0
      ·have z1:decide ((0:Int) < (i:Int))=false:=decide_eq_false (by omega)
       have z2:decide (0 < i)=false:=decide_eq_false (by omega)
       have z3:((i:Int) == 0)=true:=by simp;omega
       have hch:chN i (s[i]).toNat=true:=by unfold chN;simp;omega
       have HCH:=Lib.hid hch
       clear hch hi0
       go_wp2
       go_roundg (n - (i + 1))
       case measure=>have:=HG.out;omega
       case rel=>exact ⟨i + 1,by simp,by omega,rfl,fun j hj=>by
        by_cases e:j=i
        ·subst e
         rw [chF_at s j hil]
         exact HCH.out
        ·exact HNO.out j (by omega),rfl⟩
      ·have z1:decide ((0:Int) < (i:Int))=true:=decide_eq_true (by omega)
       have z2:decide (0 < i)=true:=decide_eq_true (by omega)
       have z3:((i:Int) == 0)=false:=by simp;omega
       have hch:chN i (s[i]).toNat=true:=by unfold chN;simp;omega
       have HCH:=Lib.hid hch
       clear hch hi0
       go_wp2
       go_roundg (n - (i + 1))
       case measure=>have:=HG.out;omega
       case rel=>exact ⟨i + 1,by simp,by omega,rfl,fun j hj=>by
        by_cases e:j=i
        ·subst e
         rw [chF_at s j hil]
         exact HCH.out
        ·exact HNO.out j (by omega),rfl⟩
     ·have g0:(((s[i]).toNat:Int) == 95)=false:=by simp;omega
      have g1a:decide ((97:Int) ≤ ((s[i]).toNat:Int))=false:=decide_eq_false (by omega)
      have g1b:decide (97 ≤ (s[i]).toNat)=false:=decide_eq_false (by omega)
      have g2a:decide (((s[i]).toNat:Int) ≤ 122)=true:=decide_eq_true (by omega)
      have g2b:decide ((s[i]).toNat ≤ 122)=true:=decide_eq_true (by omega)
      have g3a:decide ((65:Int) ≤ ((s[i]).toNat:Int))=true:=decide_eq_true (by omega)
      have g3b:decide (65 ≤ (s[i]).toNat)=true:=decide_eq_true (by omega)
      have g4a:decide (((s[i]).toNat:Int) ≤ 90)=false:=decide_eq_false (by omega)
      have g4b:decide ((s[i]).toNat ≤ 90)=false:=decide_eq_false (by omega)
      have g5a:decide (((s[i]).toNat:Int) < 48)=false:=decide_eq_false (by omega)
      have g5b:decide ((s[i]).toNat < 48)=false:=decide_eq_false (by omega)
      have g6a:decide ((57:Int) < ((s[i]).toNat:Int))=true:=decide_eq_true (by omega)
      have g6b:decide (57 < (s[i]).toNat)=true:=decide_eq_true (by omega)
      by_cases hi0:i=0
      ·have z1:decide ((0:Int) < (i:Int))=false:=decide_eq_false (by omega)
       have z2:decide (0 < i)=false:=decide_eq_false (by omega)
       have z3:((i:Int) == 0)=true:=by simp;omega
       have hch:chN i (s[i]).toNat=false:=by unfold chN;simp;omega
       have HNF:Hid (nameF s.data.toList=false):=Lib.hid (nameF_bad s i hil hch)
       clear hch hi0
       go_wp2
       go_ret
       exact ⟨by rw [HNF.out];rfl,rfl⟩
      ·have z1:decide ((0:Int) < (i:Int))=true:=decide_eq_true (by omega)
       have z2:decide (0 < i)=true:=decide_eq_true (by omega)
       have z3:((i:Int) == 0)=false:=by simp;omega
       have hch:chN i (s[i]).toNat=false:=by unfold chN;simp;omega
       have HNF:Hid (nameF s.data.toList=false):=Lib.hid (nameF_bad s i hil hch)
       clear hch hi0
       go_wp2
       go_ret
       exact ⟨by rw [HNF.out];rfl,rfl⟩
     ·have g0:(((s[i]).toNat:Int) == 95)=true:=by simp;omega
      have g1a:decide ((97:Int) ≤ ((s[i]).toNat:Int))=false:=decide_eq_false (by omega)
      have g1b:decide (97 ≤ (s[i]).toNat)=false:=decide_eq_false (by omega)
      have g2a:decide (((s[i]).toNat:Int) ≤ 122)=true:=decide_eq_true (by omega)
      have g2b:decide ((s[i]).toNat ≤ 122)=true:=decide_eq_true (by omega)
      have g3a:decide ((65:Int) ≤ ((s[i]).toNat:Int))=true:=decide_eq_true (by omega)
      have g3b:decide (65 ≤ (s[i]).toNat)=true:=decide_eq_true (by omega)
      have g4a:decide (((s[i]).toNat:Int) ≤ 90)=false:=decide_eq_false (by omega)
      have g4b:decide ((s[i]).toNat ≤ 90)=false:=decide_eq_false (by omega)
      have g5a:decide (((s[i]).toNat:Int) < 48)=false:=decide_eq_false (by omega)
      have g5b:decide ((s[i]).toNat < 48)=false:=decide_eq_false (by omega)
      have g6a:decide ((57:Int) < ((s[i]).toNat:Int))=true:=decide_eq_true (by omega)
      have g6b:decide (57 < (s[i]).toNat)=true:=decide_eq_true (by omega)
      by_cases hi0:i=0
      ·have z1:decide ((0:Int) < (i:Int))=false:=decide_eq_false (by omega)
       have z2:decide (0 < i)=false:=decide_eq_false (by omega)
       have z3:((i:Int) == 0)=true:=by simp;omega
       have hch:chN i (s[i]).toNat=true:=by unfold chN;simp;omega
       have HCH:=Lib.hid hch
       clear hch hi0
       go_wp2
       go_roundg (n - (i + 1))
       case measure=>have:=HG.out;omega
       case rel=>exact ⟨i + 1,by simp,by omega,rfl,fun j hj=>by
        by_cases e:j=i
        ·subst e
         rw [chF_at s j hil]
         exact HCH.out
        ·exact HNO.out j (by omega),rfl⟩
      ·have z1:decide ((0:Int) < (i:Int))=true:=decide_eq_true (by omega)
       have z2:decide (0 < i)=true:=decide_eq_true (by omega)
       have z3:((i:Int) == 0)=false:=by simp;omega
       have hch:chN i (s[i]).toNat=true:=by unfold chN;simp;omega
       have HCH:=Lib.hid hch
       clear hch hi0
       go_wp2
       go_roundg (n - (i + 1))
       case measure=>have:=HG.out;omega
       case rel=>exact ⟨i + 1,by simp,by omega,rfl,fun j hj=>by
        by_cases e:j=i
        ·subst e
         rw [chF_at s j hil]
         exact HCH.out
        ·exact HNO.out j (by omega),rfl⟩
     ·have g0:(((s[i]).toNat:Int) == 95)=false:=by simp;omega
      have g1a:decide ((97:Int) ≤ ((s[i]).toNat:Int))=false:=decide_eq_false (by omega)
      have g1b:decide (97 ≤ (s[i]).toNat)=false:=decide_eq_false (by omega)
      have g2a:decide (((s[i]).toNat:Int) ≤ 122)=true:=decide_eq_true (by omega)
      have g2b:decide ((s[i]).toNat ≤ 122)=true:=decide_eq_true (by omega)
      have g3a:decide ((65:Int) ≤ ((s[i]).toNat:Int))=true:=decide_eq_true (by omega)
      have g3b:decide (65 ≤ (s[i]).toNat)=true:=decide_eq_true (by omega)
      have g4a:decide (((s[i]).toNat:Int) ≤ 90)=false:=decide_eq_false (by omega)
      have g4b:decide ((s[i]).toNat ≤ 90)=false:=decide_eq_false (by omega)
      have g5a:decide (((s[i]).toNat:Int) < 48)=false:=decide_eq_false (by omega)
      have g5b:decide ((s[i]).toNat < 48)=false:=decide_eq_false (by omega)
      have g6a:decide ((57:Int) < ((s[i]).toNat:Int))=true:=decide_eq_true (by omega)
      have g6b:decide (57 < (s[i]).toNat)=true:=decide_eq_true (by omega)
      by_cases hi0:i=0
      ·have z1:decide ((0:Int) < (i:Int))=false:=decide_eq_false (by omega)
       have z2:decide (0 < i)=false:=decide_eq_false (by omega)
       have z3:((i:Int) == 0)=true:=by simp;omega
       have hch:chN i (s[i]).toNat=false:=by unfold chN;simp;omega
       have HNF:Hid (nameF s.data.toList=false):=Lib.hid (nameF_bad s i hil hch)
       clear hch hi0
       go_wp2
       go_ret
       exact ⟨by rw [HNF.out];rfl,rfl⟩
      ·have z1:decide ((0:Int) < (i:Int))=true:=decide_eq_true (by omega)
       have z2:decide (0 < i)=true:=decide_eq_true (by omega)
       have z3:((i:Int) == 0)=false:=by simp;omega
       have hch:chN i (s[i]).toNat=false:=by unfold chN;simp;omega
       have HNF:Hid (nameF s.data.toList=false):=Lib.hid (nameF_bad s i hil hch)
       clear hch hi0
       go_wp2
       go_ret
       exact ⟨by rw [HNF.out];rfl,rfl⟩
     ·have g0:(((s[i]).toNat:Int) == 95)=false:=by simp;omega
      have g1a:decide ((97:Int) ≤ ((s[i]).toNat:Int))=true:=decide_eq_true (by omega)
      have g1b:decide (97 ≤ (s[i]).toNat)=true:=decide_eq_true (by omega)
      have g2a:decide (((s[i]).toNat:Int) ≤ 122)=true:=decide_eq_true (by omega)
      have g2b:decide ((s[i]).toNat ≤ 122)=true:=decide_eq_true (by omega)
      have g3a:decide ((65:Int) ≤ ((s[i]).toNat:Int))=true:=decide_eq_true (by omega)
      have g3b:decide (65 ≤ (s[i]).toNat)=true:=decide_eq_true (by omega)
      have g4a:decide (((s[i]).toNat:Int) ≤ 90)=false:=decide_eq_false (by omega)
      have g4b:decide ((s[i]).toNat ≤ 90)=false:=decide_eq_false (by omega)
      have g5a:decide (((s[i]).toNat:Int) < 48)=false:=decide_eq_false (by omega)
      have g5b:decide ((s[i]).toNat < 48)=false:=decide_eq_false (by omega)
      have g6a:decide ((57:Int) < ((s[i]).toNat:Int))=true:=decide_eq_true (by omega)
      have g6b:decide (57 < (s[i]).toNat)=true:=decide_eq_true (by omega)
      by_cases hi0:i=0
      ·have z1:decide ((0:Int) < (i:Int))=false:=decide_eq_false (by omega)
       have z2:decide (0 < i)=false:=decide_eq_false (by omega)
       have z3:((i:Int) == 0)=true:=by simp;omega
       have hch:chN i (s[i]).toNat=true:=by unfold chN;simp;omega
       have HCH:=Lib.hid hch
       clear hch hi0
       go_wp2
       go_roundg (n - (i + 1))
       case measure=>have:=HG.out;omega
       case rel=>exact ⟨i + 1,by simp,by omega,rfl,fun j hj=>by
        by_cases e:j=i
        ·subst e
         rw [chF_at s j hil]
         exact HCH.out
        ·exact HNO.out j (by omega),rfl⟩
      ·have z1:decide ((0:Int) < (i:Int))=true:=decide_eq_true (by omega)
       have z2:decide (0 < i)=true:=decide_eq_true (by omega)
       have z3:((i:Int) == 0)=false:=by simp;omega
       have hch:chN i (s[i]).toNat=true:=by unfold chN;simp;omega
       have HCH:=Lib.hid hch
       clear hch hi0
       go_wp2
       go_roundg (n - (i + 1))
       case measure=>have:=HG.out;omega
       case rel=>exact ⟨i + 1,by simp,by omega,rfl,fun j hj=>by
        by_cases e:j=i
        ·subst e
         rw [chF_at s j hil]
         exact HCH.out
        ·exact HNO.out j (by omega),rfl⟩
     ·have g0:(((s[i]).toNat:Int) == 95)=false:=by simp;omega
      have g1a:decide ((97:Int) ≤ ((s[i]).toNat:Int))=true:=decide_eq_true (by omega)
      have g1b:decide (97 ≤ (s[i]).toNat)=true:=decide_eq_true (by omega)
      have g2a:decide (((s[i]).toNat:Int) ≤ 122)=false:=decide_eq_false (by omega)
      have g2b:decide ((s[i]).toNat ≤ 122)=false:=decide_eq_false (by omega)
      have g3a:decide ((65:Int) ≤ ((s[i]).toNat:Int))=true:=decide_eq_true (by omega)
      have g3b:decide (65 ≤ (s[i]).toNat)=true:=decide_eq_true (by omega)
      have g4a:decide (((s[i]).toNat:Int) ≤ 90)=false:=decide_eq_false (by omega)
      have g4b:decide ((s[i]).toNat ≤ 90)=false:=decide_eq_false (by omega)
      have g5a:decide (((s[i]).toNat:Int) < 48)=false:=decide_eq_false (by omega)
      have g5b:decide ((s[i]).toNat < 48)=false:=decide_eq_false (by omega)
      have g6a:decide ((57:Int) < ((s[i]).toNat:Int))=true:=decide_eq_true (by omega)
      have g6b:decide (57 < (s[i]).toNat)=true:=decide_eq_true (by omega)
      by_cases hi0:i=0
      ·have z1:decide ((0:Int) < (i:Int))=false:=decide_eq_false (by omega)
       have z2:decide (0 < i)=false:=decide_eq_false (by omega)
       have z3:((i:Int) == 0)=true:=by simp;omega
       have hch:chN i (s[i]).toNat=false:=by unfold chN;simp;omega
       have HNF:Hid (nameF s.data.toList=false):=Lib.hid (nameF_bad s i hil hch)
       clear hch hi0
       go_wp2
       go_ret
       exact ⟨by rw [HNF.out];rfl,rfl⟩
      ·have z1:decide ((0:Int) < (i:Int))=true:=decide_eq_true (by omega)
       have z2:decide (0 < i)=true:=decide_eq_true (by omega)
       have z3:((i:Int) == 0)=false:=by simp;omega
       have hch:chN i (s[i]).toNat=false:=by unfold chN;simp;omega
       have HNF:Hid (nameF s.data.toList=false):=Lib.hid (nameF_bad s i hil hch)
       clear hch hi0
       go_wp2
       go_ret
       exact ⟨by rw [HNF.out];rfl,rfl⟩
    ·have e1:decide ((i:Int) < (s.size:Int))=false:=decide_eq_false (by omega)
     have e2:decide (i < s.size)=false:=decide_eq_false (by omega)
     have HNA:Hid (nameF s.data.toList=true):=Lib.hid (by
      rw [nameF_all s fun j hj=>HNO.out j (by omega),name_len s,decide_eq_true (HL4.out:1 ≤ s.size),decide_eq_true (HL3.out:s.size ≤ 16)]
      rfl)
     go_wp2
     go_ret
     exact ⟨by rw [HNA.out];rfl,rfl⟩
end Go.Proofs.YtiheggkkgbfndaaGreatDoor
