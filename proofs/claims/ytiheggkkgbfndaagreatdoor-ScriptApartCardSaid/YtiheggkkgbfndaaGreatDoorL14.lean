/- A script that Print wrote, parsed; plain. -/
import Derived.Test.YtiheggkkgbfndaaGreatDoorL05
import Derived.Test.YtiheggkkgbfndaaGreatDoorL13
import Derived.Test.YtiheggkkgbfndaaGreatDoorL10
import Derived.Test.YtiheggkkgbfndaaGreatDoorL01
import Derived.Deep.QuietTactic
import Derived.BigQuiet
import Derived.Test.YtiheggkkgbfndaaGreatDoorL09
namespace Go.Proofs.YtiheggkkgbfndaaGreatDoor
open Go Go.Lib
set_option linter.unusedVariables false
set_option linter.unusedSimpArgs false
theorem nextL_len:∀ {t l r:List UInt8},nextL t=some (l,r)→t=l ++ 10 :: r∧(10:UInt8) ∉ l
 | [],l,r,h=>by cases h
 | c :: t,l,r,h=>by
  unfold nextL at h
  split at h
  ·rename_i hc
   injection h with h
   injection h with h1 h2
   subst h1 h2 hc
   exact ⟨rfl,by simp⟩
  ·rename_i hc
   cases hn:nextL t with
   | none=>rw [hn] at h;cases h
   | some x =>
    obtain ⟨l',r'⟩:=x
    rw [hn] at h
    simp only [Option.map_some,Option.some.injEq,Prod.mk.injEq] at h
    obtain ⟨h1,h2⟩:=h
    subst h1 h2
    obtain ⟨e1,e2⟩:=nextL_len hn
    refine ⟨by rw [e1];rfl,?_⟩
    intro hm
    rcases List.mem_cons.1 hm with e | e
    ·exact hc e.symm
    ·exact e2 e
theorem nextL_at:∀ (t:List UInt8) (i:Nat),(∀ j:Nat,j < i→t[j]? ≠ some 10)→t[i]?=some 10→nextL t=some (t.take i,t.drop (i + 1))
 | [],i,_,h=>by cases h
 | c :: t,0,_,h=>by
  have hc:c=10:=by simpa using h
  rw [nextL,if_pos hc]
  rfl
 | c :: t,i + 1,hj,h=>by
  have hc:c ≠ 10:=fun e=>hj 0 (by omega) (by rw [e];rfl)
  rw [nextL,if_neg hc,nextL_at t i (fun j h1 h2=>hj (j + 1) (by omega) (by simpa using h2)) (by simpa using h)]
  rfl
theorem nextL_none:∀ (t:List UInt8),(∀ j:Nat,t[j]? ≠ some 10)→nextL t=none
 | [],_=>rfl
 | c :: t,hj=>by
  have hc:c ≠ 10:=fun e=>hj 0 (by rw [e];rfl)
  rw [nextL,if_neg hc,nextL_none t fun j h=>hj (j + 1) (by simpa using h)]
  rfl
theorem bodyL_len:∀ {f:Nat} {t b r:List UInt8},bodyL f t=some (b,r)→r.length < t.length
 | 0,t,b,r,h=>by cases h
 | f + 1,t,b,r,h=>by
  unfold bodyL at h
  cases hn:nextL t with
  | none=>rw [hn] at h;cases h
  | some x =>
   obtain ⟨l,r'⟩:=x
   rw [hn] at h
   simp only at h
   have h1:=(nextL_len hn).1
   have h2:r'.length < t.length:=by rw [h1,List.length_append,List.length_cons];omega
   split at h
   ·injection h with h
    injection h with _ h
    subst h
    exact h2
   ·cases hb:bodyL f r' with
    | none=>rw [hb] at h;cases h
    | some y =>
     obtain ⟨b',r''⟩:=y
     rw [hb] at h
     simp only [Option.map_some,Option.some.injEq,Prod.mk.injEq] at h
     have:=bodyL_len hb
     rw [← h.2]
     omega
theorem goesL_fuel:∀ (f f' pos part:Nat) (x:SSt) (t:List UInt8),t.length < f→t.length < f'→goesL f pos part x t=goesL f' pos part x t
 | 0,f',pos,part,x,t,h,_=>absurd h (by omega)
 | f + 1,0,pos,part,x,t,_,h=>absurd h (by omega)
 | f + 1,f' + 1,pos,part,x,t,h,h'=>by
  unfold goesL
  split
  ·rfl
  ·cases hn:nextL t with
   | none=>rfl
   | some y =>
    obtain ⟨l,r⟩:=y
    have h1:=(nextL_len hn).1
    have h2:r.length < t.length:=by rw [h1,List.length_append,List.length_cons];omega
    simp only
    split
    ·rfl
    ·split
     ·split
      ·rfl
      ·cases hb:bodyL (r.length + 1) r with
       | none=>rfl
       | some z =>
        obtain ⟨b,r'⟩:=z
        have h3:=bodyL_len hb
        simp only
        cases parseF b with
        | error e=>rfl
        | ok L=>exact goesL_fuel f f' _ _ _ _ (by omega) (by omega)
     ·cases plainL x l (splitF 32 l) with
      | error e=>rfl
      | ok x'=>exact goesL_fuel f f' _ _ _ _ (by omega) (by omega)
def goL (pos part:Nat) (x:SSt) (t:List UInt8):Except (Nat × Nat) SSt:=goesL (t.length + 1) pos part x t
/-! ### words -/
theorem numIn_natF (s:List UInt8):numIn s 0 maxI=(natF s).map fun (n:Nat)=>(n:Int):=by
 unfold numIn maxI
 cases hn:natF s with
 | some n =>
  obtain ⟨h1,h2⟩:=natF_some.1 hn
  have:numF s=some (n:Int):=numF_some.2 ⟨by unfold i64ok0;omega,by rw [h2];unfold itoa;rw [if_neg (by omega)];simp⟩
  rw [this]
  simp only [Option.map_some]
  rw [if_pos ⟨by omega,by omega⟩]
 | none =>
  cases hf:numF s with
  | none=>rfl
  | some v =>
   simp only [Option.map_none]
   rw [if_neg]
   rintro ⟨h1,h2⟩
   obtain ⟨_,h4⟩:=numF_some.1 hf
   have:natF s=some v.toNat:=natF_some.2 ⟨by omega,by rw [h4];unfold itoa;rw [if_neg (by omega)]⟩
   rw [hn] at this
   cases this
theorem numIn_all (s:List UInt8):numIn s minI maxI=numF s:=by
 unfold numIn
 cases hf:numF s with
 | none=>rfl
 | some v =>
  have h:=(numF_some.1 hf).1
  unfold i64ok0 at h
  simp only
  rw [if_pos ⟨by unfold minI;omega,by unfold maxI;omega⟩]
end Go.Proofs.YtiheggkkgbfndaaGreatDoor
namespace Go.Proofs.YtiheggkkgbfndaaGreatDoor
open Go.RowKit Go.Joins Go.ChangeShapes Go.WideShapes Go.Deep
set_option linter.unusedVariables false
set_option linter.unusedSimpArgs false
set_option maxRecDepth 100000
def minSt:ByteArray:=⟨#[45,57,50,50,51,51,55,50,48,51,54,56,53,52,55,55,53,56,48,56]⟩
theorem minSt_list:minSt.data.toList=minB:=by
 have h:=canon (l:=[57,50,50,51,51,55,50,48,51,54,56,53,52,55,55,53,56,48,56]) (by simp) (by decide) (by
  intro _ c r e
  injection e with e1 e2
  subst e1
  decide)
 have e2:decV [57,50,50,51,51,55,50,48,51,54,56,53,52,55,55,53,56,48,56]=9223372036854775808:=by decide +kernel
 rw [e2] at h
 unfold minB
 rw [← h]
 rfl
def signF:Option Nat→Option Int
 | some n=>if 0 < n then some (-(n:Int)) else none
 | none=>none
theorem numF_sign (r:List UInt8) (hm:45 :: r ≠ minB):numF (45 :: r)=signF (natF r):=by
 unfold numF
 rw [if_neg hm]
 simp only [if_true]
 cases natF r <;> rfl
theorem numF_digits (s:List UInt8) (hm:s ≠ minB) (h:¬ (1 < s.length∧s.head?=some 45)):numF s=(natF s).map fun (n:Nat)=>(n:Int):=by
 unfold numF
 rw [if_neg hm]
 cases s with
 | nil=>simp [natF]
 | cons c r =>
  simp only
  by_cases hc:c=45
  ·subst hc
   have hr:r=[]:=by
    cases r with
    | nil=>rfl
    | cons x y=>exact absurd ⟨by simp,rfl⟩ h
   subst hr
   rw [if_pos rfl]
   rfl
  ·rw [if_neg hc]
def IntegerPost (s:ByteArray) (w:World) (e:Ending) (w':World):Prop:=w'=w∧∃ (n:Int) (b:Bool),e=.returned (.tuple #[.int .i64 n,.bool b])∧b=(numF s.data.toList).isSome∧∀ m,numF s.data.toList=some m→m=n
set_option maxHeartbeats 2000000 in
theorem rInteger_any (s:ByteArray) (hs:s.size ≤ 4294967296) (w:World):Calls Tryz.prog 88 #[.string s] w (IntegerPost s w):=by
 by_cases hm:s=minSt
 ·subst hm
  have HE:Hid (numF minSt.data.toList=some (-9223372036854775808)):=Lib.hid (by rw [minSt_list];unfold numF;rw [if_pos rfl])
  have hm1:(minSt.toList == [45,57,50,50,51,51,55,50,48,51,54,56,53,52,55,55,53,56,48,56])=true:=by
   rw [ByteArray.toList_eq,beq_iff_eq]
   rfl
  obtain ⟨q,hq⟩:∃ q,q=minSt:=⟨_,rfl⟩
  rw [← hq] at hm1 HE ⊢
  clear hq
  go_enter Tryz.func88,Tryz.ntmps88
  go_wp2
  go_ret2
  exact ⟨rfl,-9223372036854775808,true,rfl,by rw [HE.out];rfl,fun m hm=>by rw [HE.out] at hm;injection hm with hm;exact hm.symm⟩
 ·have hsz:s.data.toList.length=s.size:=Array.length_toList
  have hm1:(s.toList == [45,57,50,50,51,51,55,50,48,51,54,56,53,52,55,55,53,56,48,56])=false:=by
   rw [beq_eq_false_iff_ne,ByteArray.toList_eq]
   exact fun h=>hm (bytes_inj h)
  have hmB:s.data.toList ≠ minB:=by rw [← minSt_list];exact fun e=>hm (bytes_inj e)
  by_cases hd:1 < s.size∧s.data.toList.head?=some 45
  ·obtain ⟨h1,h2⟩:=hd
   have hp:0 < s.size:=by omega
   have hhead:s.data.toList.head?=some (s[0]):=by
    rw [List.head?_eq_getElem?,List.getElem?_eq_getElem (by rw [hsz];exact hp)]
    rfl
   have h45:s[0]=45:=by rw [hhead] at h2;injection h2
   have q45:(((s[0]).toNat:Int) == 45)=true:=by rw [h45];rfl
   have g1:decide (1 < s.size)=true:=decide_eq_true h1
   have g2:decide ((1:Int) < (s.size:Int))=true:=decide_eq_true (by omega)
   obtain ⟨t,ht⟩:∃ t,t=s.extract 1 s.size:=⟨_,rfl⟩
   have htl:t.data.toList=s.data.toList.tail:=by
    rw [ht,Go.Lib.extract_data,List.take_of_length_le (by rw [List.length_drop,Array.length_toList];exact Nat.le_refl _),List.drop_one]
   have htz:t.size + 1=s.size:=by
    have h3:t.size=t.data.toList.length:=Array.length_toList.symm
    rw [h3,htl,List.length_tail,hsz]
    omega
   have hcons:s.data.toList=45 :: t.data.toList:=by
    rw [htl]
    cases hl:s.data.toList with
    | nil=>rw [hl] at h2;cases h2
    | cons a r=>rw [hl] at h2;injection h2 with h2;rw [h2];rfl
   obtain ⟨ot,hot⟩:∃ ot,ot=natF t.data.toList:=⟨_,rfl⟩
   have HC:Hid (numF s.data.toList=signF ot):=Lib.hid (by rw [hcons,hot];exact numF_sign _ (by rw [← hcons];exact hmB))
   have hrun:∀ W,(Instr.slice 9 (.string s) (some (.int .i64 1)) none none).run Tryz.prog W=.ok (.string t) W:=by
    intro W
    rw [ht]
    exact run_slice_string_l (P:=Tryz.prog) W 9 s Tryz.underlying9 .i64 1 (by omega) (by omega)
   have HI:=Lib.hid (fun W=>rNumber_any t W (by omega))
   unfold NatPost at HI
   rw [← hot] at HI
   clear hcons h2 hhead h45 htl hsz hm ht h1 htz hot hmB
   go_enter Tryz.func88,Tryz.ntmps88
   go_upto_region 5 with (go_at_call 51;refine (HI.out _).mono ?_;rintro e w1 ⟨hw,m,hm64,rfl,hmv⟩;obtain rfl:=hw.symm)
   cases ot with
   | none =>
    have HE:Hid (numF s.data.toList=none):=Lib.hid (by rw [HC.out];rfl)
    (try simp only [Option.isSome_none])
    have HMM:=Lib.hid hm64
    clear hm64 hmv
    go_wp2
    go_ret2
    exact ⟨rfl,_,false,rfl,by rw [HE.out];rfl,fun m hm=>by rw [HE.out] at hm;cases hm⟩
   | some k =>
    obtain rfl:=hmv k rfl
    (try simp only [Option.isSome_some])
    by_cases h0:0 < k
    ·have HE:Hid (numF s.data.toList=some (-(k:Int))):=Lib.hid (by rw [HC.out];simp [signF,h0])
     have q0:decide ((0:Int) < (k:Int))=true:=decide_eq_true (by omega)
     have q1:decide (0 < k)=true:=decide_eq_true h0
     have HWW:Hid (wrap64 (-(k:Int))=-(k:Int)):=Lib.hid (by unfold wrap64;omega)
     clear hm64 hmv
     go_wp2
     go_ret2
     exact ⟨rfl,_,true,rfl,by rw [HE.out];rfl,fun m hm=>by rw [HE.out] at hm;injection hm with hm;exact hm.symm.trans HWW.out.symm⟩
    ·have HE:Hid (numF s.data.toList=none):=Lib.hid (by rw [HC.out];simp [signF,h0])
     have q0:decide ((0:Int) < (k:Int))=false:=decide_eq_false (by omega)
     have q1:decide (0 < k)=false:=decide_eq_false h0
     clear hm64 hmv
     go_wp2
     go_ret2
     exact ⟨rfl,_,false,rfl,by rw [HE.out];rfl,fun m hm=>by rw [HE.out] at hm;cases hm⟩
  ·have HE:Hid (numF s.data.toList=(natF s.data.toList).map fun (n:Nat)=>(n:Int)):=Lib.hid (numF_digits _ hmB (by rw [hsz];exact hd))
   have HI:=Lib.hid (rNumber_any s w hs)
   unfold NatPost at HI
   obtain ⟨ot,hot⟩:∃ ot,ot=natF s.data.toList:=⟨_,rfl⟩
   rw [← hot] at HI HE
   clear hot hmB
   by_cases h1:1 < s.size
   ·have hp:0 < s.size:=by omega
    have hhead:s.data.toList.head?=some (s[0]):=by
     rw [List.head?_eq_getElem?,List.getElem?_eq_getElem (by rw [hsz];exact hp)]
     rfl
    have q45:(((s[0]).toNat:Int) == 45)=false:=by
     rw [beq_eq_false_iff_ne]
     intro e
     exact hd ⟨h1,by rw [hhead,show s[0]=45 from UInt8.toNat_inj.1 (by show _=45;omega)]⟩
    have g1:decide (1 < s.size)=true:=decide_eq_true h1
    have g2:decide ((1:Int) < (s.size:Int))=true:=decide_eq_true (by omega)
    clear hd hhead h1 hm hsz
    go_enter Tryz.func88,Tryz.ntmps88
    go_wp2_with (go_at_call 51;refine HI.out.mono ?_;rintro e w1 ⟨hw,m,hm64,rfl,hmv⟩;obtain rfl:=hw.symm)
    go_ret2
    exact ⟨rfl,m,ot.isSome,rfl,by rw [HE.out];cases ot <;> rfl,fun x hx=>by
     rw [HE.out] at hx
     cases ot with
     | none=>cases hx
     | some k=>injection hx with hx;rw [← hx,hmv k rfl]⟩
   ·have g1:decide (1 < s.size)=false:=decide_eq_false h1
    have g2:decide ((1:Int) < (s.size:Int))=false:=decide_eq_false (by omega)
    clear hd h1 hm hsz
    go_enter Tryz.func88,Tryz.ntmps88
    go_wp2_with (go_at_call 51;refine HI.out.mono ?_;rintro e w1 ⟨hw,m,hm64,rfl,hmv⟩;obtain rfl:=hw.symm)
    go_ret2
    exact ⟨rfl,m,ot.isSome,rfl,by rw [HE.out];cases ot <;> rfl,fun x hx=>by
     rw [HE.out] at hx
     cases ot with
     | none=>cases hx
     | some k=>injection hx with hx;rw [← hx,hmv k rfl]⟩
theorem str_yes {s:ByteArray} {l:List UInt8} (h:s.data.toList=l):(s.toList == l)=true:=by rw [beq_iff_eq,ByteArray.toList_eq];exact h
theorem str_no {s:ByteArray} {l:List UInt8} (h:s.data.toList ≠ l):(s.toList == l)=false:=by rw [beq_eq_false_iff_ne,ByteArray.toList_eq];exact h
theorem find_none {n:Nat} {l:List (List UInt8)} {s:List UInt8} (h:∀ i,i < n→l.getD i [] ≠ s):((List.range n).find? fun i=>l.getD i [] == s)=none:=by
 rw [List.find?_eq_none]
 intro i hi
 simpa using h i (List.mem_range.1 hi)
theorem kindF_none {s:List UInt8} (h:∀ i,i < 4→kindsL.getD i [] ≠ s):kindF s=none:=by unfold kindF;rw [find_none h];rfl
theorem lookF_none {s:List UInt8} (h:∀ i,i < 6→looksL.getD i [] ≠ s):lookF s=none:=by unfold lookF;rw [find_none h];rfl
set_option maxHeartbeats 2000000 in
theorem part_any (s:ByteArray) (w:World):Calls Tryz.prog 45 #[.string s] w fun e w'=>e=.returned (.int .i64 (partL s.data.toList:Nat))∧w=w':=by
 by_cases h1:s.data.toList=[114,101,103,105,111,110]
 ·have q1:(s.toList == [114,101,103,105,111,110])=true:=str_yes h1
  have HR:Hid (partL s.data.toList=1):=Lib.hid (by rw [h1];decide)
  clear h1
  go_enter Tryz.func45,Tryz.ntmps45
  go_wp2
  go_ret
  exact ⟨by rw [HR.out];rfl,rfl⟩
 ·have q1:(s.toList == [114,101,103,105,111,110])=false:=str_no h1
  by_cases h2:s.data.toList=[112,114,111,103,114,97,109]
  ·have q2:(s.toList == [112,114,111,103,114,97,109])=true:=str_yes h2
   have HR:Hid (partL s.data.toList=2):=Lib.hid (by rw [h2];decide)
   clear h1 h2
   go_enter Tryz.func45,Tryz.ntmps45
   go_wp2
   go_ret
   exact ⟨by rw [HR.out];rfl,rfl⟩
  ·have q2:(s.toList == [112,114,111,103,114,97,109])=false:=str_no h2
   by_cases h3:s.data.toList=[116,104,114,101,97,100]
   ·have q3:(s.toList == [116,104,114,101,97,100])=true:=str_yes h3
    have HR:Hid (partL s.data.toList=3):=Lib.hid (by rw [h3];decide)
    clear h1 h2 h3
    go_enter Tryz.func45,Tryz.ntmps45
    go_wp2
    go_ret
    exact ⟨by rw [HR.out];rfl,rfl⟩
   ·have q3:(s.toList == [116,104,114,101,97,100])=false:=str_no h3
    by_cases h4:s.data.toList=[106,111,98]
    ·have q4:(s.toList == [106,111,98])=true:=str_yes h4
     have HR:Hid (partL s.data.toList=3):=Lib.hid (by rw [h4];decide)
     clear h1 h2 h3 h4
     go_enter Tryz.func45,Tryz.ntmps45
     go_wp2
     go_ret
     exact ⟨by rw [HR.out];rfl,rfl⟩
    ·have q4:(s.toList == [106,111,98])=false:=str_no h4
     have HR:Hid (partL s.data.toList=4):=Lib.hid (by unfold partL;exact (if_neg h1).trans ((if_neg h2).trans (if_neg fun h=>h.elim h3 h4)))
     clear h1 h2 h3 h4
     go_enter Tryz.func45,Tryz.ntmps45
     go_wp2
     go_ret
     exact ⟨by rw [HR.out];rfl,rfl⟩
set_option maxHeartbeats 2000000 in
theorem kind_any (s:ByteArray) (w:World):Calls Tryz.prog 86 #[.string s] w fun e w'=>e=.returned (.int .i64 ((kindF s.data.toList).getD 0:Nat))∧w=w':=by
 by_cases h1:s.data.toList=[99,111,117,110,116,101,114]
 ·have q1:(s.toList == [99,111,117,110,116,101,114])=true:=str_yes h1
  have HR:Hid ((kindF s.data.toList).getD 0=1):=Lib.hid (by rw [h1];decide)
  clear h1
  go_enter Tryz.func86,Tryz.ntmps86
  go_wp2
  go_ret
  exact ⟨by rw [HR.out];rfl,rfl⟩
 ·have q1:(s.toList == [99,111,117,110,116,101,114])=false:=str_no h1
  by_cases h2:s.data.toList=[113,117,101,117,101]
  ·have q2:(s.toList == [113,117,101,117,101])=true:=str_yes h2
   have HR:Hid ((kindF s.data.toList).getD 0=2):=Lib.hid (by rw [h2];decide)
   clear h1 h2
   go_enter Tryz.func86,Tryz.ntmps86
   go_wp2
   go_ret
   exact ⟨by rw [HR.out];rfl,rfl⟩
  ·have q2:(s.toList == [113,117,101,117,101])=false:=str_no h2
   by_cases h3:s.data.toList=[100,105,99,116]
   ·have q3:(s.toList == [100,105,99,116])=true:=str_yes h3
    have HR:Hid ((kindF s.data.toList).getD 0=3):=Lib.hid (by rw [h3];decide)
    clear h1 h2 h3
    go_enter Tryz.func86,Tryz.ntmps86
    go_wp2
    go_ret
    exact ⟨by rw [HR.out];rfl,rfl⟩
   ·have q3:(s.toList == [100,105,99,116])=false:=str_no h3
    by_cases h4:s.data.toList=[99,104,97,105,110]
    ·have q4:(s.toList == [99,104,97,105,110])=true:=str_yes h4
     have HR:Hid ((kindF s.data.toList).getD 0=4):=Lib.hid (by rw [h4];decide)
     clear h1 h2 h3 h4
     go_enter Tryz.func86,Tryz.ntmps86
     go_wp2
     go_ret
     exact ⟨by rw [HR.out];rfl,rfl⟩
    ·have q4:(s.toList == [99,104,97,105,110])=false:=str_no h4
     have HR:Hid ((kindF s.data.toList).getD 0=0):=Lib.hid (by rw [kindF_none (by intro i hi e;have h0:i=0 ∨ i=1 ∨ i=2 ∨ i=3:=(by omega);rcases h0 with rfl | rfl | rfl | rfl <;> first | exact h1 e.symm | exact h2 e.symm | exact h3 e.symm | exact h4 e.symm)];rfl)
     clear h1 h2 h3 h4
     go_enter Tryz.func86,Tryz.ntmps86
     go_wp2
     go_ret
     exact ⟨by rw [HR.out];rfl,rfl⟩
set_option maxHeartbeats 2000000 in
theorem look_any (s:ByteArray) (w:World):Calls Tryz.prog 52 #[.string s] w fun e w'=>e=.returned (.int .i64 ((lookF s.data.toList).getD 0:Nat))∧w=w':=by
 by_cases h1:s.data.toList=[99,101,108,108,115]
 ·have q1:(s.toList == [99,101,108,108,115])=true:=str_yes h1
  have HR:Hid ((lookF s.data.toList).getD 0=2):=Lib.hid (by rw [h1];decide)
  clear h1
  go_enter Tryz.func52,Tryz.ntmps52
  go_wp2
  go_ret
  exact ⟨by rw [HR.out];rfl,rfl⟩
 ·have q1:(s.toList == [99,101,108,108,115])=false:=str_no h1
  by_cases h2:s.data.toList=[115,104,97,112,101,115]
  ·have q2:(s.toList == [115,104,97,112,101,115])=true:=str_yes h2
   have HR:Hid ((lookF s.data.toList).getD 0=3):=Lib.hid (by rw [h2];decide)
   clear h1 h2
   go_enter Tryz.func52,Tryz.ntmps52
   go_wp2
   go_ret
   exact ⟨by rw [HR.out];rfl,rfl⟩
  ·have q2:(s.toList == [115,104,97,112,101,115])=false:=str_no h2
   by_cases h3:s.data.toList=[114,105,110,103]
   ·have q3:(s.toList == [114,105,110,103])=true:=str_yes h3
    have HR:Hid ((lookF s.data.toList).getD 0=4):=Lib.hid (by rw [h3];decide)
    clear h1 h2 h3
    go_enter Tryz.func52,Tryz.ntmps52
    go_wp2
    go_ret
    exact ⟨by rw [HR.out];rfl,rfl⟩
   ·have q3:(s.toList == [114,105,110,103])=false:=str_no h3
    by_cases h4:s.data.toList=[115,116,97,116,101]
    ·have q4:(s.toList == [115,116,97,116,101])=true:=str_yes h4
     have HR:Hid ((lookF s.data.toList).getD 0=5):=Lib.hid (by rw [h4];decide)
     clear h1 h2 h3 h4
     go_enter Tryz.func52,Tryz.ntmps52
     go_wp2
     go_ret
     exact ⟨by rw [HR.out];rfl,rfl⟩
    ·have q4:(s.toList == [115,116,97,116,101])=false:=str_no h4
     by_cases h5:s.data.toList=[111,114,100,101,114]
     ·have q5:(s.toList == [111,114,100,101,114])=true:=str_yes h5
      have HR:Hid ((lookF s.data.toList).getD 0=6):=Lib.hid (by rw [h5];decide)
      clear h1 h2 h3 h4 h5
      go_enter Tryz.func52,Tryz.ntmps52
      go_wp2
      go_ret
      exact ⟨by rw [HR.out];rfl,rfl⟩
     ·have q5:(s.toList == [111,114,100,101,114])=false:=str_no h5
      by_cases h6:s.data.toList=[119,111,114,100,115]
      ·have q6:(s.toList == [119,111,114,100,115])=true:=str_yes h6
       have HR:Hid ((lookF s.data.toList).getD 0=7):=Lib.hid (by rw [h6];decide)
       clear h1 h2 h3 h4 h5 h6
       go_enter Tryz.func52,Tryz.ntmps52
       go_wp2
       go_ret
       exact ⟨by rw [HR.out];rfl,rfl⟩
      ·have q6:(s.toList == [119,111,114,100,115])=false:=str_no h6
       have HR:Hid ((lookF s.data.toList).getD 0=0):=Lib.hid (by rw [lookF_none (by intro i hi e;have h0:i=0 ∨ i=1 ∨ i=2 ∨ i=3 ∨ i=4 ∨ i=5:=(by omega);rcases h0 with rfl | rfl | rfl | rfl | rfl | rfl <;> first | exact h1 e.symm | exact h2 e.symm | exact h3 e.symm | exact h4 e.symm | exact h5 e.symm | exact h6 e.symm)];rfl)
       clear h1 h2 h3 h4 h5 h6
       go_enter Tryz.func52,Tryz.ntmps52
       go_wp2
       go_ret
       exact ⟨by rw [HR.out];rfl,rfl⟩
structure WordsAt (w:World) (C b:Nat) (ws:List (List UInt8)):Prop where
 lt:b < C
 blk:∃ cs,Blk w b 9 cs
 cell:∀ (k:Nat) s,ws[k]?=some s→w.cell? ⟨b,k,none⟩=some (.string ⟨s.toArray⟩)
theorem WordsAt.below {w w':World} {C b:Nat} {ws:List (List UInt8)} (h:WordsAt w C b ws) (hb:Below C w w'):WordsAt w' C b ws :=
 ⟨h.lt,h.blk.imp fun cs hc=>hc.below hb h.lt,fun k s hs=>(hb.cell (p:=⟨b,k,none⟩) h.lt).trans (h.cell k s hs)⟩
theorem WordsAt.set {w:World} {C b q i:Nat} {ws:List (List UInt8)} {t:TypeId} {cs:Array Value} (h:WordsAt w C b ws) (hb:Blk w q t cs) (hne:9 ≠ t) (u:Value):WordsAt (w.setCell ⟨q,i,none⟩ u) C b ws:=by
 obtain ⟨cb,hcb⟩:=h.blk
 have hbq:b ≠ q:=hcb.ne_ hb hne
 exact ⟨h.lt,⟨cb,hcb.far hbq u⟩,fun k s hs=>(World.cell?_setCell_other _ _ _ _ (fun e=>hbq (congrArg Addr.block e).symm)).trans (h.cell k s hs)⟩
theorem WordsAt.more {w:World} {C C' b:Nat} {ws:List (List UInt8)} (h:WordsAt w C b ws) (hC:C ≤ C'):WordsAt w C' b ws:=⟨Nat.lt_of_lt_of_le h.lt hC,h.blk,h.cell⟩
structure Brief (ws:List (List UInt8)):Prop where
 len:ws.length ≤ 65536
 each:∀ s ∈ ws,s.length ≤ 65535
def DGood (B:Nat) (w:World) (q part:Nat) (x:SSt):Prop:=∃ rv pv tv lv T L,Blk w q 61 (StV x.set.cfg rv pv tv lv 0 0 part x.steps)∧SetAt B w x rv pv tv lv T L
def DBad (w:World) (q e pl:Nat):Prop:=∃ c rv pv tv lv part k,Blk w q 61 (StV c rv pv tv lv e pl part k)
def DRes (B:Nat) (w:World) (q part at_:Nat):Except Nat SSt→Prop
 | .ok x=>DGood B w q part x
 | .error e=>DBad w q e at_
def DPost' (B q part at_:Nat) (R:Except Nat SSt) (w:World) (e:Ending) (w':World):Prop:=e=.returned (.tuple #[])∧Below B w w'∧DRes B w' q part at_ R
def regionR (x:SSt) (ws:List (List UInt8)):Except Nat SSt:=match regionL ws with
 | some r=>.ok { x with set:={ x.set with regs:=x.set.regs ++ [r] } }
 | none=>.error 9
def regO (x:SSt):Option Nat→Option Nat→Except Nat SSt
 | some n,some k=>.ok { x with set:={ x.set with regs:=x.set.regs ++ [⟨(k:Int),(n:Int)⟩] } }
 | _,_=>.error 9
theorem regionR_eq (x:SSt) (u k m:List UInt8):regionR x [u,k,m]=regO x (natF m) (kindF k):=by
 unfold regionR regionL
 simp only
 rw [numIn_natF]
 cases natF m <;> cases kindF k <;> rfl
theorem regionR_none {x:SSt} {ws:List (List UInt8)} (h:ws.length ≠ 3):regionR x ws=.error 9:=by
 match ws,h with
 | [],_=>rfl
 | [_],_=>rfl
 | [_,_],_=>rfl
 | [_,_,_],h=>exact absurd rfl h
 | _ :: _ :: _ :: _ :: _,_=>rfl
theorem below_of_frm {w w':World} {B q:Nat} (h:Frm w w' fun z=>z=q) (hB:B ≤ w.heap.size) (hq:B ≤ q):Below B w w':=h.below hB fun z hz=>by omega
set_option maxHeartbeats 2000000 in
theorem rregion_any (B q part at_ b c:Nat) (ws:List (List UInt8)) (x:SSt) (w:World) (hG:DGood B w q part x) (hBw:B ≤ w.heap.size) (hBq:B ≤ q) (hW:WordsAt w w.heap.size b ws) (hws:Brief ws) (hrl:x.set.regs.length ≤ 65535) :
  Calls Tryz.prog 54 #[.pointer (some ⟨q,0,none⟩),.slice (some ⟨b,0,none⟩) ws.length c,.int .i64 at_] w (DPost' B q part at_ (regionR x ws) w):=by
 obtain ⟨rv,pv,tv,lv,T,L,hb,hS⟩:=hG
 have HFA:=Lib.hid (rfails_any q x.set.cfg rv pv tv lv 0 0 part x.steps 9 at_ w hb)
 have hBF:∀ {w'},Frm w w' (fun z=>z=q)→Below B w w':=fun h=>below_of_frm h hBw hBq
 by_cases h3:ws.length=3
 ·obtain ⟨u,k,m,rfl⟩:∃ u k m,ws=[u,k,m]:=by
   match ws,h3 with
   | [u,k,m],_=>exact ⟨u,k,m,rfl⟩
  have c1:w.cell? ⟨b,1,none⟩=some (.string ⟨k.toArray⟩):=hW.cell 1 k rfl
  have c2:w.cell? ⟨b,2,none⟩=some (.string ⟨m.toArray⟩):=hW.cell 2 m rfl
  have hbl:=hW.lt
  obtain ⟨sk,hsk⟩:∃ sk:ByteArray,sk=⟨k.toArray⟩:=⟨_,rfl⟩
  obtain ⟨sm,hsm⟩:∃ sm:ByteArray,sm=⟨m.toArray⟩:=⟨_,rfl⟩
  have hkl:sk.data.toList=k:=by rw [hsk]
  have hml:sm.data.toList=m:=by rw [hsm]
  rw [← hsk] at c1
  rw [← hsm] at c2
  have hmz:sm.size ≤ 4294967296:=by
   have h1:sm.size=sm.data.toList.length:=Array.length_toList.symm
   have:=hws.each m (by simp)
   rw [h1,hml];omega
  have HK:=Lib.hid (kind_any sk w)
  have HN:=Lib.hid (rNumber_any sm w hmz)
  unfold NatPost at HN
  rw [hkl] at HK
  rw [hml] at HN
  have HR:Hid (regionR x [u,k,m]=regO x (natF m) (kindF k)):=Lib.hid (regionR_eq x u k m)
  have HKR:Hid (∀ n,kindF k=some n→0 < n):=Lib.hid fun n hn=>by
   unfold kindF at hn
   cases hf:(List.range 4).find? fun i=>kindsL.getD i [] == k with
   | none=>rw [hf] at hn;cases hn
   | some i=>rw [hf] at hn;simp at hn;omega
  obtain ⟨ok,hok⟩:∃ ok,ok=kindF k:=⟨_,rfl⟩
  obtain ⟨om,hom⟩:∃ om,om=natF m:=⟨_,rfl⟩
  rw [← hok] at HK HR HKR
  rw [← hom] at HN HR
  clear hok hom hkl hml hsk hsm hmz h3 hW hws
  have HS:=Lib.hid hS
  have HBL:=Lib.hid hb
  have x6:w.cell? ⟨q,6,none⟩=some rv:=(hb.cell 6).trans rfl
  have hql:=hb.lt
  clear hb hS
  cases om with
  | none =>
   clear x6
   go_enter Tryz.func54,Tryz.ntmps54
   go_upto_region 3 with (go_at_call 86;refine HK.out.mono ?_;rintro e w1 ⟨rfl,rfl⟩)
   go_upto_region 4 with (go_at_call 51;refine HN.out.mono ?_;rintro e w1 ⟨hw,m',hm64,rfl,hmv⟩;obtain rfl:=hw.symm)
   (try simp only [Option.isSome_none])
   clear hmv
   go_wp2_with (go_at_call 56;refine HFA.out.mono ?_;rintro e w2 ⟨rfl,hF,hB⟩)
   go_end0
   rw [HR.out]
   exact ⟨rfl,hBF hF,_,_,_,_,_,_,_,hB⟩
  | some n =>
   cases ok with
   | none =>
    clear x6
    (try simp only [Option.getD_none] at HK)
    go_enter Tryz.func54,Tryz.ntmps54
    go_upto_region 3 with (go_at_call 86;refine HK.out.mono ?_;rintro e w1 ⟨rfl,rfl⟩)
    go_upto_region 4 with (go_at_call 51;refine HN.out.mono ?_;rintro e w1 ⟨hw,m',hm64,rfl,hmv⟩;obtain rfl:=hw.symm)
    (try simp only [Option.isSome_some])
    clear hmv
    go_wp2_with (go_at_call 56;refine HFA.out.mono ?_;rintro e w2 ⟨rfl,hF,hB⟩)
    go_end0
    rw [HR.out]
    exact ⟨rfl,hBF hF,_,_,_,_,_,_,_,hB⟩
   | some kk =>
    have hkp:=HKR.out kk rfl
    have q0:((kk:Int) == 0)=false:=by simp;omega
    (try simp only [Option.getD_some] at HK)
    clear HFA hBF
    have HA:Hid (Below w.heap.size w (w.alloc (.cells #[.int .i64 kk,.int .i64 n] 67))):=Lib.hid ((Below.refl _ _).alloc (Nat.le_refl _) _)
    obtain ⟨i0,hi,hz0,hz1,hz2⟩:=info_parts info_reg
    have hc2:∀ u ∈ ([.int .i64 kk,.int .i64 n]:List Value),u.oneCell'=true:=by intro u hu;simp at hu;rcases hu with rfl | rfl <;> rfl
    have hc3:x.set.regs.length + 1 ≤ maxLen:=by unfold maxLen;omega
    have hc4:(x.set.regs.length + 1) * 16 ≤ 140737488355328:=by omega
    have hc5:B ≤ (w.alloc (.cells #[.int .i64 kk,.int .i64 n] 67)).heap.size:=by simp;omega
    go_enter Tryz.func54,Tryz.ntmps54
    go_upto_region 3 with (go_at_call 86;refine HK.out.mono ?_;rintro e w1 ⟨rfl,rfl⟩)
    go_upto_region 4 with (go_at_call 51;refine HN.out.mono ?_;rintro e w1 ⟨hw,m',hm64,rfl,hmv⟩;obtain rfl:=hw.symm)
    obtain rfl:=hmv n rfl
    (try simp only [Option.isSome_some])
    clear hmv hm64
    go_wp2_with (at_builtin;go_must (refine wpList_append_lies _ rfl _ _ 23 rfl B 67 i0 (.agg #[.int .i64 0,.int .i64 0]) 2 16 Tryz.underlying23 (by assumption) hz0 hz1 hz2 rfl (by decide) rv x.set.regs.length (rows rgC x.set.regs) rfl (HS.out.regs.alloc _) ⟨w.heap.size,0,none⟩ 1 1 [.int .i64 kk,.int .i64 n] rfl rfl (World.news_of_block (cs:=#[.int .i64 kk,.int .i64 n]) (t:=67) (fr:=(0,0)) (by simpa using heap_alloc_new w (.cells #[.int .i64 kk,.int .i64 n] 67))) hc2 (by omega) hc3 hc4 hc5 (w.heap.size + 1) (by simp) ?_;intro gg c' w2 hown2 hg2 hat hlt2;have hR3:=blk_past HBL.out (HS.out.regs) oth_st.a HA.out hg2;have m6:w2.cell? ⟨q,6,none⟩=some rv:=(hR3.cell 6).trans rfl;have f6:w2.frozen? ⟨q,6,none⟩=false:=hR3.frozen 6;have hl3:=hR3.lt))
    go_end0
    rw [HR.out]
    obtain ⟨g1,g2,g3⟩:=HS.out.put_region HBL.out oth_st hBw hBq HA.out hg2 ⟨(kk:Int),(n:Int)⟩ hown2 6
    exact ⟨rfl,g3,_,_,_,_,_,_,g1,g2⟩
 ·have e1:((ws.length:Int) != 3)=true:=by simp;omega
  have HR:Hid (regionR x ws=.error 9):=Lib.hid (regionR_none h3)
  clear hS hb hW hws h3
  go_enter Tryz.func54,Tryz.ntmps54
  go_wp2_with (go_at_call 56;refine HFA.out.mono ?_;rintro e w2 ⟨rfl,hF,hB⟩)
  go_end0
  rw [HR.out]
  exact ⟨rfl,hBF hF,_,_,_,_,_,_,_,hB⟩
end Go.Proofs.YtiheggkkgbfndaaGreatDoor
