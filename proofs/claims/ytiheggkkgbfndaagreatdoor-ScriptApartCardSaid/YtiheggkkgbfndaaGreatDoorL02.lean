/- Numbers as they are written, plain: what the library reads and what the document reads are the same numerals. -/
import Derived.Test.YtiheggkkgbfndaaGreatDoorRows
import Derived.Lib.ParseIntB
import Derived.Lib.ItoaNum
import Derived.Lib.ParseIntBCases
import Derived.Lib.ParseIntBTie
import Derived.Lib.Split
import Derived.Test.YtiheggkkgbfndaaGreatDoorL01
import Derived.Deep.Cut
import Derived.Deep.CutRange
import Derived.BigGuardPart
import Derived.IntWalk
namespace Go.Proofs.YtiheggkkgbfndaaGreatDoor
open Go Go.Lib
set_option linter.unusedVariables false
set_option linter.unusedSimpArgs false
def isDig (c:UInt8):Bool:=decide (48 ≤ c.toNat∧c.toNat ≤ 57)
def decV (l:List UInt8):Nat:=l.foldl (fun a c=>10 * a + (c.toNat - 48)) 0
theorem decV_snoc (l:List UInt8) (c:UInt8):decV (l ++ [c])=10 * decV l + (c.toNat - 48):=by simp [decV]
theorem dig_chr (n:Nat) (h:n < 10):isDig (UInt8.ofNat (48 + n))=true∧(UInt8.ofNat (48 + n)).toNat=48 + n:=by
 have e:(UInt8.ofNat (48 + n)).toNat=48 + n:=by rw [UInt8.toNat_ofNat'];omega
 exact ⟨by unfold isDig;rw [e];simp;omega,e⟩
theorem decDigits_big {u:Nat} (h:¬ u < 10):decDigits u=decDigits (u / 10) ++ [UInt8.ofNat (48 + u % 10)]:=by rw [decDigits,dif_neg h]
theorem decDigits_dig (u:Nat):∀ c ∈ decDigits u,isDig c=true:=by
 induction u using Nat.strongRecOn with
 | _ u ih =>
  by_cases h:u < 10
  ·rw [decDigits_one h]
   intro c hc
   obtain rfl:=List.mem_singleton.1 hc
   exact (dig_chr u h).1
  ·rw [decDigits_big h]
   intro c hc
   rcases List.mem_append.1 hc with hc | hc
   ·exact ih (u / 10) (by omega) c hc
   ·obtain rfl:=List.mem_singleton.1 hc
    exact (dig_chr (u % 10) (by omega)).1
theorem decV_digits (u:Nat):decV (decDigits u)=u:=by
 induction u using Nat.strongRecOn with
 | _ u ih =>
  by_cases h:u < 10
  ·rw [decDigits_one h]
   simp [decV]
   omega
  ·rw [decDigits_big h,decV_snoc,ih (u / 10) (by omega),(dig_chr (u % 10) (by omega)).2]
   omega
theorem decDigits_head (u:Nat) (h:0 < u):∃ c r,decDigits u=c :: r∧c.toNat ≠ 48:=by
 induction u using Nat.strongRecOn with
 | _ u ih =>
  by_cases h9:u < 10
  ·exact ⟨_,[],decDigits_one h9,by rw [(dig_chr u h9).2];omega⟩
  ·obtain ⟨c,r,e,hc⟩:=ih (u / 10) (by omega) (by omega)
   exact ⟨c,r ++ [UInt8.ofNat (48 + u % 10)],by rw [decDigits_big h9,e];rfl,hc⟩
theorem digits_canon:∀ (n:Nat) (l:List UInt8),l.length=n→l ≠ []→(∀ c ∈ l,isDig c=true)→(1 < l.length→∀ c r,l=c :: r→c.toNat ≠ 48)→l=decDigits (decV l)∧(∀ c r,l=c :: r→c.toNat ≠ 48→0 < decV l)
 | 0,l,hn,h0,_,_=>absurd (List.eq_nil_of_length_eq_zero hn) h0
 | n + 1,l,hn,h0,hd,hz=>by
  obtain ⟨i,c,rfl⟩:∃ i c,l=i ++ [c]:=⟨l.dropLast,l.getLast h0,(List.dropLast_concat_getLast h0).symm⟩
  have hcd:isDig c=true:=hd c (by simp)
  have hcc:48 ≤ c.toNat∧c.toNat ≤ 57:=by simpa [isDig] using hcd
  have hco:UInt8.ofNat (48 + (c.toNat - 48))=c:=by
   rw [show 48 + (c.toNat - 48)=c.toNat by omega]
   simp
  by_cases hi:i=[]
  ·subst hi
   have hv:decV ([] ++ [c])=c.toNat - 48:=by simp [decV]
   rw [hv,decDigits_one (by omega),hco]
   refine ⟨rfl,fun c' r e hc'=>?_⟩
   simp at e
   obtain ⟨rfl,_⟩:=e
   omega
  ·obtain ⟨a,r,rfl⟩:∃ a r,i=a :: r:=by
    cases i with
    | nil=>exact absurd rfl hi
    | cons a r=>exact ⟨a,r,rfl⟩
   have ha:a.toNat ≠ 48:=hz (by simp) a (r ++ [c]) rfl
   obtain ⟨e1,e2⟩:=digits_canon n (a :: r) (by simpa using hn) (by simp) (fun x hx=>hd x (List.mem_append_left _ hx)) (fun _ c' r' e=>by
    simp only [List.cons.injEq] at e
    rw [← e.1]
    exact ha)
   have hp:=e2 a r rfl ha
   rw [decV_snoc]
   refine ⟨?_,fun _ _ _ _=>by omega⟩
   rw [decDigits_big (by omega),show (10 * decV (a :: r) + (c.toNat - 48)) / 10=decV (a :: r) by omega,show (10 * decV (a :: r) + (c.toNat - 48)) % 10=c.toNat - 48 by omega,hco,← e1]

theorem canon {l:List UInt8} (h0:l ≠ []) (hd:∀ c ∈ l,isDig c=true) (hz:1 < l.length→∀ c r,l=c :: r→c.toNat ≠ 48):l=decDigits (decV l):=(digits_canon l.length l rfl h0 hd hz).1
def natF (s:List UInt8):Option Nat:=if s=[] ∨ 19 < s.length ∨ (1 < s.length∧s.head?=some 48) ∨ s.any (fun c=>!isDig c) ∨ 9223372036854775807 < decV s then none else some (decV s)
def minB:List UInt8:=45 :: decDigits 9223372036854775808
def numF (s:List UInt8):Option Int:=if s=minB then some (-9223372036854775808) else match s with
 | []=>none
 | c :: r=>if c=45 then (match natF r with | some n=>if 0 < n then some (-(n:Int)) else none | none=>none) else (natF (c :: r)).map fun (n:Nat)=>(n:Int)
theorem natF_some {s : List UInt8} {n : Nat} : natF s = some n ↔ n ≤ 9223372036854775807 ∧ s = decDigits n := by
  unfold natF
  constructor
  · intro h
    split at h
    · cases h
    · rename_i hh
      injection h with h
      subst h
      simp only [not_or, not_and, List.any_eq_true, Bool.not_eq_true', not_exists] at hh
      obtain ⟨h0, h1, h2, h3, h4⟩ := hh
      refine ⟨by omega, canon h0 (fun c hc => by simpa using h3 c hc) fun hl c r e hc => ?_⟩
      refine h2 hl ?_
      rw [e]
      simp
      exact UInt8.toNat_inj.1 hc
  · rintro ⟨h1, rfl⟩
    rw [if_neg]
    · rw [decV_digits]
    · simp only [not_or, not_and, List.any_eq_true, Bool.not_eq_true', not_exists]
      refine ⟨?_, ?_, ?_, ?_, ?_⟩
      · intro e
        have := decDigits_length n
        rw [e] at this
        have := nDigits_pos n
        simp at *
        omega
      · rw [decDigits_length]
        have hk : ∀ (k u : Nat), u < 10 ^ (k + 1) → nDigits u ≤ k + 1 := by
          intro k
          induction k with
          | zero => intro u h; rw [nDigits_small (by simpa using h)]; exact Nat.le_refl _
          | succ k ih =>
            intro u h
            by_cases h9 : u < 10
            · rw [nDigits_small h9]
              omega
            · rw [nDigits_big h9]
              have := ih (u / 10) (by rw [Nat.pow_succ] at h; omega)
              omega
        have := hk 18 n (by have : (10 : Nat) ^ (18 + 1) = 10000000000000000000 := by decide
                            omega)
        omega
      · intro hl e
        by_cases h0 : n = 0
        · subst h0
          rw [decDigits_one (by omega)] at hl
          simp at hl
        · obtain ⟨c, r, e2, hc⟩ := decDigits_head n (by omega)
          rw [e2] at e
          simp at e
          subst e
          exact hc rfl
      · intro c hc
        simpa using decDigits_dig n c hc
      · rw [decV_digits]
        omega
def i64ok0 (k:Int):Prop:=-9223372036854775808 ≤ k∧k ≤ 9223372036854775807
theorem digits_ne (n:Nat):decDigits n ≠ []:=by
 intro e
 have h1:=decDigits_length n
 have h2:=nDigits_pos n
 rw [e] at h1
 simp at h1
 omega
theorem digits_head_ne (n:Nat) (c:UInt8) (r:List UInt8) (h:decDigits n=c :: r):c ≠ 45:=by
 have:=decDigits_dig n c (by rw [h];simp)
 rintro rfl
 simp [isDig] at this
theorem numF_some {s:List UInt8} {n:Int}:numF s=some n ↔ i64ok0 n∧s=itoa n:=by
 unfold numF
 constructor
 ·intro h
  split at h
  ·rename_i hm
   injection h with h
   subst h
   exact ⟨⟨by omega,by omega⟩,hm⟩
  ·cases s with
   | nil=>cases h
   | cons c r =>
    simp only at h
    split at h
    ·rename_i hc
     subst hc
     cases hn:natF r with
     | none=>rw [hn] at h;cases h
     | some k =>
      rw [hn] at h
      simp only at h
      split at h
      ·injection h with h
       subst h
       obtain ⟨h1,rfl⟩:=natF_some.1 hn
       refine ⟨⟨by omega,by omega⟩,?_⟩
       unfold itoa
       rw [if_pos (by omega)]
       simp
      ·cases h
    ·cases hn:natF (c :: r) with
     | none=>rw [hn] at h;cases h
     | some k =>
      rw [hn] at h
      simp only [Option.map_some,Option.some.injEq] at h
      subst h
      obtain ⟨h1,h2⟩:=natF_some.1 hn
      refine ⟨⟨by omega,by omega⟩,?_⟩
      unfold itoa
      rw [if_neg (by omega),h2]
      simp
 ·rintro ⟨⟨h1,h2⟩,rfl⟩
  by_cases hm:n=-9223372036854775808
  ·subst hm
   rw [if_pos (show itoa (-9223372036854775808)=minB from by unfold itoa minB;rw [if_pos (by omega)];rfl)]
  ·have hne:itoa n ≠ minB:=by
    unfold itoa minB
    by_cases h0:n < 0
    ·rw [if_pos h0]
     intro e
     injection e with _ e
     have:=congrArg decV e
     rw [decV_digits,decV_digits] at this
     omega
    ·rw [if_neg h0]
     intro e
     exact digits_head_ne _ _ _ e rfl
   rw [if_neg hne]
   unfold itoa
   by_cases h0:n < 0
   ·rw [if_pos h0]
    simp only [if_true]
    have hk:natF (decDigits n.natAbs)=some n.natAbs:=natF_some.2 ⟨by omega,rfl⟩
    rw [hk]
    simp only
    rw [if_pos (by omega)]
    congr 1
    omega
   ·rw [if_neg h0]
    have hk:natF (decDigits n.toNat)=some n.toNat:=natF_some.2 ⟨by omega,rfl⟩
    cases hd:decDigits n.toNat with
    | nil=>exact absurd hd (digits_ne _)
    | cons c r =>
     simp only
     rw [if_neg (digits_head_ne _ _ _ hd),← hd,hk]
     simp
     omega
/-! ### the library's -/
theorem parseUintM_digits:∀ (l:List UInt8) (acc:Nat),(∀ c ∈ l,isDig c=true)→l.foldl (fun a c=>10 * a + (c.toNat - 48)) acc ≤ 9223372036854775808→parseUintM 18446744073709551615 acc l=.ok (l.foldl (fun a c=>10 * a + (c.toNat - 48)) acc)
 | [],acc,_,_=>rfl
 | c :: r,acc,hd,h=>by
  have hc:48 ≤ c.toNat∧c.toNat ≤ 57:=by simpa [isDig] using hd c (by simp)
  have hmono:∀ (r:List UInt8) (a:Nat),a ≤ r.foldl (fun a c=>10 * a + (c.toNat - 48)) a:=by
   intro r
   induction r with
   | nil=>intro a;exact Nat.le_refl _
   | cons x r ih=>intro a;rw [List.foldl_cons];exact Nat.le_trans (show a ≤ 10 * a + (x.toNat - 48) by omega) (ih _)
  have h1:=hmono r (10 * acc + (c.toNat - 48))
  rw [List.foldl_cons] at h
  unfold parseUintM
  rw [if_pos hc,if_neg (by omega),if_neg (by omega),show acc * 10 + (c.toNat - 48)=10 * acc + (c.toNat - 48) by omega]
  exact parseUintM_digits r _ (fun x hx=>hd x (by simp [hx])) h
theorem parseUintB_digits (u:Nat) (h:u ≤ 9223372036854775808):parseUintB 64 (decDigits u)=.ok u:=by
 unfold parseUintB
 rw [if_neg (digits_ne u)]
 have:=parseUintM_digits (decDigits u) 0 (decDigits_dig u) (by have:=decV_digits u;unfold decV at this;omega)
 have e:=decV_digits u
 unfold decV at e
 rw [e] at this
 exact this
theorem parse_itoa (n : Int) (h : i64ok0 n) : parseIntB 64 (itoa n) = .ok n := by
  obtain ⟨h1, h2⟩ := h
  unfold itoa
  by_cases h0 : n < 0
  · rw [if_pos h0, parseIntB_minus, parseUintB_digits _ (by omega)]
    simp only [signedC]
    rw [if_neg (by have : 2 ^ (64 - 1) = 9223372036854775808 := by decide
                   omega)]
    congr 1
    omega
  · rw [if_neg h0]
    cases hd : decDigits n.toNat with
    | nil => exact absurd hd (digits_ne _)
    | cons c r =>
      have hc : isDig c = true := decDigits_dig n.toNat c (by rw [hd]; simp)
      have hcc : 48 ≤ c.toNat ∧ c.toNat ≤ 57 := by simpa [isDig] using hc
      rw [parseIntB_plain _ _ _ (by omega) (by omega), ← hd, parseUintB_digits _ (by omega)]
      simp only [signlessC]
      rw [if_neg (by have : 2 ^ (64 - 1) = 9223372036854775808 := by decide
                     omega)]
      congr 1
      omega
theorem prog_num (s:List UInt8) (n:Int):(parseIntB 64 s=.ok n∧itoa n=s) ↔ numF s=some n:=by
 rw [numF_some]
 constructor
 ·rintro ⟨h1,rfl⟩
  have hb:=parseIntB_bounds h1
  exact ⟨by unfold i64ok0;omega,rfl⟩
 ·rintro ⟨h1,rfl⟩
  exact ⟨parse_itoa n h1,rfl⟩


theorem index_miss (c:UInt8):∀ (l:List UInt8),c ∉ l→index l [c]=-1
 | [],_=>by simp [index]
 | b :: l,h=>by
  have hb:b ≠ c:=fun e=>h (by simp [e])
  have hl:c ∉ l:=fun e=>h (by simp [e])
  unfold index
  rw [if_neg (by simp [List.isPrefixOf];exact fun e=>hb e.symm),if_pos (by rw [index_miss c l hl];rfl)]
theorem index_hit (c:UInt8):∀ (a b:List UInt8),c ∉ a→index (a ++ c :: b) [c]=a.length
 | [],b,_=>by unfold index;simp [List.isPrefixOf]
 | x :: a,b,h=>by
  have hx:x ≠ c:=fun e=>h (by simp [e])
  have ha:c ∉ a:=fun e=>h (by simp [e])
  rw [List.cons_append]
  unfold index
  rw [if_neg (by simp [List.isPrefixOf];exact fun e=>hx e.symm),index_hit c a b ha,if_neg (by rw [beq_iff_eq];omega)]
  simp
def splitF (c:UInt8):List UInt8→List (List UInt8)
 | []=>[[]]
 | b :: r=>if b=c then [] :: splitF c r else (match splitF c r with | h :: t=>(b :: h) :: t | []=>[[b]])
theorem splitF_ne (c:UInt8) (l:List UInt8):splitF c l ≠ []:=by
 cases l with
 | nil=>simp [splitF]
 | cons b r =>
  unfold splitF
  split
  ·simp
  ·split <;> simp
theorem splitF_miss (c:UInt8):∀ (l:List UInt8),c ∉ l→splitF c l=[l]
 | [],_=>rfl
 | b :: r,h=>by
  have hb:b ≠ c:=fun e=>h (by simp [e])
  unfold splitF
  rw [if_neg hb,splitF_miss c r (fun e=>h (by simp [e]))]
theorem splitF_hit (c:UInt8):∀ (a b:List UInt8),c ∉ a→splitF c (a ++ c :: b)=a :: splitF c b
 | [],b,_=>by simp [splitF]
 | x :: a,b,h=>by
  have hx:x ≠ c:=fun e=>h (by simp [e])
  rw [List.cons_append,splitF,if_neg hx,splitF_hit c a b (fun e=>h (by simp [e]))]
theorem split_cases (c:UInt8) (l:List UInt8):c ∉ l ∨ ∃ a b,l=a ++ c :: b∧c ∉ a:=by
 induction l with
 | nil=>exact .inl (by simp)
 | cons x l ih =>
  by_cases hx:x=c
  ·exact .inr ⟨[],l,by simp [hx],by simp⟩
  ·rcases ih with h | ⟨a,b,rfl,h⟩
   ·exact .inl (by simp;exact ⟨fun e=>hx e.symm,h⟩)
   ·exact .inr ⟨x :: a,b,rfl,by simp;exact ⟨fun e=>hx e.symm,h⟩⟩
theorem countFrom_eq (c:UInt8):∀ (f:Nat) (l:List UInt8),l.length < f→countFrom [c] f l=l.count c
 | 0,l,h=>absurd h (by omega)
 | f + 1,l,h=>by
  unfold countFrom
  rcases split_cases c l with hm | ⟨a,b,rfl,ha⟩
  ·rw [index_miss c l hm,if_pos (by rfl)]
   exact (List.count_eq_zero.2 hm).symm
  ·rw [index_hit c a b ha,if_neg (by rw [beq_iff_eq];omega)]
   have e:(a ++ c :: b).drop (((a.length:Int)).toNat + [c].length)=b:=by
    simp
   rw [e,countFrom_eq c f b (by simp at h;omega),List.count_append,List.count_cons_self,List.count_eq_zero.2 ha]
   omega
theorem splitK_eq (c:UInt8):∀ (k:Nat) (l:List UInt8),l.count c ≤ k→splitK [c] 0 k l=splitF c l
 | 0,l,h=>by
  have:c ∉ l:=List.count_eq_zero.1 (by omega)
  rw [splitF_miss c l this]
  rfl
 | k + 1,l,h=>by
  unfold splitK
  rcases split_cases c l with hm | ⟨a,b,rfl,ha⟩
  ·rw [index_miss c l hm,if_pos (by rfl),splitF_miss c l hm]
  ·rw [index_hit c a b ha,if_neg (by rw [beq_iff_eq];omega),splitF_hit c a b ha]
   rw [List.count_append,List.count_cons_self] at h
   have e:(a ++ c :: b).drop (((a.length:Int)).toNat + [c].length)=b:=by simp
   rw [e,splitK_eq c k b (by omega)]
   simp
theorem splitF_length (c:UInt8) (l:List UInt8):(splitF c l).length=l.count c + 1:=by
 induction l with
 | nil=>rfl
 | cons b r ih =>
  unfold splitF
  by_cases hb:b=c
  ·subst hb
   rw [if_pos rfl,List.length_cons,ih,List.count_cons_self]
  ·rw [if_neg hb,List.count_cons_of_ne hb,← ih]
   split
   ·rename_i h t e
    rw [e]
    simp
   ·rename_i e
    exact absurd e (splitF_ne c r)
theorem cut_one (c:UInt8) (l:List UInt8):(cut l [c]).1=l.takeWhile (fun b=>b != c):=by
 unfold cut
 rcases split_cases c l with hm | ⟨a,b,rfl,ha⟩
 ·rw [index_miss c l hm,if_neg (by omega)]
  have h:∀ (l:List UInt8),c ∉ l→l.takeWhile (fun b=>b != c)=l:=by
   intro l
   induction l with
   | nil=>intro _;rfl
   | cons x r ih =>
    intro hm
    have hx:x ≠ c:=fun e=>hm (by simp [e])
    rw [List.takeWhile_cons,if_pos (by simpa using hx),ih (fun e=>hm (by simp [e]))]
  exact (h l hm).symm
 ·rw [index_hit c a b ha,if_pos (by omega)]
  have h:(a ++ c :: b).takeWhile (fun b=>b != c)=a:=by
   rw [List.takeWhile_append_of_pos]
   ·simp
   ·intro x hx
    simp
    rintro rfl
    exact ha hx
  rw [h]
  simp
theorem suffix_one (c:UInt8) (l:List UInt8):hasSuffix l [c]=(l.getLast? == some c):=by
 unfold hasSuffix
 rcases List.eq_nil_or_concat l with rfl | ⟨i,x,rfl⟩
 ·simp
 ·rw [Bool.eq_iff_iff]
  simp [List.isSuffixOf,List.isPrefixOf]
  exact eq_comm
theorem trim_one (c:UInt8) (l:List UInt8) (h:hasSuffix l [c]=true):trimSuffix l [c]=l.dropLast:=by
 unfold trimSuffix
 rw [if_pos h,List.dropLast_eq_take]
 rfl

structure Tok where
 s:List UInt8
 pos:Nat
def isGap (c:UInt8):Bool:=c == 32 || c == 9
def scStep (a:Nat) (x:List Tok × List UInt8 × Nat) (c:UInt8):List Tok × List UInt8 × Nat :=
 if isGap c then ((if x.2.1=[] then x.1 else x.1 ++ [⟨x.2.1,a + (x.2.2 - x.2.1.length)⟩]),[],x.2.2 + 1) else (x.1,x.2.1 ++ [c],x.2.2 + 1)
def sc (a:Nat) (p:List UInt8):List Tok × List UInt8 × Nat:=p.foldl (scStep a) ([],[],0)
def flushT (a:Nat) (x:List Tok × List UInt8 × Nat):List Tok:=if x.2.1=[] then x.1 else x.1 ++ [⟨x.2.1,a + (x.2.2 - x.2.1.length)⟩]
theorem sc_snoc (a:Nat) (p:List UInt8) (c:UInt8):sc a (p ++ [c])=scStep a (sc a p) c:=by simp [sc]
theorem snoc_ind' {α:Type} {P:List α→Prop} (h0:P []) (h1:∀ l x,P l→P (l ++ [x])) (l:List α):P l:=by
 rw [← List.reverse_reverse l]
 induction l.reverse with
 | nil=>exact h0
 | cons x r ih=>rw [List.reverse_cons];exact h1 _ _ ih
theorem sc_len (a:Nat) (p:List UInt8):(sc a p).2.2=p.length:=by
 induction p using snoc_ind' with
 | h0=>rfl
 | h1 l x ih =>
  rw [sc_snoc,scStep]
  split <;> simp [ih]
theorem sc_suffix (a:Nat) (p:List UInt8):∃ q,p=q ++ (sc a p).2.1:=by
 induction p using snoc_ind' with
 | h0=>exact ⟨[],rfl⟩
 | h1 l x ih =>
  obtain ⟨q,hq⟩:=ih
  rw [sc_snoc,scStep]
  split
  ·exact ⟨l ++ [x],by simp⟩
  ·refine ⟨q,?_⟩
   simp only
   rw [← List.append_assoc,← hq]
theorem sc_gap (a:Nat) (p:List UInt8) (c:UInt8) (h:isGap c=true):sc a (p ++ [c])=(flushT a (sc a p),[],p.length + 1):=by
 rw [sc_snoc,scStep,if_pos h]
 unfold flushT
 rw [sc_len]
theorem sc_chr (a:Nat) (p:List UInt8) (c:UInt8) (h:isGap c=false):sc a (p ++ [c])=((sc a p).1,(sc a p).2.1 ++ [c],p.length + 1):=by
 rw [sc_snoc,scStep,if_neg (by rw [h];exact Bool.false_ne_true),sc_len]
def cutR (l:List UInt8):List UInt8:=l.takeWhile (fun b=>b != 35)
def lineTok (l:List UInt8) (a:Nat):List Tok:=flushT a (sc a (cutR l))
theorem cutR_clean (l:List UInt8) (h:(35:UInt8) ∉ l):cutR l=l:=by
 unfold cutR
 induction l with
 | nil=>rfl
 | cons x r ih =>
  have hx:x ≠ 35:=fun e=>h (by simp [e])
  rw [List.takeWhile_cons,if_pos (by simpa using hx),ih (fun e=>h (by simp [e]))]
theorem cutR_more (l r:List UInt8) (h:(35:UInt8) ∈ l):cutR (l ++ r)=cutR l:=by
 unfold cutR
 induction l with
 | nil=>cases h
 | cons x l ih =>
  rw [List.cons_append,List.takeWhile_cons,List.takeWhile_cons]
  by_cases hx:x=35
  ·subst hx
   simp
  ·rw [if_pos (by simpa using hx),if_pos (by simpa using hx),ih (by
    rcases List.mem_cons.1 h with e | e
    ·exact absurd e.symm hx
    ·exact e)]
theorem cutR_hash (l:List UInt8) (h:(35:UInt8) ∉ l):cutR (l ++ [35])=l:=by
 unfold cutR
 rw [List.takeWhile_append_of_pos]
 ·simp
 ·intro x hx
  simp
  rintro rfl
  exact h hx
/-! ### lines -/
def txStep (x:List (List Tok) × Nat × List UInt8) (c:UInt8):List (List Tok) × Nat × List UInt8 :=
 if c=10 then (x.1 ++ [lineTok x.2.2 x.2.1],x.2.1 + x.2.2.length + 1,[]) else (x.1,x.2.1,x.2.2 ++ [c])
def tx (t:List UInt8):List (List Tok) × Nat × List UInt8:=t.foldl txStep ([],0,[])
theorem tx_snoc (t:List UInt8) (c:UInt8):tx (t ++ [c])=txStep (tx t) c:=by simp [tx]
theorem tx_len (t:List UInt8):(tx t).2.1 + (tx t).2.2.length=t.length:=by
 induction t using snoc_ind' with
 | h0=>rfl
 | h1 l x ih =>
  rw [tx_snoc,txStep]
  split
  ·simp
   omega
  ·simp
   omega
def lineToks (t:List UInt8):List (List Tok):=(tx t).1 ++ [lineTok (tx t).2.2 (tx t).2.1]
def toksFrom:Nat→List (List UInt8)→List (List Tok)
 | _,[]=>[]
 | a,l :: r=>lineTok l a :: toksFrom (a + l.length + 1) r
theorem tx_split:∀ (t:List UInt8) (d:List (List Tok)) (a:Nat) (p:List UInt8),(10:UInt8) ∉ p →
  (t.foldl txStep (d,a,p)).1 ++ [lineTok (t.foldl txStep (d,a,p)).2.2 (t.foldl txStep (d,a,p)).2.1]=d ++ toksFrom a (splitF 10 (p ++ t))
 | [],d,a,p,h=>by
  rw [List.append_nil,splitF_miss 10 p h]
  rfl
 | c :: t,d,a,p,h=>by
  rw [List.foldl_cons]
  by_cases hc:c=10
  ·subst hc
   have e:txStep (d,a,p) 10=(d ++ [lineTok p a],a + p.length + 1,[]):=by simp [txStep]
   rw [e,tx_split t _ _ [] (by simp),splitF_hit 10 p t h,List.nil_append,toksFrom,List.append_assoc]
   rfl
  ·have e:txStep (d,a,p) c=(d,a,p ++ [c]):=by simp [txStep,hc]
   rw [e,tx_split t d a (p ++ [c]) (by simp;exact ⟨h,fun e=>hc e.symm⟩),List.append_assoc]
   rfl
theorem lineToks_split (t:List UInt8):lineToks t=toksFrom 0 (splitF 10 t):=by
 have:=tx_split t [] 0 [] (by simp)
 rw [List.nil_append,List.nil_append] at this
 exact this
/-! ### how the document reads lines -/
structure DSt where
 done:List (List Tok)
 line:List Tok
 inn:Bool
 rem:Bool
def grow1 (l:List Tok) (c:UInt8):List Tok:=match l.getLast? with
 | none=>l
 | some x=>l.dropLast ++ [⟨x.s ++ [c],x.pos⟩]
def dstep (d:DSt) (i:Nat) (c:UInt8):DSt :=
 if c=10 then ⟨d.done ++ [d.line],[],false,false⟩
 else if (d.rem || c == 35) || isGap c then ⟨d.done,d.line,false,d.rem || c == 35⟩
 else if d.inn then ⟨d.done,grow1 d.line c,true,d.rem⟩
 else ⟨d.done,d.line ++ [⟨[c],i⟩],true,d.rem⟩
def docD (t:List UInt8):DSt :=
 let p:=(tx t).2.2
 ⟨(tx t).1,lineTok p (tx t).2.1,!(p.contains 35) && !((sc (tx t).2.1 p).2.1.isEmpty),p.contains 35⟩
theorem docD_step (t:List UInt8) (c:UInt8):docD (t ++ [c])=dstep (docD t) t.length c:=by
 have hlen:=tx_len t
 unfold docD
 rw [tx_snoc]
 generalize tx t=x at *
 obtain ⟨d,a,p⟩:=x
 simp only at hlen ⊢
 by_cases hc:c=10
 ·subst hc
  simp [txStep,dstep,lineTok,sc,cutR,flushT]
 ·have e:txStep (d,a,p) c=(d,a,p ++ [c]):=by simp [txStep,hc]
  rw [e]
  simp only
  unfold dstep
  rw [if_neg hc]
  by_cases hr:(35:UInt8) ∈ p
  ·have h1:p.contains 35=true:=by simpa using hr
   have h2:(p ++ [c]).contains 35=true:=by simp;exact .inl hr
   simp only [h1,h2,Bool.true_or,Bool.not_true,Bool.false_and,if_true]
   unfold lineTok
   rw [cutR_more p [c] hr]
  ·have h1:p.contains 35=false:=by simpa using hr
   by_cases h35:c=35
   ·subst h35
    have h2:(p ++ [35]).contains (35:UInt8)=true:=by simp
    simp only [h1,h2,beq_self_eq_true,Bool.or_true,Bool.true_or,Bool.not_true,Bool.false_and,if_true]
    unfold lineTok
    rw [cutR_hash p hr,cutR_clean p hr]
   ·have hr2:(35:UInt8) ∉ p ++ [c]:=by simp;exact ⟨hr,fun e=>h35 e.symm⟩
    have h2:(p ++ [c]).contains 35=false:=by simpa using hr2
    have h3:(c == 35)=false:=by simpa using h35
    simp only [h1,h2,h3,Bool.or_false,Bool.not_false,Bool.true_and,Bool.false_or]
    unfold lineTok
    rw [cutR_clean _ hr2,cutR_clean _ hr]
    cases hg:isGap c
    ·rw [sc_chr a p c hg]
     have hfl:flushT a ((sc a p).1,(sc a p).2.1 ++ [c],p.length + 1)=(sc a p).1 ++ [⟨(sc a p).2.1 ++ [c],a + (p.length - (sc a p).2.1.length)⟩]:=by
      unfold flushT
      simp
     rw [hfl]
     cases hcu:(sc a p).2.1 with
     | nil =>
      simp [flushT,hcu,hlen]
     | cons x r =>
      have hlast:flushT a (sc a p)=(sc a p).1 ++ [⟨x :: r,a + (p.length - (x :: r).length)⟩]:=by
       unfold flushT
       rw [hcu,sc_len]
       simp
      rw [hlast]
      simp [grow1]
    ·rw [sc_gap a p c hg]
     simp [flushT]
end Go.Proofs.YtiheggkkgbfndaaGreatDoor
namespace Go.Proofs.YtiheggkkgbfndaaGreatDoor
set_option linter.unusedVariables false
set_option linter.unusedSimpArgs false
structure AOp where
 code:Nat
 operand:Int
def shapeL:List Nat:=[0,1,2,3,0,0,0,0,0,0,0,0,0,0,0,0,0,0,0,0,0,0,0,4,2,2,6,0,5,0,0,0,0,5,5,5,5,5,5,5,5]
def shapeF (c:Nat):Nat:=shapeL.getD c 0
def widthF (sh:Nat):Nat:=if sh=1 ∨ sh=4 ∨ sh=5 then 1 else if sh=2 ∨ sh=6 then 2 else if sh=3 then 8 else 0
def leF:List Nat→Nat
 | []=>0
 | b :: r=>b + 256 * leF r
theorem leF_snoc (l:List Nat) (b:Nat):leF (l ++ [b])=leF l + 256 ^ l.length * b:=by
 induction l with
 | nil=>simp [leF]
 | cons x r ih =>
  rw [List.cons_append,leF,leF,ih,List.length_cons,Nat.pow_succ,Nat.mul_add,Nat.add_assoc,Nat.mul_comm (256 ^ r.length) 256,Nat.mul_assoc]
theorem leF_lt (l:List Nat) (h:∀ b ∈ l,b < 256):leF l < 256 ^ l.length:=by
 induction l with
 | nil=>simp [leF]
 | cons x r ih =>
  have h1:=ih fun b hb=>h b (List.mem_cons_of_mem _ hb)
  have h2:=h x (by simp)
  rw [leF,List.length_cons,Nat.pow_succ]
  omega
def valueF (sh n:Nat):Int:=if sh=1 then (if n < 128 then (n:Int) else n - 256) else if sh=2 then (if n < 32768 then (n:Int) else n - 65536) else if sh=3 then (if n < 9223372036854775808 then (n:Int) else n - 18446744073709551616) else n
def fitsF (sh:Nat) (n:Int):Bool :=
 if sh=1 then decide (-128 ≤ n∧n ≤ 127) else if sh=2 then decide (-32768 ≤ n∧n ≤ 32767) else if sh=3 then true
 else if sh=4 then decide (0 ≤ n∧n < 6) else if sh=5 then decide (0 ≤ n∧n ≤ 255) else if sh=6 then decide (0 ≤ n∧n ≤ 65535) else decide (n=0)
def atF (s : List Nat) (i : Nat) : Option (AOp × Nat) :=
  if i < s.length then
    (let c := s.getD i 0
     if c < 41 then
       (let w := widthF (shapeF c)
        if w ≤ s.length - (i + 1) then
          (let o := valueF (shapeF c) (leF ((s.drop (i + 1)).take w))
           if fitsF (shapeF c) o = true then some (⟨c, o⟩, 1 + w) else none)
        else none)
     else none)
  else none
theorem shape_cases (c:Nat) (h:c < 41):(c=1∧shapeF c=1) ∨ ((c=2 ∨ c=24 ∨ c=25)∧shapeF c=2) ∨ (c=3∧shapeF c=3) ∨ (c=23∧shapeF c=4) ∨ ((c=28 ∨ 33 ≤ c)∧shapeF c=5) ∨ (c=26∧shapeF c=6) ∨ ((c ≠ 1∧c ≠ 2∧c ≠ 3∧c ≠ 23∧c ≠ 24∧c ≠ 25∧c ≠ 26∧c ≠ 28∧c < 33)∧shapeF c=0):=by
 have key:∀ k,k < 41→(k=1∧shapeF k=1) ∨ ((k=2 ∨ k=24 ∨ k=25)∧shapeF k=2) ∨ (k=3∧shapeF k=3) ∨ (k=23∧shapeF k=4) ∨ ((k=28 ∨ 33 ≤ k)∧shapeF k=5) ∨ (k=26∧shapeF k=6) ∨ ((k ≠ 1∧k ≠ 2∧k ≠ 3∧k ≠ 23∧k ≠ 24∧k ≠ 25∧k ≠ 26∧k ≠ 28∧k < 33)∧shapeF k=0):=by decide
 exact key c h
end Go.Proofs.YtiheggkkgbfndaaGreatDoor
namespace Go.Proofs.YtiheggkkgbfndaaGreatDoor
open Go.RowKit Go.Joins Go.ChangeShapes Go.WideShapes Go.Deep
set_option linter.unusedVariables false
set_option linter.unusedSimpArgs false
set_option maxRecDepth 100000
theorem width_any (c:Nat) (hc:c < 7) (w:World):Calls Tryz.prog 117 #[.int .u8 c] w fun r w'=>r=.returned (.int .i64 (widthF c:Nat))∧w'=w:=by
 match c,hc with
 | 0,_=>(go_enter Tryz.func117,Tryz.ntmps117);go_wp2;go_ret;exact ⟨rfl,rfl⟩
 | 1,_=>(go_enter Tryz.func117,Tryz.ntmps117);go_wp2;go_ret;exact ⟨rfl,rfl⟩
 | 2,_=>(go_enter Tryz.func117,Tryz.ntmps117);go_wp2;go_ret;exact ⟨rfl,rfl⟩
 | 3,_=>(go_enter Tryz.func117,Tryz.ntmps117);go_wp2;go_ret;exact ⟨rfl,rfl⟩
 | 4,_=>(go_enter Tryz.func117,Tryz.ntmps117);go_wp2;go_ret;exact ⟨rfl,rfl⟩
 | 5,_=>(go_enter Tryz.func117,Tryz.ntmps117);go_wp2;go_ret;exact ⟨rfl,rfl⟩
 | 6,_=>(go_enter Tryz.func117,Tryz.ntmps117);go_wp2;go_ret;exact ⟨rfl,rfl⟩
theorem fits_any (c:Nat) (hc:c < 7) (n:Int) (w:World):Calls Tryz.prog 119 #[.int .u8 c,.int .i64 n] w fun r w'=>r=.returned (.bool (fitsF c n))∧w'=w:=by
 match c,hc with
 | 0,_ =>
  by_cases h1:n=0
  ·subst h1
   (go_enter Tryz.func119,Tryz.ntmps119);go_wp2;go_ret;exact ⟨rfl,rfl⟩
  ·have d1:(n == 0)=false:=by simp [h1]
   have HF:Hid (fitsF 0 n=false):=Lib.hid (by unfold fitsF;simp [h1])
   (go_enter Tryz.func119,Tryz.ntmps119);go_wp2;go_ret;exact ⟨by rw [HF.out];rfl,rfl⟩
 | 3,_=>(go_enter Tryz.func119,Tryz.ntmps119);go_wp2;go_ret;exact ⟨rfl,rfl⟩
 | 1,_ =>
  by_cases h1:(-128:Int) ≤ n
  ·have d1:decide ((-128:Int) ≤ n)=true:=decide_eq_true h1
   by_cases h2:n ≤ 127
   ·have d2:decide (n ≤ 127)=true:=decide_eq_true h2
    have HF:Hid (fitsF 1 n=true):=Lib.hid (by unfold fitsF;simp;omega)
    (go_enter Tryz.func119,Tryz.ntmps119);go_wp2;go_ret;exact ⟨by rw [HF.out];rfl,rfl⟩
   ·have d2:decide (n ≤ 127)=false:=decide_eq_false h2
    have HF:Hid (fitsF 1 n=false):=Lib.hid (by unfold fitsF;simp;omega)
    (go_enter Tryz.func119,Tryz.ntmps119);go_wp2;go_ret;exact ⟨by rw [HF.out];rfl,rfl⟩
  ·have d1:decide ((-128:Int) ≤ n)=false:=decide_eq_false h1
   have HF:Hid (fitsF 1 n=false):=Lib.hid (by unfold fitsF;simp;omega)
   (go_enter Tryz.func119,Tryz.ntmps119);go_wp2;go_ret;exact ⟨by rw [HF.out];rfl,rfl⟩
 | 2,_ =>
  by_cases h1:(-32768:Int) ≤ n
  ·have d1:decide ((-32768:Int) ≤ n)=true:=decide_eq_true h1
   by_cases h2:n ≤ 32767
   ·have d2:decide (n ≤ 32767)=true:=decide_eq_true h2
    have HF:Hid (fitsF 2 n=true):=Lib.hid (by unfold fitsF;simp;omega)
    (go_enter Tryz.func119,Tryz.ntmps119);go_wp2;go_ret;exact ⟨by rw [HF.out];rfl,rfl⟩
   ·have d2:decide (n ≤ 32767)=false:=decide_eq_false h2
    have HF:Hid (fitsF 2 n=false):=Lib.hid (by unfold fitsF;simp;omega)
    (go_enter Tryz.func119,Tryz.ntmps119);go_wp2;go_ret;exact ⟨by rw [HF.out];rfl,rfl⟩
  ·have d1:decide ((-32768:Int) ≤ n)=false:=decide_eq_false h1
   have HF:Hid (fitsF 2 n=false):=Lib.hid (by unfold fitsF;simp;omega)
   (go_enter Tryz.func119,Tryz.ntmps119);go_wp2;go_ret;exact ⟨by rw [HF.out];rfl,rfl⟩
 | 4,_ =>
  by_cases h1:(0:Int) ≤ n
  ·have d1:decide ((0:Int) ≤ n)=true:=decide_eq_true h1
   by_cases h2:n < 6
   ·have d2:decide (n < 6)=true:=decide_eq_true h2
    have HF:Hid (fitsF 4 n=true):=Lib.hid (by unfold fitsF;simp;omega)
    (go_enter Tryz.func119,Tryz.ntmps119);go_wp2;go_ret;exact ⟨by rw [HF.out];rfl,rfl⟩
   ·have d2:decide (n < 6)=false:=decide_eq_false h2
    have HF:Hid (fitsF 4 n=false):=Lib.hid (by unfold fitsF;simp;omega)
    (go_enter Tryz.func119,Tryz.ntmps119);go_wp2;go_ret;exact ⟨by rw [HF.out];rfl,rfl⟩
  ·have d1:decide ((0:Int) ≤ n)=false:=decide_eq_false h1
   have HF:Hid (fitsF 4 n=false):=Lib.hid (by unfold fitsF;simp;omega)
   (go_enter Tryz.func119,Tryz.ntmps119);go_wp2;go_ret;exact ⟨by rw [HF.out];rfl,rfl⟩
 | 5,_ =>
  by_cases h1:(0:Int) ≤ n
  ·have d1:decide ((0:Int) ≤ n)=true:=decide_eq_true h1
   by_cases h2:n ≤ 255
   ·have d2:decide (n ≤ 255)=true:=decide_eq_true h2
    have HF:Hid (fitsF 5 n=true):=Lib.hid (by unfold fitsF;simp;omega)
    (go_enter Tryz.func119,Tryz.ntmps119);go_wp2;go_ret;exact ⟨by rw [HF.out];rfl,rfl⟩
   ·have d2:decide (n ≤ 255)=false:=decide_eq_false h2
    have HF:Hid (fitsF 5 n=false):=Lib.hid (by unfold fitsF;simp;omega)
    (go_enter Tryz.func119,Tryz.ntmps119);go_wp2;go_ret;exact ⟨by rw [HF.out];rfl,rfl⟩
  ·have d1:decide ((0:Int) ≤ n)=false:=decide_eq_false h1
   have HF:Hid (fitsF 5 n=false):=Lib.hid (by unfold fitsF;simp;omega)
   (go_enter Tryz.func119,Tryz.ntmps119);go_wp2;go_ret;exact ⟨by rw [HF.out];rfl,rfl⟩
 | 6,_ =>
  by_cases h1:(0:Int) ≤ n
  ·have d1:decide ((0:Int) ≤ n)=true:=decide_eq_true h1
   by_cases h2:n ≤ 65535
   ·have d2:decide (n ≤ 65535)=true:=decide_eq_true h2
    have HF:Hid (fitsF 6 n=true):=Lib.hid (by unfold fitsF;simp;omega)
    (go_enter Tryz.func119,Tryz.ntmps119);go_wp2;go_ret;exact ⟨by rw [HF.out];rfl,rfl⟩
   ·have d2:decide (n ≤ 65535)=false:=decide_eq_false h2
    have HF:Hid (fitsF 6 n=false):=Lib.hid (by unfold fitsF;simp;omega)
    (go_enter Tryz.func119,Tryz.ntmps119);go_wp2;go_ret;exact ⟨by rw [HF.out];rfl,rfl⟩
  ·have d1:decide ((0:Int) ≤ n)=false:=decide_eq_false h1
   have HF:Hid (fitsF 6 n=false):=Lib.hid (by unfold fitsF;simp;omega)
   (go_enter Tryz.func119,Tryz.ntmps119);go_wp2;go_ret;exact ⟨by rw [HF.out];rfl,rfl⟩
theorem wrap_low (n:Int) (h0:-9223372036854775808 ≤ n) (h1:n ≤ 9223372036854775807):wrap64 n=n:=by rw [← IntWalk.i64_left];exact IntWalk.i64_in n ⟨h0,h1⟩
theorem wrap_high (n:Int) (h0:9223372036854775808 ≤ n) (h1:n ≤ 18446744073709551615):wrap64 n=n - 18446744073709551616:=by
 rw [← IntWalk.i64_left,IntKind.wrap_i64]
 omega
theorem wrap_i8 (n:Nat) (h:n < 256):IntKind.i8.wrap (n:Int)=if n < 128 then (n:Int) else n - 256:=by
 simp [IntKind.wrap,IntKind.bits,IntKind.signed]
 split <;> omega
theorem wrap_i16 (n:Nat) (h:n < 65536):IntKind.i16.wrap (n:Int)=if n < 32768 then (n:Int) else n - 65536:=by
 simp [IntKind.wrap,IntKind.bits,IntKind.signed]
 split <;> omega
theorem value_any (c n:Nat) (hc:c < 7) (hn:n < 256 ^ widthF c) (w:World):Calls Tryz.prog 118 #[.int .u8 c,.int .u64 n] w fun r w'=>r=.returned (.int .i64 (valueF c n))∧w'=w:=by
 match c,hc with
 | 0,_ =>
  have hv:wrap64 (n:Int)=valueF 0 n:=by
   have hn':n < 1:=hn
   rw [wrap_low _ (by omega) (by omega)]
   simp [valueF]
  have HV:=Lib.hid hv
  clear hv hn
  (go_enter Tryz.func118,Tryz.ntmps118);go_wp2;go_ret;exact ⟨by rw [← HV.out];rfl,rfl⟩
 | 1,_ =>
  have hv:wrap64 (IntKind.i8.wrap (n:Int))=valueF 1 n:=by
   have hn':n < 256:=hn
   rw [wrap_i8 n hn',wrap_low _ (by split <;> omega) (by split <;> omega)]
   simp [valueF]
  have HV:=Lib.hid hv
  clear hv hn
  (go_enter Tryz.func118,Tryz.ntmps118);go_wp2;go_ret;exact ⟨by rw [← HV.out];rfl,rfl⟩
 | 2,_ =>
  have hv:wrap64 (IntKind.i16.wrap (n:Int))=valueF 2 n:=by
   have hn':n < 65536:=hn
   rw [wrap_i16 n hn',wrap_low _ (by split <;> omega) (by split <;> omega)]
   simp [valueF]
  have HV:=Lib.hid hv
  clear hv hn
  (go_enter Tryz.func118,Tryz.ntmps118);go_wp2;go_ret;exact ⟨by rw [← HV.out];rfl,rfl⟩
 | 3,_ =>
  have hv:wrap64 (n:Int)=valueF 3 n:=by
   have hn':n < 18446744073709551616:=hn
   by_cases h:n < 9223372036854775808
   ·rw [wrap_low _ (by omega) (by omega)]
    simp [valueF,h]
   ·rw [wrap_high _ (by omega) (by omega)]
    simp [valueF,h]
  have HV:=Lib.hid hv
  clear hv hn
  (go_enter Tryz.func118,Tryz.ntmps118);go_wp2;go_ret;exact ⟨by rw [← HV.out];rfl,rfl⟩
 | 4,_ =>
  have hv:wrap64 (n:Int)=valueF 4 n:=by
   have hn':n < 256:=hn
   rw [wrap_low _ (by omega) (by omega)]
   simp [valueF]
  have HV:=Lib.hid hv
  clear hv hn
  (go_enter Tryz.func118,Tryz.ntmps118);go_wp2;go_ret;exact ⟨by rw [← HV.out];rfl,rfl⟩
 | 5,_ =>
  have hv:wrap64 (n:Int)=valueF 5 n:=by
   have hn':n < 256:=hn
   rw [wrap_low _ (by omega) (by omega)]
   simp [valueF]
  have HV:=Lib.hid hv
  clear hv hn
  (go_enter Tryz.func118,Tryz.ntmps118);go_wp2;go_ret;exact ⟨by rw [← HV.out];rfl,rfl⟩
 | 6,_ =>
  have hv:wrap64 (n:Int)=valueF 6 n:=by
   have hn':n < 65536:=hn
   rw [wrap_low _ (by omega) (by omega)]
   simp [valueF]
  have HV:=Lib.hid hv
  clear hv hn
  (go_enter Tryz.func118,Tryz.ntmps118);go_wp2;go_ret;exact ⟨by rw [← HV.out];rfl,rfl⟩
end Go.Proofs.YtiheggkkgbfndaaGreatDoor
