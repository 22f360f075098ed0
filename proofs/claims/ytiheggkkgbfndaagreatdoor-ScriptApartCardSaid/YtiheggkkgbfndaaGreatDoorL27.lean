/- What is wrong in a line is told whatever stands behind it; plain. -/
import Derived.Test.YtiheggkkgbfndaaGreatDoorL10
import Derived.Test.YtiheggkkgbfndaaGreatDoorL24
import Derived.Test.YtiheggkkgbfndaaGreatDoorL26
import Derived.Test.YtiheggkkgbfndaaGreatDoorL14
import Derived.Test.YtiheggkkgbfndaaGreatDoorL18
import Derived.Test.YtiheggkkgbfndaaGreatDoorL25
import Derived.Test.YtiheggkkgbfndaaGreatDoorL16
namespace Go.Proofs.YtiheggkkgbfndaaGreatDoor
open Go Go.Lib
set_option linter.unusedVariables false
set_option linter.unusedSimpArgs false
theorem sc_place (a:Nat) (p:List UInt8):∀ t ∈ (sc a p).1,a ≤ t.pos∧t.pos + t.s.length ≤ a + p.length:=by
 induction p using snoc_ind' with
 | h0=>intro t ht;cases ht
 | h1 l x ih =>
  have hl:=sc_len a l
  have hc:=(sc_bound a l).2
  rw [sc_snoc,scStep,List.length_append,List.length_singleton]
  split
  ·intro t ht
   simp only at ht
   split at ht
   ·have:=ih t ht;omega
   ·rcases List.mem_append.1 ht with h | h
    ·have:=ih t h;omega
    ·obtain rfl:=List.mem_singleton.1 h
     simp only
     omega
  ·intro t ht
   have:=ih t ht
   omega
theorem lineTok_place (l:List UInt8) (a:Nat):∀ t ∈ lineTok l a,a ≤ t.pos∧t.pos + t.s.length ≤ a + l.length:=by
 intro t ht
 have hc:(cutR l).length ≤ l.length:=List.IsPrefix.length_le (List.takeWhile_prefix _)
 have h1:=sc_place a (cutR l)
 have h2:=(sc_bound a (cutR l)).2
 have hl:=sc_len a (cutR l)
 unfold lineTok flushT at ht
 split at ht
 ·have:=h1 t ht;omega
 ·rcases List.mem_append.1 ht with h | h
  ·have:=h1 t h;omega
  ·obtain rfl:=List.mem_singleton.1 h
   simp only
   omega
def PlaceIn (l:List Tok) (p:Nat):Prop:=∃ x ∈ l,p=x.pos ∨ p=x.pos + x.s.length
theorem PlaceIn.cons {l:List Tok} {p:Nat} (x:Tok) (h:PlaceIn l p):PlaceIn (x :: l) p:=by
 obtain ⟨y,hy,h⟩:=h
 exact ⟨y,List.mem_cons_of_mem _ hy,h⟩
theorem endL_place {r:RSt} {t nm:Tok} {c:Nat} {o:Int} {rest:List Tok} {y:Nat × Nat} (h:endL r t c o nm rest=.error y):PlaceIn (t :: rest) y.2:=by
 unfold endL at h
 split at h
 ·rename_i x l
  injection h with h
  subst h
  exact ⟨x,by simp,.inl rfl⟩
 ·split at h
  ·injection h with h
   subst h
   exact ⟨t,by simp,.inl rfl⟩
  ·cases h
theorem insL_place {r:RSt} {t:Tok} {rest:List Tok} {y:Nat × Nat} (h:insL r t rest=.error y):PlaceIn (t :: rest) y.2:=by
 unfold insL at h
 split at h
 ·injection h with h
  subst h
  exact ⟨t,by simp,.inl rfl⟩
 ·split at h
  ·split at h
   ·injection h with h
    subst h
    exact ⟨t,by simp,.inr rfl⟩
   ·rename_i u rest'
    split at h
    ·injection h with h
     subst h
     exact ⟨u,by simp,.inl rfl⟩
    ·obtain ⟨x,hx,hy⟩:=endL_place h
     refine ⟨x,?_,hy⟩
     rcases List.mem_cons.1 hx with rfl | hx
     ·simp
     ·simp [hx]
  ·exact endL_place h
theorem lineL_place {r:RSt} {l:List Tok} {y:Nat × Nat} (h:lineL r l=.error y):PlaceIn l y.2:=by
 unfold lineL at h
 split at h
 ·cases h
 ·rename_i t rest
  split at h
  ·split at h
   ·injection h with h
    subst h
    exact ⟨t,by simp,.inl rfl⟩
   ·split at h
    ·injection h with h
     subst h
     exact ⟨t,by simp,.inl rfl⟩
    ·split at h
     ·cases h
     ·exact (insL_place h).cons t
  ·exact insL_place h
theorem linesL_where:∀ {ls:List (List Tok)} {r:RSt} {y:Nat × Nat},linesL r ls=.error y→∃ (j:Nat) (l:List Tok) (r':RSt),ls[j]?=some l∧linesL r (ls.take j)=.ok r'∧lineL r' l=.error y
 | [],r,y,h=>by cases h
 | l :: ls,r,y,h=>by
  rw [linesL_cons] at h
  cases hx:lineL r l with
  | error e =>
   rw [hx] at h
   injection h with h
   subst h
   exact ⟨0,l,r,rfl,rfl,hx⟩
  | ok r1 =>
   rw [hx] at h
   obtain ⟨j,l',r',h1,h2,h3⟩:=linesL_where h
   refine ⟨j + 1,l',r',by simpa using h1,?_,h3⟩
   rw [List.take_succ_cons,linesL_cons,hx]
   exact h2
theorem split_place:∀ (j:Nat) (t:List UInt8) (h:j < (splitF 10 t).length),
  fromF (splitF 10 t) j + ((splitF 10 t)[j]).length ≤ t.length ∧
  (∀ i,fromF (splitF 10 t) j ≤ i→i < fromF (splitF 10 t) j + ((splitF 10 t)[j]).length→t[i]? ≠ some 10) ∧
  (fromF (splitF 10 t) j + ((splitF 10 t)[j]).length < t.length→t[fromF (splitF 10 t) j + ((splitF 10 t)[j]).length]?=some 10) ∧
  ∀ more,splitF 10 (t.take (fromF (splitF 10 t) j + ((splitF 10 t)[j]).length) ++ 10 :: more)=(splitF 10 t).take (j + 1) ++ splitF 10 more:=by
 intro j
 induction j with
 | zero =>
  intro t h
  rcases split_cases 10 t with hm | ⟨a,b,rfl,ha⟩
  ·have e:splitF 10 t=[t]:=splitF_miss 10 t hm
   have e0:fromF (splitF 10 t) 0=0:=rfl
   have e1:(splitF 10 t)[0]=t:=by simp [e]
   rw [e0,e1,Nat.zero_add]
   refine ⟨Nat.le_refl _,fun i _ hi hh=>hm (List.mem_of_getElem? hh),fun h=>absurd h (Nat.lt_irrefl _),fun more=>?_⟩
   rw [List.take_length,splitF_hit 10 t more hm,e]
   rfl
  ·have e:splitF 10 (a ++ 10 :: b)=a :: splitF 10 b:=splitF_hit 10 a b ha
   have e0:fromF (splitF 10 (a ++ 10 :: b)) 0=0:=rfl
   have e1:(splitF 10 (a ++ 10 :: b))[0]=a:=by simp [e]
   rw [e0,e1,Nat.zero_add]
   refine ⟨by simp,fun i _ hi hh=>?_,fun _=>by simp,fun more=>?_⟩
   ·rw [List.getElem?_append_left hi] at hh
    exact ha (List.mem_of_getElem? hh)
   ·rw [List.take_left,splitF_hit 10 a more ha,e]
    rfl
 | succ j ih =>
  intro t h
  rcases split_cases 10 t with hm | ⟨a,b,rfl,ha⟩
  ·rw [splitF_miss 10 t hm] at h
   simp at h
  ·have e:splitF 10 (a ++ 10 :: b)=a :: splitF 10 b:=splitF_hit 10 a b ha
   have hb:j < (splitF 10 b).length:=by rw [e] at h;simpa using h
   obtain ⟨i1,i2,i3,i4⟩:=ih b hb
   have e0:fromF (splitF 10 (a ++ 10 :: b)) (j + 1)=a.length + 1 + fromF (splitF 10 b) j:=by
    rw [e]
    unfold fromF
    simp
   have e1:(splitF 10 (a ++ 10 :: b))[j + 1]=(splitF 10 b)[j]:=by simp [e]
   rw [e0,e1]
   obtain ⟨F,hF⟩:∃ F,F=fromF (splitF 10 b) j:=⟨_,rfl⟩
   obtain ⟨G,hG⟩:∃ G,G=((splitF 10 b)[j]).length:=⟨_,rfl⟩
   rw [← hF,← hG] at i1 i2 i3 i4 ⊢
   have hget:∀ i,a.length + 1 ≤ i→(a ++ 10 :: b)[i]?=b[i - (a.length + 1)]?:=fun i hi=>by
    rw [List.getElem?_append_right (by omega),show i - a.length=(i - (a.length + 1)) + 1 by omega,List.getElem?_cons_succ]
   refine ⟨by rw [List.length_append,List.length_cons];omega,fun i h1 h2=>?_,fun h1=>?_,fun more=>?_⟩
   ·rw [hget i (by omega)]
    exact i2 _ (by omega) (by omega)
   ·rw [hget _ (by omega),show a.length + 1 + F + G - (a.length + 1)=F + G by omega]
    exact i3 (by rw [List.length_append,List.length_cons] at h1;omega)
   ·have ht:(a ++ 10 :: b).take (a.length + 1 + F + G)=a ++ 10 :: b.take (F + G):=by
     rw [List.take_append,List.take_of_length_le (by omega),show a.length + 1 + F + G - a.length=(F + G) + 1 by omega,List.take_succ_cons]
    rw [ht,List.append_assoc,List.cons_append,splitF_hit 10 a _ ha,i4 more,e,List.take_succ_cons]
    rfl
theorem tok_in {t:List UInt8}:∀ l ∈ lineToks t,∀ x ∈ l,x.pos + x.s.length ≤ t.length:=by
 intro l hl x hx
 obtain ⟨j,hj⟩:=List.getElem?_of_mem hl
 rw [lineToks_split] at hj
 have hj':j < (splitF 10 t).length:=by
  have:=(List.getElem?_eq_some_iff.1 hj).1
  exact Nat.lt_of_lt_of_le this (toksFrom_len _ _)
 rw [toksFrom_get _ 0 j hj'] at hj
 injection hj with hj
 rw [Nat.zero_add] at hj
 have s1:=(split_place j t hj').1
 have hp:=(lineTok_place _ _ x (hj ▸ hx)).2
 omega
def NameIn (B:Nat) (r:RSt):Prop:=∀ x ∈ r.ins,x.name.pos ≤ B
theorem endL_names {B:Nat} {r r':RSt} {t nm:Tok} {c:Nat} {o:Int} {rest:List Tok} (hr:NameIn B r) (hn:nm.pos ≤ B) (h:endL r t c o nm rest=.ok r'):NameIn B r':=by
 unfold endL at h
 split at h
 ·cases h
 ·split at h
  ·cases h
  ·injection h with h
   subst h
   intro x hx
   rcases List.mem_append.1 hx with hx | hx
   ·exact hr x hx
   ·obtain rfl:=List.mem_singleton.1 hx
    exact hn
theorem insL_names {B:Nat} {r r':RSt} {t:Tok} {rest:List Tok} (hr:NameIn B r) (hl:∀ x ∈ rest,x.pos ≤ B) (h:insL r t rest=.ok r'):NameIn B r':=by
 unfold insL at h
 split at h
 ·cases h
 ·split at h
  ·split at h
   ·cases h
   ·rename_i c _ u rest'
    split at h
    ·cases h
    ·rename_i o nm ho
     refine endL_names hr ?_ h
     unfold oprL at ho
     split at ho
     ·split at ho
      ·injection ho with ho
       injection ho with _ ho
       subst ho
       exact Nat.zero_le _
      ·cases ho
     ·split at ho
      ·injection ho with ho
       injection ho with _ ho
       subst ho
       exact hl u (by simp)
      ·cases ho
  ·exact endL_names hr (Nat.zero_le _) h
theorem lineL_names {B:Nat} {r r':RSt} {l:List Tok} (hr:NameIn B r) (hl:∀ x ∈ l,x.pos ≤ B) (h:lineL r l=.ok r'):NameIn B r':=by
 unfold lineL at h
 split at h
 ·injection h with h
  subst h
  exact hr
 ·rename_i t rest
  split at h
  ·split at h
   ·cases h
   ·split at h
    ·cases h
    ·split at h
     ·injection h with h
      subst h
      exact hr
     ·rename_i u rest'
      exact insL_names (show NameIn B ⟨r.labels ++ [(t.s.dropLast,r.size)],r.ins⟩ from hr) (fun x hx=>hl x (by simp [hx])) h
  ·exact insL_names hr (fun x hx=>hl x (by simp [hx])) h
theorem linesL_names {B:Nat}:∀ {ls:List (List Tok)} {r r':RSt},NameIn B r→(∀ l ∈ ls,∀ x ∈ l,x.pos ≤ B)→linesL r ls=.ok r'→NameIn B r'
 | [],r,r',hr,_,h=>by
  injection h with h
  subst h
  exact hr
 | l :: ls,r,r',hr,hl,h=>by
  unfold linesL at h
  cases hx:lineL r l with
  | error e=>rw [hx] at h;cases h
  | ok q =>
   rw [hx] at h
   exact linesL_names (lineL_names hr (hl l (by simp)) hx) (fun y hy=>hl y (List.mem_cons_of_mem _ hy)) h
theorem resL_names {B:Nat} {ls:List (List UInt8 × Nat)}:∀ {l:List Ins} {z:Nat × Nat},(∀ x ∈ l,x.name.pos ≤ B)→resL ls l=.error z→z.2 ≤ B
 | [],z,_,h=>by cases h
 | x :: l,z,hB,h=>by
  unfold resL at h
  cases hx:resOne ls x with
  | error e =>
   rw [hx] at h
   injection h with h
   subst h
   unfold resOne at hx
   split at hx
   ·cases hx
   ·split at hx
    ·injection hx with hx
     subst hx
     exact hB x (by simp)
    ·cases hx
  | ok o =>
   rw [hx] at h
   simp only at h
   cases hl:resL ls l with
   | error e =>
    rw [hl] at h
    injection h with h
    subst h
    exact resL_names (fun y hy=>hB y (List.mem_cons_of_mem _ hy)) hl
   | ok L=>rw [hl] at h;cases h
theorem parseF_place {t:List UInt8} {y:Nat × Nat} (h:parseF t=.error y):y.2 ≤ t.length:=by
 unfold parseF at h
 cases hr:linesL ⟨[],[]⟩ (lineToks t) with
 | error e =>
  rw [hr] at h
  injection h with h
  subst h
  obtain ⟨j,l,r,h1,_,h3⟩:=linesL_where hr
  obtain ⟨x,hx,hp⟩:=lineL_place h3
  have:=tok_in l (List.mem_of_getElem? h1) x hx
  rcases hp with hp | hp <;> omega
 | ok r =>
  rw [hr] at h
  refine resL_names (linesL_names ?_ ?_ hr) h
  ·intro x hx
   cases hx
  ·intro l hl x hx
   have:=tok_in l hl x hx
   omega
theorem bodyL_text:∀ {f:Nat} {t b r:List UInt8},bodyL f t=some (b,r)→b.length + r.length < t.length
 | 0,t,b,r,h=>by cases h
 | f + 1,t,b,r,h=>by
  unfold bodyL at h
  cases hn:nextL t with
  | none=>rw [hn] at h;cases h
  | some x =>
   obtain ⟨l,r'⟩:=x
   rw [hn] at h
   simp only at h
   have h1:=(nextL_len hn).1
   have h2:t.length=l.length + (r'.length + 1):=by rw [h1,List.length_append,List.length_cons]
   split at h
   ·injection h with h
    injection h with h0 h
    subst h h0
    simp only [List.length_nil]
    omega
   ·cases hb:bodyL f r' with
    | none=>rw [hb] at h;cases h
    | some y =>
     obtain ⟨b',r''⟩:=y
     rw [hb] at h
     simp only [Option.map_some,Option.some.injEq,Prod.mk.injEq] at h
     have:=bodyL_text hb
     rw [← h.2,← h.1,List.length_append,List.length_cons]
     omega
theorem goesL_err:∀ {f pos part:Nat} {x:SSt} {t:List UInt8} {y:Nat × Nat},goesL f pos part x t=.error y→y.1 ≠ 0∧y.2 ≤ pos + t.length
 | 0,pos,part,x,t,y,h=>by cases h
 | f + 1,pos,part,x,t,y,h=>by
  unfold goesL at h
  split at h
  ·cases h
  ·cases hn:nextL t with
   | none =>
    rw [hn] at h
    injection h with h
    subst h
    exact ⟨by simp,by simp⟩
   | some z =>
    obtain ⟨l,r⟩:=z
    rw [hn] at h
    simp only at h
    have h1:=(nextL_len hn).1
    have h2:t.length=l.length + (r.length + 1):=by rw [h1,List.length_append,List.length_cons]
    split at h
    ·injection h with h
     subst h
     exact ⟨by simp,by simp⟩
    ·split at h
     ·split at h
      ·injection h with h
       subst h
       exact ⟨by simp,by simp⟩
      ·cases hb:bodyL (r.length + 1) r with
       | none =>
        rw [hb] at h
        injection h with h
        subst h
        exact ⟨by simp,by simp⟩
       | some z =>
        obtain ⟨b,r'⟩:=z
        rw [hb] at h
        simp only at h
        have h3:=bodyL_text hb
        cases hL:parseF b with
        | error e =>
         rw [hL] at h
         injection h with h
         subst h
         have e1:=parseF_err hL
         have e2:=parseF_place hL
         exact ⟨e1,by show pos + l.length + 1 + e.2 ≤ pos + t.length;omega⟩
        | ok L =>
         rw [hL] at h
         simp only at h
         obtain ⟨g1,g2⟩:=goesL_err h
         exact ⟨g1,by omega⟩
     ·cases hp:plainL x l (splitF 32 l) with
      | error e =>
       rw [hp] at h
       injection h with h
       subst h
       exact ⟨plainL_err hp,by simp⟩
      | ok x' =>
       rw [hp] at h
       simp only at h
       obtain ⟨g1,g2⟩:=goesL_err h
       exact ⟨g1,by omega⟩
theorem parseS_err {t:List UInt8} {y:Nat × Nat} (h:parseS t=.error y):y.1 ≠ 0∧y.2 ≤ t.length:=by
 unfold parseS at h
 split at h
 ·injection h with h
  subst h
  exact ⟨by simp,by show 65535 ≤ t.length;omega⟩
 ·cases hn:nextL t with
  | none =>
   rw [hn] at h
   injection h with h
   subst h
   exact ⟨by simp,Nat.zero_le _⟩
  | some z =>
   obtain ⟨l,r⟩:=z
   rw [hn] at h
   simp only at h
   have h1:=(nextL_len hn).1
   have h2:t.length=l.length + (r.length + 1):=by rw [h1,List.length_append,List.length_cons]
   cases hc:configL l with
   | none =>
    rw [hc] at h
    injection h with h
    subst h
    exact ⟨by simp,Nat.zero_le _⟩
   | some c =>
    rw [hc] at h
    simp only at h
    cases hr:goesL (r.length + 1) (l.length + 1) 1 ⟨⟨c,[],[],[]⟩,[],0⟩ r with
    | error e =>
     rw [hr] at h
     injection h with h
     subst h
     obtain ⟨g1,g2⟩:=goesL_err hr
     exact ⟨g1,by omega⟩
    | ok y =>
     rw [hr] at h
     simp only at h
     split at h
     ·cases h
     ·injection h with h
      subst h
      exact ⟨by simp,Nat.zero_le _⟩
end Go.Proofs.YtiheggkkgbfndaaGreatDoor
namespace Go.Proofs.YtiheggkkgbfndaaGreatDoor
open Go.RowKit Go.Joins Go.ChangeShapes Go.WideShapes Go.Deep
set_option linter.unusedVariables false
set_option linter.unusedSimpArgs false
set_option maxRecDepth 100000
def progR (x:SSt) (s:ByteArray) (at_ from_:Nat):Except (Nat × Nat) (SSt × Nat) :=
 if x.set.progs.length=16 then .error (2,at_) else match bodyG (s.data.toList.drop from_) with
  | none=>.error (9,s.size)
  | some (b,r)=>match parseF b with
   | .error e=>.error (e.1,from_ + e.2)
   | .ok L=>.ok ({ x with set:={ x.set with progs:=x.set.progs ++ [bytesOf L] } },s.size - r.length)
def DResP (B:Nat) (w:World) (q part:Nat) (r:Int):Except (Nat × Nat) (SSt × Nat)→Prop
 | .ok (x,n)=>r=(n:Int)∧DGood B w q part x
 | .error y=>DBad w q y.1 y.2
def DPostP (B q part:Nat) (R:Except (Nat × Nat) (SSt × Nat)) (w:World) (e:Ending) (w':World):Prop:=Below B w w'∧∃ r:Int,e=.returned (.int .i64 r)∧DResP B w' q part r R
theorem ext_snoc (s:ByteArray) (n i:Nat) (hn:n ≤ i) (hi:i < s.size) (h:s.get! i=10):(s.extract n (i + 1)).data.toList=(s.extract n i).data.toList ++ [10]:=by
 rw [ext_list,ext_list,take_snoc _ i 10 (by rw [get_list s i hi,h]),List.drop_append,List.length_take,Array.length_toList]
 congr 1
 rw [show n - min i s.data.size=0 by have:s.data.size=s.size:=rfl;omega]
 rfl
theorem ext_app (s:ByteArray) (a n i:Nat) (ha:a ≤ n) (hn:n ≤ i) (hi:i ≤ s.size):(s.extract a n).data.toList ++ (s.extract n i).data.toList=(s.extract a i).data.toList:=by
 rw [ext_list,ext_list,ext_list]
 have h1:(s.data.toList.take i)=(s.data.toList.take n) ++ (s.data.toList.take i).drop n:=by
  conv=>lhs;rw [← List.take_append_drop n (s.data.toList.take i)]
  rw [List.take_take,Nat.min_eq_left hn]
 conv=>rhs;rw [h1]
 rw [List.drop_append,List.length_take,Array.length_toList,show a - min n s.data.size=0 by have:s.data.size=s.size:=rfl;omega]
 rfl
def EndsAt (s:ByteArray) (n i:Nat):Prop:=n ≤ i∧i < s.size∧s.get! i=10∧∀ j,n ≤ j→j < i→s.get! j ≠ 10
def NoEnd (s:ByteArray) (n:Nat):Prop:=∀ j,n ≤ j→j < s.size→s.get! j ≠ 10
theorem EndsAt.det {s:ByteArray} {n i i':Nat} (h:EndsAt s n i) (h':EndsAt s n i'):i=i':=by
 rcases Nat.lt_trichotomy i i' with h1 | h1 | h1
 ·exact absurd h.2.2.1 (h'.2.2.2 i h.1 h1)
 ·exact h1
 ·exact absurd h'.2.2.1 (h.2.2.2 i' h'.1 h1)
theorem ends_or (s:ByteArray) (n:Nat):(∃ i,EndsAt s n i) ∨ NoEnd s n:=by
 by_cases h:∃ k,n + k < s.size∧s.get! (n + k)=10
 ·left
  obtain ⟨k,hk⟩:=h
  have key:∀ (m k:Nat),k ≤ m→n + k < s.size∧s.get! (n + k)=10→∃ i,EndsAt s n i:=by
   intro m
   induction m using Nat.strongRecOn with
   | ind m ih =>
    intro k hkm hk
    by_cases h2:∃ j,j < k∧s.get! (n + j)=10
    ·obtain ⟨j,hj,hj2⟩:=h2
     exact ih j (by omega) j (Nat.le_refl _) ⟨by omega,hj2⟩
    ·exact ⟨n + k,by omega,hk.1,hk.2,fun j h3 h4 h5=>h2 ⟨j - n,by omega,by rw [show n + (j - n)=j by omega];exact h5⟩⟩
  exact key k k (Nat.le_refl _) hk
 ·right
  intro j h1 h2 h3
  exact h ⟨j - n,by omega,by rw [show n + (j - n)=j by omega];exact h3⟩
theorem rline_hit {s : ByteArray} (hs : s.size ≤ 65535) {n i : Nat} (h : EndsAt s n i) (w : World) : Calls Tryz.prog 20 #[.string s, .int .i64 n] w fun e w' => w = w' ∧ e = .returned (.tuple #[.string (s.extract n i), .int .i64 ((i : Int) + 1)]) :=
 (rline_any s hs n (Nat.le_of_lt (Nat.lt_of_le_of_lt h.1 h.2.1)) w).mono fun e w' hh => ⟨hh.1, by
  rcases hh.2 with ⟨i', h1, h2, h3, h4, h5⟩ | ⟨h1, _⟩
  ·obtain rfl := h.det ⟨h1, h2, h3, h4⟩
   exact h5
  ·exact absurd h.2.2.1 (h1 i h.1 h.2.1)⟩
theorem rline_miss {s : ByteArray} (hs : s.size ≤ 65535) {n : Nat} (hn : n ≤ s.size) (h : NoEnd s n) (w : World) : Calls Tryz.prog 20 #[.string s, .int .i64 n] w fun e w' => w = w' ∧ e = .returned (.tuple #[.string ⟨#[]⟩, .int .i64 (-1)]) :=
 (rline_any s hs n hn w).mono fun e w' hh => ⟨hh.1, by
  rcases hh.2 with ⟨i', h1, h2, h3, h4, h5⟩ | ⟨_, h1⟩
  ·exact absurd h3 (h i' h1 h2)
  ·exact h1⟩
theorem line_hit {s : ByteArray} (hs : s.size ≤ 65535) {n i : Nat} (h : EndsAt s n i) (p a : Nat) (c : Cfg) (rv pv tv lv : Value) (k e pl : Nat) (w : World) (hb : Blk w p 56 (RdV s a n c rv pv tv lv k e pl)) :
  Calls Tryz.prog 42 #[.pointer (some ⟨p, 0, none⟩)] w fun r w' => r = .returned (.tuple #[.string (s.extract n i), .bool true]) ∧ Frm w w' (fun q => q = p) ∧ Blk w' p 56 (RdV s n (i + 1) c rv pv tv lv k e pl) :=
 (line_any s hs p a n c rv pv tv lv k e pl w hb (Nat.le_of_lt (Nat.lt_of_le_of_lt h.1 h.2.1))).mono fun r w' hh => by
  rcases hh.2 with ⟨i', h1, h2, h3, h4, h5, h6⟩ | ⟨h1, _⟩
  ·obtain rfl := h.det ⟨h1, h2, h3, h4⟩
   exact ⟨h5, hh.1, h6⟩
  ·exact absurd h.2.2.1 (h1 i h.1 h.2.1)
theorem line_miss {s : ByteArray} (hs : s.size ≤ 65535) {n : Nat} (hn : n ≤ s.size) (h : NoEnd s n) (p a : Nat) (c : Cfg) (rv pv tv lv : Value) (k e pl : Nat) (w : World) (hb : Blk w p 56 (RdV s a n c rv pv tv lv k e pl)) :
  Calls Tryz.prog 42 #[.pointer (some ⟨p, 0, none⟩)] w fun r w' => r = .returned (.tuple #[.string ⟨#[]⟩, .bool false]) ∧ Frm w w' (fun q => q = p) ∧ Blk w' p 56 (RdV s n n c rv pv tv lv k e pl) :=
 (line_any s hs p a n c rv pv tv lv k e pl w hb hn).mono fun r w' hh => by
  rcases hh.2 with ⟨i', h1, h2, h3, h4, h5, h6⟩ | ⟨_, h1, h2⟩
  ·exact absurd h3 (h i' h1 h2)
  ·exact ⟨h1, hh.1, h2⟩
def Body (s:ByteArray) (f n:Nat):Prop:=bodyG (s.data.toList.drop f)=(bodyG (s.data.toList.drop n)).map fun x=>((s.extract f n).data.toList ++ x.1,x.2)
theorem Body.start (s:ByteArray) (n:Nat):Body s n n:=by
 unfold Body
 have e:(s.extract n n).data.toList=[]:=by
  rw [ext_list]
  exact List.eq_nil_of_length_eq_zero (by rw [List.length_drop,List.length_take];omega)
 rw [e]
 cases bodyG (s.data.toList.drop n) <;> rfl
theorem Body.next {s:ByteArray} {f n i:Nat} (h:Body s f n) (hf:f ≤ n) (hni:n ≤ i) (hi:i < s.size) (h10:s.get! i=10) (hb:∀ j,n ≤ j→j < i→s.get! j ≠ 10) (hl:(s.extract n i).data.toList ≠ wEnd):Body s f (i + 1):=by
 unfold Body at h ⊢
 rw [h,bodyG_line (nextL_of s n i hni hi h10 hb) hl]
 have e1:(s.extract f (i + 1)).data.toList=(s.extract f n).data.toList ++ ((s.extract n i).data.toList ++ [10]):=by
  rw [← ext_snoc s n i hni hi h10,ext_app s f n (i + 1) hf (by omega) (by omega)]
 rw [e1]
 cases bodyG (s.data.toList.drop (i + 1)) with
 | none=>rfl
 | some x=>simp
theorem Body.done {s:ByteArray} {f n i:Nat} (h:Body s f n) (hni:n ≤ i) (hi:i < s.size) (h10:s.get! i=10) (hb:∀ j,n ≤ j→j < i→s.get! j ≠ 10) (hl:(s.extract n i).data.toList=wEnd):bodyG (s.data.toList.drop f)=some ((s.extract f n).data.toList,s.data.toList.drop (i + 1)):=by
 unfold Body at h
 rw [h,bodyG_end (by rw [nextL_of s n i hni hi h10 hb,hl])]
 simp
theorem Body.none_ {s:ByteArray} {f n:Nat} (h:Body s f n) (hb:∀ j,n ≤ j→j < s.size→s.get! j ≠ 10):bodyG (s.data.toList.drop f)=none:=by
 unfold Body at h
 rw [h,bodyG_none (nextL_no s n hb)]
 rfl
theorem progR_none {x:SSt} {s:ByteArray} {at_ f:Nat} (h:x.set.progs.length ≠ 16) (hb:bodyG (s.data.toList.drop f)=none):progR x s at_ f=.error (9,s.size):=by
 unfold progR
 rw [if_neg h,hb]
theorem progR_bad {x:SSt} {s:ByteArray} {at_ f:Nat} {b r:List UInt8} {y:Nat × Nat} (h:x.set.progs.length ≠ 16) (hb:bodyG (s.data.toList.drop f)=some (b,r)) (hp:parseF b=.error y):progR x s at_ f=.error (y.1,f + y.2):=by
 unfold progR
 rw [if_neg h,hb]
 simp only
 rw [hp]
theorem progR_ok {x:SSt} {s:ByteArray} {at_ f:Nat} {b r:List UInt8} {L:List AOp} (h:x.set.progs.length ≠ 16) (hb:bodyG (s.data.toList.drop f)=some (b,r)) (hp:parseF b=.ok L):progR x s at_ f=.ok ({ x with set:={ x.set with progs:=x.set.progs ++ [bytesOf L] } },s.size - r.length):=by
 unfold progR
 rw [if_neg h,hb]
 simp only
 rw [hp]
end Go.Proofs.YtiheggkkgbfndaaGreatDoor
