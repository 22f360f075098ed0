/- What Print leaves is one thing; carousellaw14.AsmPrints, walked. -/
import Derived.Test.YtiheggkkgbfndaaGreatDoorL25
import Derived.Test.YtiheggkkgbfndaaGreatDoorL13
import Derived.Test.YtiheggkkgbfndaaGreatDoorL16
namespace Go.Proofs.YtiheggkkgbfndaaGreatDoor
open Go.RowKit Go.Joins Go.ChangeShapes Go.WideShapes Go.Deep Go.Maps Go.Sort
set_option linter.unusedVariables false
set_option linter.unusedSimpArgs false
set_option maxRecDepth 100000
theorem Dec.at_ {s:List Nat} {L:List AOp} {p:Nat} (h:Dec s L p):∀ m,m < L.length→∃ q o k,Dec s (L.take m) q∧q < s.length∧atF s q=some (o,k)∧Dec s (L.take (m + 1)) (q + k):=by
 induction h with
 | nil=>intro m hm;simp at hm
 | @snoc L p o k h1 h2 h3 ih =>
  intro m hm
  by_cases hl:m < L.length
  ·obtain ⟨q,o',k',d1,d2,d3,d4⟩:=ih m hl
   exact ⟨q,o',k',by rw [List.take_append_of_le_length (by omega)];exact d1,d2,d3,by rw [List.take_append_of_le_length (by omega)];exact d4⟩
  ·have hm':m=L.length:=by simp at hm;omega
   subst hm'
   exact ⟨p,o,k,by rw [List.take_left];exact h1,h2,h3,by rw [List.take_of_length_le (by simp)];exact h1.snoc h2 h3⟩
theorem Dec.same {s:List Nat}:∀ (n:Nat) {L L':List AOp} {p p':Nat},Dec s L p→Dec s L' p'→L.length=n→L'.length=n→L=L'∧p=p'
 | 0,L,L',p,p',h,h',e,e'=>by
  cases h with
  | nil =>
   cases h' with
   | nil=>exact ⟨rfl,rfl⟩
   | snoc=>simp at e'
  | snoc=>simp at e
 | n + 1,L,L',p,p',h,h',e,e'=>by
  cases h with
  | nil=>simp at e
  | @snoc K q o k h1 h2 h3 =>
   cases h' with
   | nil=>simp at e'
   | @snoc K' q' o' k' g1 g2 g3 =>
    obtain ⟨rfl,rfl⟩:=Dec.same n h1 g1 (by simpa using e) (by simpa using e')
    rw [h3] at g3
    injection g3 with g3
    injection g3 with g3 g4
    subst g3 g4
    exact ⟨rfl,rfl⟩
theorem Dec.end_ {s:List Nat} {L L':List AOp} {p p':Nat} (h:Dec s L p) (h':Dec s L' p') (he:s.length ≤ p ∨ atF s p=none):L'.length ≤ L.length:=by
 by_cases hl:L'.length ≤ L.length
 ·exact hl
 ·obtain ⟨q,o,k,d1,d2,d3,_⟩:=h'.at_ L.length (by omega)
  obtain ⟨_,rfl⟩:=Dec.same L.length h d1 rfl (by rw [List.length_take];omega)
  rcases he with he | he
  ·omega
  ·rw [he] at d3
   cases d3
theorem Dec.det {s:List Nat} {L L':List AOp} {p p':Nat} (h:Dec s L p) (h':Dec s L' p') (he:s.length ≤ p ∨ atF s p=none) (he':s.length ≤ p' ∨ atF s p'=none):L=L'∧p=p':=by
 have h1:=h.end_ h' he
 have h2:=h'.end_ h he'
 exact Dec.same L.length h h' rfl (by omega)
end Go.Proofs.YtiheggkkgbfndaaGreatDoor
namespace Go.Proofs.YtiheggkkgbfndaaGreatDoor
open Go.RowKit Go.Joins Go.ChangeShapes Go.WideShapes Go.Deep
set_option linter.unusedVariables false
set_option linter.unusedSimpArgs false
set_option maxRecDepth 100000
theorem print_len {L:List AOp} (hL:Enc L) (hs:sizeF L ≤ 512) (hn:L.length ≤ 512):(printF L).length ≤ 100000:=by
 have h1:=lines_len L L.length (fun o ho=>(hL o ho).2.2) hs
 have h2:(labF L (sizeF L)).length ≤ 40:=by
  unfold labF
  split
  ·have:=itoa_len (sizeF L:Int) ⟨by omega,by omega⟩
   simp [labelB]
   omega
  ·simp
 unfold printF
 rw [List.length_append]
 omega
theorem toNat_map_inj {a b:List UInt8} (h:a.map UInt8.toNat=b.map UInt8.toNat):a=b:=by
 induction a generalizing b with
 | nil=>cases b with
  | nil=>rfl
  | cons x r=>cases h
 | cons x r ih =>
  cases b with
  | nil=>cases h
  | cons y t =>
   simp only [List.map_cons,List.cons.injEq] at h
   rw [UInt8.toNat_inj.1 h.1,ih h.2]
theorem dec_back {s:ByteArray} {L:List AOp} (h:Dec (bytesL s) L s.size) (h5:s.size ≤ 512):Enc L∧sizeF L=s.size∧bytesOf L=s.data.toList∧L.length ≤ 512:=by
 have hg:=h.good
 have hi:=dec_i64 h
 refine ⟨fun o ho=>⟨(hg o ho).1,(hg o ho).2,hi o ho⟩,h.size.symm,?_,by have:=h.le;omega⟩
 have hb:=h.bytes (fun b hb=>by
  obtain ⟨c,_,rfl⟩:=List.mem_map.1 hb
  have:=c.toNat_lt
  omega)
 rw [List.take_of_length_le (by rw [bytesL_length];exact Nat.le_refl _)] at hb
 exact toNat_map_inj hb
def GoodI (r:RSt):Prop:=∀ x ∈ r.ins,i64ok0 x.operand
theorem GoodI.endL {r r':RSt} {t nm:Tok} {c:Nat} {o:Int} {rest:List Tok} (hr:GoodI r) (h:endL r t c o nm rest=.ok r') (ho:i64ok0 o):GoodI r':=by
 cases rest with
 | cons x l=>cases h
 | nil =>
  unfold Proofs.YtiheggkkgbfndaaGreatDoor.endL at h
  simp only at h
  split at h
  ·cases h
  ·injection h with h
   subst h
   intro x hx
   rcases List.mem_append.1 hx with hx | hx
   ·exact hr x hx
   ·obtain rfl:=List.mem_singleton.1 hx
    exact ho
theorem i64_zero:i64ok0 0:=by unfold i64ok0;omega
theorem GoodI.insL {r r':RSt} {t:Tok} {rest:List Tok} (hr:GoodI r) (h:insL r t rest=.ok r'):GoodI r':=by
 unfold Proofs.YtiheggkkgbfndaaGreatDoor.insL at h
 split at h
 ·cases h
 ·split at h
  ·split at h
   ·cases h
   ·split at h
    ·cases h
    ·rename_i o nm ho
     refine hr.endL h ?_
     unfold oprL at ho
     split at ho
     ·rename_i v hv
      split at ho
      ·injection ho with ho
       injection ho with h1 h2
       subst h1
       exact (numF_some.1 hv).1
      ·cases ho
     ·split at ho
      ·injection ho with ho
       injection ho with h1 h2
       subst h1
       exact i64_zero
      ·cases ho
  ·exact hr.endL h i64_zero
theorem GoodI.lineL {r r':RSt} {l:List Tok} (hr:GoodI r) (h:lineL r l=.ok r'):GoodI r':=by
 unfold Proofs.YtiheggkkgbfndaaGreatDoor.lineL at h
 split at h
 ·injection h with h;subst h;exact hr
 ·rename_i t rest
  have hlab:GoodI ⟨r.labels ++ [(t.s.dropLast,r.size)],r.ins⟩:=hr
  split at h
  ·split at h
   ·cases h
   ·split at h
    ·cases h
    ·split at h
     ·injection h with h;subst h;exact hlab
     ·exact hlab.insL h
  ·exact hr.insL h
theorem GoodI.linesL:∀ {ls:List (List Tok)} {r r':RSt},GoodI r→linesL r ls=.ok r'→GoodI r'
 | [],r,r',hr,h=>by injection h with h;subst h;exact hr
 | l :: ls,r,r',hr,h=>by
  rw [linesL_cons] at h
  cases hx:Proofs.YtiheggkkgbfndaaGreatDoor.lineL r l with
  | error e=>rw [hx] at h;cases h
  | ok r1 =>
   rw [hx] at h
   exact GoodI.linesL (hr.lineL hx) h
theorem GoodI.start:GoodI ⟨[],[]⟩:=fun x hx=>(by cases hx)
theorem resOne_i64 {r:RSt} (hr:Good r) (hi:GoodI r) {x:Ins} (hx:x ∈ r.ins) {o:AOp} (h:resOne r.labels x=.ok o):i64ok0 o.operand:=by
 unfold resOne at h
 split at h
 ·injection h with h
  subst h
  exact hi x hx
 ·split at h
  ·cases h
  ·rename_i k hk
   have hk5:=labF2_le hr hk
   have hp:=(hr.ins x hx).2.1
   injection h with h
   subst h
   simp only
   unfold i64ok0
   split <;> omega
theorem resL_i64 {r:RSt} (hr:Good r) (hi:GoodI r):∀ (l:List Ins) (L:List AOp),(∀ x ∈ l,x ∈ r.ins)→resL r.labels l=.ok L→∀ o ∈ L,i64ok0 o.operand
 | [],L,hm,h=>by
  injection h with h
  subst h
  exact fun o ho=>(by cases ho)
 | x :: l,L,hm,h=>by
  simp only [resL] at h
  cases hx:resOne r.labels x with
  | error e=>rw [hx] at h;cases h
  | ok o =>
   rw [hx] at h
   simp only at h
   cases hl:resL r.labels l with
   | error e=>rw [hl] at h;cases h
   | ok L1 =>
    rw [hl] at h
    injection h with h
    subst h
    intro o' ho
    rcases List.mem_cons.1 ho with rfl | ho
    ·exact resOne_i64 hr hi (hm x (List.mem_cons_self ..)) hx
    ·exact resL_i64 hr hi l L1 (fun y hy=>hm y (List.mem_cons_of_mem _ hy)) hl o' ho
theorem parse_enc {t:List UInt8} {L:List AOp} (h:parseF t=.ok L):Enc L∧(bytesOf L).length ≤ 512∧L.length ≤ 512:=by
 unfold parseF at h
 cases hr:linesL ⟨[],[]⟩ (lineToks t) with
 | error e=>rw [hr] at h;cases h
 | ok r =>
  rw [hr] at h
  have hG:=Good.start.linesL hr
  have h1:=resL_good hG r.ins L (fun _ hx=>hx) h
  have h2:=resL_i64 hG (GoodI.start.linesL hr) r.ins L (fun _ hx=>hx) h
  have h3:=resL_size hG h
  refine ⟨fun o ho=>⟨(h1.1 o ho).1,(h1.1 o ho).2,h2 o ho⟩,by rw [h3];exact hG.size,?_⟩
  have h4:=bytesOf_size L
  have h5:L.length ≤ sizeF L:=by
   unfold sizeF
   have:∀ l:List AOp,l.length ≤ (l.map fun o=>1 + widthF (shapeF o.code)).sum:=by
    intro l
    induction l with
    | nil=>exact Nat.le_refl _
    | cons x l ih=>rw [List.map_cons,List.sum_cons,List.length_cons];omega
   exact this L
  have:=hG.size
  omega
theorem linesL_err:∀ {ls:List (List Tok)} {r:RSt} {y:Nat × Nat},linesL r ls=.error y→y.1 ≠ 0
 | [],r,y,h=>by cases h
 | l :: ls,r,y,h=>by
  rw [linesL_cons] at h
  cases hx:lineL r l with
  | error e =>
   rw [hx] at h
   injection h with h
   subst h
   rcases lineL_err hx with h | h | h | h <;> omega
  | ok r' =>
   rw [hx] at h
   exact linesL_err h
theorem resL_err {ls:List (List UInt8 × Nat)}:∀ {l:List Ins} {y:Nat × Nat},resL ls l=.error y→y.1=11
 | [],y,h=>by cases h
 | x :: l,y,h=>by
  simp only [resL] at h
  cases hx:resOne ls x with
  | error e =>
   rw [hx] at h
   injection h with h
   subst h
   unfold resOne at hx
   split at hx
   ·cases hx
   ·split at hx
    ·injection hx with hx;subst hx;rfl
    ·cases hx
  | ok o =>
   rw [hx] at h
   simp only at h
   cases hl:resL ls l with
   | error e =>
    rw [hl] at h
    injection h with h
    subst h
    exact resL_err hl
   | ok L=>rw [hl] at h;cases h
theorem parseF_err {t:List UInt8} {y:Nat × Nat} (h:parseF t=.error y):y.1 ≠ 0:=by
 unfold parseF at h
 cases hr:linesL ⟨[],[]⟩ (lineToks t) with
 | error e =>
  rw [hr] at h
  injection h with h
  subst h
  exact linesL_err hr
 | ok r =>
  rw [hr] at h
  have:=resL_err h
  omega
end Go.Proofs.YtiheggkkgbfndaaGreatDoor
namespace Go.Proofs.YtiheggkkgbfndaaGreatDoor
open Go Go.Lib
set_option linter.unusedVariables false
set_option linter.unusedSimpArgs false
theorem numIn_ok {s:List UInt8} {lo hi v:Int} (h:numIn s lo hi=some v):lo ≤ v∧v ≤ hi∧i64ok0 v∧s=itoa v:=by
 unfold numIn at h
 cases hn:numF s with
 | none=>rw [hn] at h;cases h
 | some n =>
  rw [hn] at h
  simp only at h
  split at h
  ·rename_i hc
   injection h with h
   subst h
   have:=numF_some.1 hn
   exact ⟨hc.1,hc.2,this.1,this.2⟩
  ·cases h
structure ReadOk (x:SSt):Prop where
 thr:x.set.thr.length ≤ 8
 progs:∃ ps:List (List AOp),x.set.progs=ps.map bytesOf∧ps.length ≤ 16∧∀ L ∈ ps,Enc L∧sizeF L ≤ 512
 jobs:∀ t ∈ x.set.thr,t.length ≤ 32∧∀ j ∈ t,jobOk x.set.progs.length j
 lines:∀ p ∈ x.lines,lineOk p
 steps:stepsN x.lines=x.steps∧x.steps ≤ 20000
theorem argsL_ok:∀ {l:List (List UInt8)} {r:List Int},argsL l=some r→∀ v ∈ r,i64I v
 | [],r,h=>by
  injection h with h
  subst h
  intro v hv
  cases hv
 | s :: l,r,h=>by
  unfold argsL at h
  cases hn:numIn s minI maxI with
  | none=>rw [hn] at h;cases h
  | some n =>
   cases ha:argsL l with
   | none=>rw [hn,ha] at h;cases h
   | some q =>
    rw [hn,ha] at h
    injection h with h
    subst h
    obtain ⟨h1,h2,_⟩:=numIn_ok hn
    intro v hv
    rcases List.mem_cons.1 hv with e | e
    ·subst e;exact ⟨h1,h2⟩
    ·exact argsL_ok ha v e
theorem stepsN_app (l:List PLine) (p:PLine):stepsN (l ++ [p])=stepsN l + p.thr.length:=by
 unfold stepsN
 rw [List.map_append,List.sum_append]
 simp
theorem spread_len:∀ l:List (Nat × Nat),(spread l).length=manyF l
 | []=>rfl
 | x :: l=>by
  have h:=spread_len l
  unfold spread manyF at h ⊢
  rw [List.flatMap_cons,List.length_append,h,List.length_replicate,List.map_cons,List.sum_cons]
theorem itemL_ok {s:List UInt8} {x:Nat × Nat} (h:itemL s=some x):x.1 ≤ 99∧1 ≤ x.2∧x.2 ≤ 20000:=by
 unfold itemL at h
 split at h
 ·cases hn:numIn s 0 99 with
  | none=>rw [hn] at h;cases h
  | some n =>
   rw [hn] at h
   injection h with h
   subst h
   obtain ⟨h1,h2,_⟩:=numIn_ok hn
   exact ⟨by show n.toNat ≤ 99;omega,Nat.le_refl _,by show 1 ≤ 20000;omega⟩
 ·rename_i a b _
  cases hn:numIn a 0 99 with
  | none=>rw [hn] at h;cases h
  | some n =>
   cases hk:numIn b 2 20000 with
   | none=>rw [hn,hk] at h;cases h
   | some k =>
    rw [hn,hk] at h
    injection h with h
    subst h
    obtain ⟨h1,h2,_⟩:=numIn_ok hn
    obtain ⟨h3,h4,_⟩:=numIn_ok hk
    exact ⟨by show n.toNat ≤ 99;omega,by show 1 ≤ k.toNat;omega,by show k.toNat ≤ 20000;omega⟩
theorem itemsL_ok:∀ {l:List (List UInt8)} {r:List (Nat × Nat)},itemsL l=some r→(∀ x ∈ r,x.1 ≤ 99∧1 ≤ x.2∧x.2 ≤ 20000)∧r.length=l.length
 | [],r,h=>by
  injection h with h
  subst h
  exact ⟨fun v hv=>(by cases hv),rfl⟩
 | s :: l,r,h=>by
  unfold itemsL at h
  cases hn:itemL s with
  | none=>rw [hn] at h;cases h
  | some n =>
   cases ha:itemsL l with
   | none=>rw [hn,ha] at h;cases h
   | some q =>
    rw [hn,ha] at h
    injection h with h
    subst h
    obtain ⟨g1,g2⟩:=itemsL_ok ha
    refine ⟨fun v hv=>?_,by rw [List.length_cons,List.length_cons,g2]⟩
    rcases List.mem_cons.1 hv with e | e
    ·subst e;exact itemL_ok hn
    ·exact g1 v e
theorem spread_mem {l:List (Nat × Nat)} (h:∀ x ∈ l,x.1 ≤ 99∧1 ≤ x.2∧x.2 ≤ 20000):∀ t ∈ spread l,t ≤ 99:=by
 intro t ht
 obtain ⟨x,hx,ht⟩:=List.mem_flatMap.1 ht
 have:=List.eq_of_mem_replicate ht
 rw [this]
 exact (h x hx).1
theorem manyF_pos {l:List (Nat × Nat)} (h:∀ x ∈ l,x.1 ≤ 99∧1 ≤ x.2∧x.2 ≤ 20000) (hl:0 < l.length):0 < manyF l:=by
 cases l with
 | nil=>cases hl
 | cons x l =>
  have:=(h x (by simp)).2.1
  unfold manyF
  rw [List.map_cons,List.sum_cons]
  omega
theorem lookF_ok {l:List UInt8} {k:Nat} (h:lookF l=some k):2 ≤ k∧k ≤ 7:=by
 unfold lookF at h
 cases hf:(List.range 6).find? fun i=>looksL.getD i [] == l with
 | none=>rw [hf] at h;cases h
 | some i =>
  rw [hf] at h
  injection h with h
  have h:i + 2=k:=h
  have:=List.mem_range.1 (List.mem_of_find?_eq_some hf)
  omega
theorem addJob_ok {n:Nat} {thr:List (List PJob)} {j:PJob} (h8:thr.length ≤ 8) (h:∀ t ∈ thr,t.length ≤ 32∧∀ j ∈ t,jobOk n j) (hne:thr.isEmpty=false) (hl:(thr.getLast?.getD []).length ≠ 32) (hj:jobOk n j) :
  (addJob thr j).length ≤ 8∧∀ t ∈ addJob thr j,t.length ≤ 32∧∀ j ∈ t,jobOk n j:=by
 obtain ⟨T,d,rfl⟩:∃ T d,thr=T ++ [d]:=by
  have hn:thr ≠ []:=by intro e;subst e;cases hne
  exact ⟨thr.dropLast,thr.getLast hn,(List.dropLast_concat_getLast hn).symm⟩
 unfold addJob
 simp only [List.getLast?_append,List.getLast?_singleton,Option.some_or,Option.getD_some,List.dropLast_concat] at hl ⊢
 obtain ⟨g1,g2⟩:=h d (by simp)
 refine ⟨by simpa using h8,?_⟩
 intro t ht
 rcases List.mem_append.1 ht with ht | ht
 ·exact h t (by simp [ht])
 ·obtain rfl:=List.mem_singleton.1 ht
  refine ⟨by rw [List.length_append,List.length_singleton];omega,fun k hk=>?_⟩
  rcases List.mem_append.1 hk with hk | hk
  ·exact g2 k hk
  ·obtain rfl:=List.mem_singleton.1 hk
   exact hj
theorem jobL_ok {s s':PSet} {w:List (List UInt8)} (h:jobL s w=.ok s') (hs:∀ t ∈ s.thr,t.length ≤ 32∧∀ j ∈ t,jobOk s.progs.length j) (h8:s.thr.length ≤ 8):s'.progs=s.progs∧s'.cfg=s.cfg∧s'.regs=s.regs∧s'.thr.length ≤ 8∧∀ t ∈ s'.thr,t.length ≤ 32∧∀ j ∈ t,jobOk s.progs.length j:=by
 unfold jobL at h
 split at h
 ·rename_i p rs
  split at h
  ·cases h
  ·rename_i hne
   cases hn:numIn p 0 maxI with
   | none=>rw [hn] at h;cases h
   | some n =>
    cases ha:argsL rs with
    | none=>rw [hn,ha] at h;cases h
    | some args =>
     rw [hn,ha] at h
     simp only at h
     split at h
     ·cases h
     ·rename_i hc
      split at h
      ·cases h
      ·rename_i hc2
       injection h with h
       subst h
       obtain ⟨n1,_⟩:=numIn_ok hn
       have hj:jobOk s.progs.length ⟨n.toNat,args⟩:=⟨by show n.toNat < _;omega,by show args.length ≤ 4;omega,argsL_ok ha⟩
       obtain ⟨g1,g2⟩:=addJob_ok h8 hs (by simpa using hne) (by omega) hj
       exact ⟨rfl,rfl,rfl,g1,g2⟩
 ·cases h
theorem plainL_ok {x x':SSt} {l:List UInt8} {w:List (List UInt8)} (hx:ReadOk x) (h:plainL x l w=.ok x'):ReadOk x'∧x'.set.cfg=x.set.cfg:=by
 obtain ⟨a1,⟨ps,a2,a3,a4⟩,a5,a6,a7,a8⟩:=hx
 unfold plainL at h
 split at h
 ·split at h
  ·injection h with h
   subst h
   exact ⟨⟨a1,⟨ps,a2,a3,a4⟩,a5,a6,a7,a8⟩,rfl⟩
  ·cases h
 ·split at h
  ·split at h
   ·cases h
   ·rename_i hc
    injection h with h
    subst h
    refine ⟨⟨?_,⟨ps,a2,a3,a4⟩,?_,a6,a7,a8⟩,rfl⟩
    ·show (x.set.thr ++ [[]]).length ≤ 8
     rw [List.length_append,List.length_singleton]
     omega
    ·intro t ht
     rcases List.mem_append.1 ht with ht | ht
     ·exact a5 t ht
     ·obtain rfl:=List.mem_singleton.1 ht
      exact ⟨by simp,fun j hj=>by cases hj⟩
  ·split at h
   ·cases hj:jobL x.set w with
    | error e=>rw [hj] at h;cases h
    | ok s' =>
     rw [hj] at h
     injection h with h
     subst h
     obtain ⟨g1,g2,g3,g4,g5⟩:=jobL_ok hj a5 a1
     refine ⟨⟨g4,⟨ps,g1.trans a2,a3,a4⟩,?_,a6,a7,a8⟩,g2⟩
     show ∀ t ∈ s'.thr,t.length ≤ 32∧∀ j ∈ t,jobOk s'.progs.length j
     rw [g1]
     exact g5
   ·split at h
    ·rcases w with _ | ⟨wa,_ | ⟨i,is⟩⟩
     ·cases h
     ·cases h
     ·unfold runL at h
      simp only at h
      cases hi:itemsL (i :: is) with
      | none=>rw [hi] at h;cases h
      | some r =>
       rw [hi] at h
       simp only at h
       split at h
       ·cases h
       ·rename_i hc
        injection h with h
        subst h
        obtain ⟨g1,g2⟩:=itemsL_ok hi
        have hp:=manyF_pos g1 (by rw [g2];simp)
        have hsl:=spread_len r
        refine ⟨⟨a1,⟨ps,a2,a3,a4⟩,a5,?_,?_,by show x.steps + manyF r ≤ 20000;omega⟩,rfl⟩
        ·intro p hp'
         rcases List.mem_append.1 hp' with hp' | hp'
         ·exact a6 p hp'
         ·obtain rfl:=List.mem_singleton.1 hp'
          refine .inl ⟨rfl,?_,spread_mem g1⟩
          intro e
          have e:spread r=[]:=e
          rw [e] at hsl
          simp at hsl
          omega
        ·show stepsN (x.lines ++ [⟨1,spread r⟩])=x.steps + manyF r
         rw [stepsN_app,a7,hsl]
    ·cases hk:lookF l with
     | none=>rw [hk] at h;cases h
     | some k =>
      rw [hk] at h
      injection h with h
      subst h
      obtain ⟨k1,k2⟩:=lookF_ok hk
      refine ⟨⟨a1,⟨ps,a2,a3,a4⟩,a5,?_,?_,a8⟩,rfl⟩
      ·intro p hp'
       rcases List.mem_append.1 hp' with hp' | hp'
       ·exact a6 p hp'
       ·obtain rfl:=List.mem_singleton.1 hp'
        exact .inr ⟨k1,k2,rfl⟩
      ·show stepsN (x.lines ++ [⟨k,[]⟩])=x.steps
       rw [stepsN_app,a7]
       rfl
theorem jobOk_mono {n m:Nat} {j:PJob} (h:jobOk n j) (hm:n ≤ m):jobOk m j:=⟨Nat.lt_of_lt_of_le h.1 hm,h.2⟩
theorem goesL_ok:∀ {f pos part:Nat} {x y:SSt} {t:List UInt8},goesL f pos part x t=.ok y→ReadOk x→ReadOk y∧y.set.cfg=x.set.cfg
 | 0,pos,part,x,y,t,h,hx=>by
  injection h with h
  subst h
  exact ⟨hx,rfl⟩
 | f + 1,pos,part,x,y,t,h,hx=>by
  unfold goesL at h
  split at h
  ·injection h with h
   subst h
   exact ⟨hx,rfl⟩
  ·cases hn:nextL t with
   | none=>rw [hn] at h;cases h
   | some z =>
    obtain ⟨l,r⟩:=z
    rw [hn] at h
    simp only at h
    split at h
    ·cases h
    ·split at h
     ·split at h
      ·cases h
      ·rename_i hc
       cases hb:bodyL (r.length + 1) r with
       | none=>rw [hb] at h;cases h
       | some z =>
        obtain ⟨b,r'⟩:=z
        rw [hb] at h
        simp only at h
        cases hL:parseF b with
        | error e=>rw [hL] at h;cases h
        | ok L =>
         rw [hL] at h
         simp only at h
         obtain ⟨e1,e2,e3⟩:=parse_enc hL
         obtain ⟨a1,⟨ps,a2,a3,a4⟩,a5,a6,a7⟩:=hx
         have hpl:x.set.progs.length=ps.length:=by rw [a2,List.length_map]
         have hsz:sizeF L ≤ 512:=by rw [← bytesOf_size];exact e2
         obtain ⟨g1,g2⟩:=goesL_ok h ⟨a1,⟨ps ++ [L],by show x.set.progs ++ [bytesOf L]=_;rw [a2,List.map_append];rfl,by rw [List.length_append,List.length_singleton];omega,fun M hM=>by
          rcases List.mem_append.1 hM with hM | hM
          ·exact a4 M hM
          ·obtain rfl:=List.mem_singleton.1 hM
           exact ⟨e1,hsz⟩⟩,fun t ht=>⟨(a5 t ht).1,fun j hj=>jobOk_mono ((a5 t ht).2 j hj) (by show x.set.progs.length ≤ (x.set.progs ++ [bytesOf L]).length;rw [List.length_append];omega)⟩,a6,a7⟩
         exact ⟨g1,g2⟩
     ·cases hp:plainL x l (splitF 32 l) with
      | error e=>rw [hp] at h;cases h
      | ok x' =>
       rw [hp] at h
       simp only at h
       obtain ⟨g1,g2⟩:=plainL_ok hx hp
       obtain ⟨g3,g4⟩:=goesL_ok h g1
       exact ⟨g3,g4.trans g2⟩
theorem parseS_ok {t:List UInt8} {x:SSt} (h:parseS t=.ok x):∃ ps,SetOk x.set ps x.lines∧x.steps=stepsN x.lines:=by
 unfold parseS at h
 split at h
 ·cases h
 ·cases hn:nextL t with
  | none=>rw [hn] at h;cases h
  | some z =>
   obtain ⟨l,r⟩:=z
   rw [hn] at h
   simp only at h
   cases hc:configL l with
   | none=>rw [hc] at h;cases h
   | some c =>
    rw [hc] at h
    simp only at h
    cases hr:goesL (r.length + 1) (l.length + 1) 1 ⟨⟨c,[],[],[]⟩,[],0⟩ r with
    | error e=>rw [hr] at h;cases h
    | ok y =>
     rw [hr] at h
     simp only at h
     split at h
     ·rename_i hcf
      injection h with h
      subst h
      obtain ⟨⟨a1,⟨ps,a2,a3,a4⟩,a5,a6,a7,a8⟩,_⟩:=goesL_ok hr ⟨by simp,⟨[],rfl,by simp,fun L hL=>(by cases hL)⟩,fun t ht=>(by cases ht),fun p hp=>(by cases hp),⟨rfl,by simp⟩⟩
      exact ⟨ps,⟨hcf,a1,a2,a3,a4,a5,a6,by rw [a7];exact a8⟩,a7.symm⟩
     ·cases h
/-! ### errors -/
theorem jobL_err {s:PSet} {w:List (List UInt8)} {e:Nat} (h:jobL s w=.error e):e ≠ 0:=by
 unfold jobL at h
 repeat' split at h
 all_goals first
  | (injection h with h;omega)
  | cases h
theorem runL_err {x:SSt} {w:List (List UInt8)} {e:Nat} (h:runL x w=.error e):e ≠ 0:=by
 unfold runL at h
 repeat' split at h
 all_goals first
  | (injection h with h;omega)
  | cases h
theorem plainL_err {x:SSt} {l:List UInt8} {w:List (List UInt8)} {e:Nat} (h:plainL x l w=.error e):e ≠ 0:=by
 unfold plainL at h
 split at h
 ·split at h
  ·cases h
  ·injection h with h;omega
 ·split at h
  ·split at h
   ·injection h with h;omega
   ·cases h
  ·split at h
   ·cases hj:jobL x.set w with
    | error e' =>
     rw [hj] at h
     injection h with h
     subst h
     exact jobL_err hj
    | ok s'=>rw [hj] at h;cases h
   ·split at h
    ·exact runL_err h
    ·split at h
     ·cases h
     ·injection h with h;omega
end Go.Proofs.YtiheggkkgbfndaaGreatDoor
