/- Lists in lists by their index: each in a block of its own, written over and grown; the table that holds them. -/
import Derived.Test.YtiheggkkgbfndaaGreatDoorL01
import Derived.Test.YtiheggkkgbfndaaGreatDoorL06
import Derived.Test.YtiheggkkgbfndaaGreatDoorL38
import Derived.Deep.RegionHeldLaw
import Derived.Deep.MidRow
import Derived.Great.BuildSlice
import Derived.Great.Frames
import Derived.Deep.RegionLaw
namespace Go.Proofs.YtiheggkkgbfndaaGreatDoor
open Go.RowKit Go.Joins Go.ChangeShapes Go.WideShapes Go.Deep
set_option linter.unusedVariables false
set_option linter.unusedSimpArgs false
set_option maxRecDepth 100000
def upd {ι α:Type} [DecidableEq ι] (V:ι→α) (p:ι) (v:α):ι→α:=fun i=>if i=p then v else V i
theorem upd_same {ι α:Type} [DecidableEq ι] (V:ι→α) (p:ι) (v:α):upd V p v p=v:=by simp [upd]
theorem upd_ne {ι α:Type} [DecidableEq ι] (V:ι→α) {p i:ι} (v:α) (h:i ≠ p):upd V p v i=V i:=by simp [upd,h]
structure Rowz {ι:Type} (B:Nat) (W:World) (e:TypeId) (P:ι→Prop) (V:ι→Value) (X:ι→List Int):Prop where
 own:∀ i,P i→W.ownsRow B e 1 (V i) (X i).length (rows i64C (X i))
 sep:∀ i j,P i→P j→i ≠ j→∀ q,(V i).ownBlock=some q→(V j).ownBlock ≠ some q
section
variable {ι:Type} {B:Nat} {W W':World} {e:TypeId} {P:ι→Prop} {V:ι→Value} {X:ι→List Int}
theorem Rowz.keep (h:Rowz B W e P V X) (hk:∀ i,P i→∀ b,(V i).ownBlock=some b→W'.heap[b]?=W.heap[b]?):Rowz B W' e P V X :=
 ⟨fun i hi=>own_keep (h.own i hi) (hk i hi),h.sep⟩
theorem Rowz.lt (h:Rowz B W e P V X) {i:ι} (hi:P i) {q:Nat} (hq:(V i).ownBlock=some q):B ≤ q∧q < W.heap.size:=(h.own i hi).lt q hq
theorem Rowz.blk (h:Rowz B W e P V X) {i:ι} (hi:P i) {q:Nat} (hq:(V i).ownBlock=some q):∃ cs,Blk W q e cs:=own_blk (h.own i hi) hq
theorem Rowz.other (h:Rowz B W e P V X) {b i:Nat} {t:TypeId} {cs:Array Value} (hb:Blk W b t cs) (hne:e ≠ t) (u:Value):Rowz B (W.setCell ⟨b,i,none⟩ u) e P V X :=
 h.keep fun j hj q hq=>Below.heap_setCell W ⟨b,i,none⟩ u q (fun he=>own_ne_blk (h.own j hj) hb hne (hq.trans (congrArg some he)))
theorem rows_i64_set (l:List Int) (k:Nat) (u:Int):(rows i64C l).set k (.int .i64 u)=rows i64C (l.set k u):=by
 unfold rows
 induction l generalizing k with
 | nil=>simp
 | cons a l ih =>
  cases k with
  | zero=>simp [i64C]
  | succ k =>
   have:=ih k
   simp only [List.flatMap_cons,i64C,List.cons_append,List.nil_append,List.set_cons_succ] at this ⊢
   rw [this]
theorem Rowz.store [DecidableEq ι] (h:Rowz B W e P V X) {p:ι} (hp:P p) {b n c k:Nat} (hv:V p=.slice (some ⟨b,0,none⟩) n c) (u:Int):Rowz B (W.setCell ⟨b,k,none⟩ (.int .i64 u)) e P V (upd X p ((X p).set k u)):=by
 have hob:(V p).ownBlock=some b:=by rw [hv];rfl
 refine ⟨fun i hi=>?_,h.sep⟩
 by_cases he:i=p
 ·subst he
  rw [upd_same,List.length_set]
  have h1:=h.own i hi
  rw [hv] at h1 ⊢
  have hn:n=(X i).length:=by
   rcases h1.2 with ⟨hx,_⟩ | ⟨g,cap,cur,hx,_⟩
   ·cases hx
   ·injection hx
  rw [hn] at h1 ⊢
  have h2:=(h1.stored k (.int .i64 u)).1
  rw [rows_i64_set] at h2
  exact h2
 ·rw [upd_ne X _ he]
  exact own_keep (h.own i hi) fun q hq=>Below.heap_setCell W ⟨b,k,none⟩ (.int .i64 u) q (fun hqb=>h.sep i p hi hp he q hq (by rw [hob,hqb]))
theorem Rowz.grow [DecidableEq ι] {WA:World} (h:Rowz B W e P V X) {p:ι} (hp:P p) (hA:Below W.heap.size W WA) {v':Value} {u:Int} (hg:WA.grownBy W' (V p).ownBlock) (hv:W'.ownsRow B e 1 v' ((X p).length + 1) (rows i64C (X p) ++ [Value.int .i64 u])) (hat:v'.ownBlock=(V p).ownBlock ∨ v'.ownBlock=some WA.heap.size):Rowz B W' e P (upd V p v') (upd X p (X p ++ [u])):=by
 have hold:∀ i,P i→i ≠ p→∀ q,(V i).ownBlock=some q→W'.heap[q]?=W.heap[q]?:=fun i hi hne q hq =>
  (hg.block q (Nat.lt_of_lt_of_le (h.lt hi hq).2 hA.size) (fun he=>h.sep i p hi hp hne q hq he.symm)).trans (hA.block q (h.lt hi hq).2)
 have hnew:∀ i,P i→i ≠ p→∀ q,(V i).ownBlock=some q→v'.ownBlock ≠ some q:=by
  intro i hi hne q hq hq'
  rcases hat with h1 | h1
  ·exact h.sep i p hi hp hne q hq (by rw [← h1];exact hq')
  ·rw [h1] at hq'
   injection hq' with hq'
   have:=(h.lt hi hq).2
   have:=hA.size
   omega
 refine ⟨fun i hi=>?_,fun i j hi hj hij q hq=>?_⟩
 ·by_cases he:i=p
  ·subst he
   rw [upd_same,upd_same,List.length_append,List.length_singleton,rows_snoc]
   exact hv
  ·rw [upd_ne V _ he,upd_ne X _ he]
   exact own_keep (h.own i hi) (hold i hi he)
 ·by_cases hi':i=p
  ·rw [hi',upd_same] at hq
   have hj':j ≠ p:=fun h=>hij (hi'.trans h.symm)
   rw [upd_ne V _ hj']
   exact fun hh=>hnew j hj hj' q hh hq
  ·rw [upd_ne V _ hi'] at hq
   by_cases hj':j=p
   ·rw [hj',upd_same]
    exact hnew i hi hi' q hq
   ·rw [upd_ne V _ hj']
    exact h.sep i j hi hj hij q hq
end
def Tab (W:World) (g:Nat) (t:TypeId) (n:Nat) (V:Nat→Value):Prop:=∃ cs,Blk W g t cs∧∀ i,i < n→cs[i * 2 + 1]?=some (V i)
section
variable {W W':World} {g n:Nat} {t:TypeId} {V:Nat→Value}
theorem Tab.keep (h:Tab W g t n V) (hk:W'.heap[g]?=W.heap[g]?):Tab W' g t n V:=by
 obtain ⟨cs,h1,h2⟩:=h
 exact ⟨cs,by unfold Blk at h1 ⊢;rw [hk];exact h1,h2⟩
theorem Tab.blk (h:Tab W g t n V):∃ cs,Blk W g t cs:=h.imp fun _ h=>h.1
theorem Tab.lt (h:Tab W g t n V):g < W.heap.size:=by obtain ⟨cs,h,_⟩:=h;exact h.lt
theorem Tab.cell (h:Tab W g t n V) {i:Nat} (hi:i < n):W.cell? ⟨g,i * 2 + 1,none⟩=some (V i):=by
 obtain ⟨cs,h1,h2⟩:=h
 rw [h1.cell]
 exact h2 i hi
theorem Tab.frozen (h:Tab W g t n V) (i:Nat):W.frozen? ⟨g,i,none⟩=false:=by
 obtain ⟨cs,h1,_⟩:=h
 exact h1.frozen i
theorem Tab.set (h:Tab W g t n V) (p:Nat) (v:Value):Tab (W.setCell ⟨g,p * 2 + 1,none⟩ v) g t n (upd V p v):=by
 obtain ⟨cs,h1,h2⟩:=h
 refine ⟨_,h1.set_ (p * 2 + 1) v,fun i hi=>?_⟩
 have h3:=h2 i hi
 by_cases he:i=p
 ·subst he
  rw [upd_same,Array.getElem?_setIfInBounds,if_pos rfl,if_pos (Array.getElem?_eq_some_iff.1 h3).1]
 ·rw [upd_ne V _ he,Array.getElem?_setIfInBounds,if_neg (by omega)]
  exact h3
end
def St (B:Nat) (W:World) (ts:List TypeId) (q:Nat):Prop:=B ≤ q∧∃ t ∈ ts,∃ cs,Blk W q t cs
theorem Frm.in_ {B b:Nat} {W0 W:World} {ts:List TypeId} (h:Frm W0 W (St B W0 ts)) {t:TypeId} {cs:Array Value} (hb:Blk W b t cs) (ht:t ∈ ts) (hB:B ≤ b):St B W0 ts b ∨ W0.heap.size ≤ b:=by
 by_cases hs:W0.heap.size ≤ b
 ·exact .inr hs
 ·refine .inl (Classical.byContradiction fun hn=>hn ⟨hB,t,ht,cs,?_⟩)
  have:=h.block b (by omega) hn
  unfold Blk at hb ⊢
  rw [← this]
  exact hb
theorem Frm.setS {B b i:Nat} {W0 W:World} {ts:List TypeId} (h:Frm W0 W (St B W0 ts)) {t:TypeId} {cs:Array Value} (hb:Blk W b t cs) (ht:t ∈ ts) (hB:B ≤ b) (u:Value):Frm W0 (W.setCell ⟨b,i,none⟩ u) (St B W0 ts):=h.set b i u (h.in_ hb ht hB)
theorem Frm.growS {B:Nat} {W0 W WA W':World} {ts:List TypeId} (h:Frm W0 W (St B W0 ts)) (hA:Below W.heap.size W WA) {v:Value} {n:Nat} {xs:List Value} {e:TypeId} (hv:W.ownsRow B e 1 v n xs) (he:e ∈ ts) (hg:WA.grownBy W' v.ownBlock):Frm W0 W' (St B W0 ts):=by
 have h1:Frm W0 WA (St B W0 ts):=h.trans (Frm.of_below (S:=St B W0 ts) hA) fun q hq=>.inl hq
 refine h1.grown hg fun q hq=>?_
 obtain ⟨cs,hcs⟩:=own_blk hv hq
 exact h.in_ hcs he (hv.lt q hq).1
theorem Frm.kept {B b:Nat} {W0 W:World} {ts:List TypeId} (h:Frm W0 W (St B W0 ts)) {t:TypeId} {cs:Array Value} (hb:Blk W0 b t cs) (ht:t ∉ ts):W.heap[b]?=W0.heap[b]? :=
 h.block b hb.lt fun ⟨_,t',ht',cs',hb'⟩=>(hb.ne_ hb' (fun e=>ht (e ▸ ht'))) rfl
theorem own_tab {α:Type} (enc:α→List Value) (snd:α→Value) (h2:∀ x,(enc x).length=2) (hs:∀ x,(enc x)[1]?=some (snd x)) {B:Nat} {W:World} {t:TypeId} {v:Value} {l:List α} (h:W.ownsRow B t 2 v l.length (rows enc l)) (hn:0 < l.length) (V:Nat→Value) (hV:∀ i x,l[i]?=some x→V i=snd x) :
  ∃ g c,v=.slice (some ⟨g,0,none⟩) l.length c∧B ≤ g∧Tab W g t l.length V:=by
 rcases h.2 with ⟨_,h0⟩ | ⟨g,cap,cur,rfl,hb,hh,hnc,hcm,hcs,htk⟩
 ·omega
 ·refine ⟨g,cap,rfl,hb,cur,hh,fun i hi=>?_⟩
  obtain ⟨x,hx⟩:∃ x,l[i]?=some x:=⟨_,List.getElem?_eq_getElem hi⟩
  rw [hV i x hx]
  have hx':l[i]=x:=(List.getElem?_eq_some_iff.1 hx).2
  have h1:=rows_at enc 2 h2 l i 1 hi (by omega)
  rw [hx',hs] at h1
  rw [← htk,List.getElem?_take_of_lt (by omega),Array.getElem?_toList] at h1
  exact h1
theorem kids_sep {α:Type} {B:Nat} {w:World} {e:TypeId} {k:Nat} {enc:α→List Value} {l:List (Value × List α)} (h:Kids B w e k enc l) {i j:Nat} {x y:Value × List α} (hi:l[i]?=some x) (hj:l[j]?=some y) (hij:i ≠ j):∀ q,x.1.ownBlock=some q→y.1.ownBlock ≠ some q:=by
 obtain ⟨hi1,hi2⟩:=List.getElem?_eq_some_iff.1 hi
 obtain ⟨hj1,hj2⟩:=List.getElem?_eq_some_iff.1 hj
 have hp:=List.pairwise_iff_getElem.1 h.ne
 rcases Nat.lt_or_ge i j with hlt | hge
 ·have:=hp i j hi1 hj1 hlt
  rw [hi2,hj2] at this
  exact this
 ·have:=hp j i hj1 hi1 (by omega)
  rw [hi2,hj2] at this
  exact fun q hq hq'=>this q hq' hq
theorem nat_rows (l:List Nat):rows natC l=rows i64C (l.map fun (t:Nat)=>(t:Int)):=by
 unfold rows
 rw [List.flatMap_map]
 rfl
def lineV (L:List (PLine × Value)) (i:Nat):Value:=match L[i]? with | some y=>y.2 | none=>.slice none 0 0
def lineX (L:List (PLine × Value)) (i:Nat):List Int:=match L[i]? with | some y=>y.1.thr.map fun (t:Nat)=>(t:Int) | none=>[]
theorem lines_rowz {B:Nat} {w:World} {x:SSt} {rv pv tv lv:Value} {T:List (Value × List (PJob × Value))} {L:List (PLine × Value)} (h:SetAt B w x rv pv tv lv T L):Rowz B w 3 (· < L.length) (lineV L) (lineX L):=by
 refine ⟨fun i hi=>?_,fun i j hi hj hij=>?_⟩
 ·obtain ⟨y,hy⟩:∃ y,L[i]?=some y:=⟨_,List.getElem?_eq_getElem hi⟩
  have h1:=h.steps.own (y.2,y.1.thr) (List.mem_map.2 ⟨y,List.mem_of_getElem? hy,rfl⟩)
  unfold lineV lineX
  rw [hy]
  simp only
  rw [← nat_rows,List.length_map]
  exact h1
 ·obtain ⟨y,hy⟩:∃ y,L[i]?=some y:=⟨_,List.getElem?_eq_getElem hi⟩
  obtain ⟨z,hz⟩:∃ z,L[j]?=some z:=⟨_,List.getElem?_eq_getElem hj⟩
  have h1:=kids_sep h.steps (i:=i) (j:=j) (x:=(y.2,y.1.thr)) (y:=(z.2,z.1.thr)) (by rw [List.getElem?_map,hy];rfl) (by rw [List.getElem?_map,hz];rfl) hij
  unfold lineV
  rw [hy,hz]
  exact h1
theorem lines_tab {B:Nat} {w:World} {x:SSt} {rv pv tv lv:Value} {T:List (Value × List (PJob × Value))} {L:List (PLine × Value)} (h:SetAt B w x rv pv tv lv T L) (hn:0 < L.length):∃ g c,lv=.slice (some ⟨g,0,none⟩) L.length c∧B ≤ g∧Tab w g 49 L.length (lineV L) :=
 own_tab lnC (fun y=>y.2) (fun _=>rfl) (fun _=>rfl) h.lines hn (lineV L) fun i y hy=>by unfold lineV;rw [hy]
/-! ### jobs -/
def argV (T:List (Value × List (PJob × Value))) (p:Nat × Nat):Value:=match T[p.1]? with | some t=>(match t.2[p.2]? with | some j=>j.2 | none=>.slice none 0 0) | none=>.slice none 0 0
def argX (T:List (Value × List (PJob × Value))) (p:Nat × Nat):List Int:=match T[p.1]? with | some t=>(match t.2[p.2]? with | some j=>j.1.args | none=>[]) | none=>[]
def argP (T:List (Value × List (PJob × Value))) (p:Nat × Nat):Prop:=∃ t j,T[p.1]?=some t∧t.2[p.2]?=some j
theorem args_rowz {B:Nat} {w:World} {x:SSt} {rv pv tv lv:Value} {T:List (Value × List (PJob × Value))} {L:List (PLine × Value)} (h:SetAt B w x rv pv tv lv T L):Rowz B w 2 (argP T) (argV T) (argX T):=by
 refine ⟨fun p hp=>?_,fun p p' hp hp' hpp=>?_⟩
 ·obtain ⟨t,j,ht,hj⟩:=hp
  have h1:=h.args.own (j.2,j.1.args) (List.mem_flatMap.2 ⟨t,List.mem_of_getElem? ht,List.mem_map.2 ⟨j,List.mem_of_getElem? hj,rfl⟩⟩)
  unfold argV argX
  simp only [ht,hj]
  exact h1
 ·obtain ⟨t,j,ht,hj⟩:=hp
  obtain ⟨t',j',ht',hj'⟩:=hp'
  have hv:argV T p=j.2:=by unfold argV;simp only [ht,hj]
  have hv':argV T p'=j'.2:=by unfold argV;simp only [ht',hj']
  rw [hv,hv']
  have hpw:=List.pairwise_flatMap.1 h.args.ne
  by_cases hi:p.1=p'.1
  ·have hk:p.2 ≠ p'.2:=fun hk=>hpp (Prod.ext hi hk)
   rw [← hi,ht] at ht'
   obtain rfl:=Option.some.inj ht'
   have h1:=List.pairwise_iff_getElem.1 (hpw.1 t (List.mem_of_getElem? ht))
   obtain ⟨a1,a2⟩:=List.getElem?_eq_some_iff.1 hj
   obtain ⟨b1,b2⟩:=List.getElem?_eq_some_iff.1 hj'
   rcases Nat.lt_or_ge p.2 p'.2 with hlt | hge
   ·have:=h1 p.2 p'.2 (by rw [List.length_map];exact a1) (by rw [List.length_map];exact b1) hlt
    rw [List.getElem_map,List.getElem_map,a2,b2] at this
    exact this
   ·have:=h1 p'.2 p.2 (by rw [List.length_map];exact b1) (by rw [List.length_map];exact a1) (by omega)
    rw [List.getElem_map,List.getElem_map,a2,b2] at this
    exact fun q hq hq'=>this q hq' hq
  ·have h1:=List.pairwise_iff_getElem.1 hpw.2
   obtain ⟨a1,a2⟩:=List.getElem?_eq_some_iff.1 ht
   obtain ⟨b1,b2⟩:=List.getElem?_eq_some_iff.1 ht'
   have m1:(j.2,j.1.args) ∈ t.2.map fun j=>(j.2,j.1.args):=List.mem_map.2 ⟨j,List.mem_of_getElem? hj,rfl⟩
   have m2:(j'.2,j'.1.args) ∈ t'.2.map fun j=>(j.2,j.1.args):=List.mem_map.2 ⟨j',List.mem_of_getElem? hj',rfl⟩
   rcases Nat.lt_or_ge p.1 p'.1 with hlt | hge
   ·have:=h1 p.1 p'.1 a1 b1 hlt
    rw [a2,b2] at this
    exact this _ m1 _ m2
   ·have:=h1 p'.1 p.1 b1 a1 (by omega)
    rw [a2,b2] at this
    have h2:=this _ m2 _ m1
    exact fun q hq hq'=>h2 q hq' hq
theorem jobs_tab {B:Nat} {w:World} {x:SSt} {rv pv tv lv:Value} {T:List (Value × List (PJob × Value))} {L:List (PLine × Value)} (h:SetAt B w x rv pv tv lv T L) {i:Nat} {t:Value × List (PJob × Value)} (ht:T[i]?=some t) (hn:0 < t.2.length) :
  ∃ g c,t.1=.slice (some ⟨g,0,none⟩) t.2.length c∧B ≤ g∧Tab w g 53 t.2.length fun k=>argV T (i,k) :=
 own_tab jbC (fun y=>y.2) (fun _=>rfl) (fun _=>rfl) (h.jobs.own t (List.mem_of_getElem? ht)) hn _ fun k y hy=>by unfold argV;simp only [ht,hy]
theorem jobs_sep {B:Nat} {w:World} {x:SSt} {rv pv tv lv:Value} {T:List (Value × List (PJob × Value))} {L:List (PLine × Value)} (h:SetAt B w x rv pv tv lv T L) {i i':Nat} {t t':Value × List (PJob × Value)} (ht:T[i]?=some t) (ht':T[i']?=some t') (hi:i ≠ i'):∀ q,t.1.ownBlock=some q→t'.1.ownBlock ≠ some q:=kids_sep h.jobs ht ht' hi
section
variable {P:Program} {md:Region.Mode} {ops:Array Oper} {Q:Exit→Act→World→Prop} {S:World→Prop}
theorem wp_abs {c:Code} {a:Act} {w:World} (h:∀ a',a'=a→Code.wp P c Q a' w):Code.wp P c Q a w:=h a rfl
theorem take_at (i:Nat) (d:Nat) {oi:Oper} {v:Value} {fuel:Nat} {listed:Array Bool} {a:Act} {w:World} (hi:ops[i]?=some oi) (hd:oi.dst=some d)
  (hs:Region.noSelect ops=true) (hf:Region.free md ops listed i=true) (hr:(Region.ready md ops listed).contains i=true)
  (hQ:∀ c a w,Q (.panic c) (a.put (some d) v) w→Q (.panic c) a w) (hy:YieldsIf P ops S oi v a) (hS:S w)
  (h:wpAnyH P md ops Q S fuel (listed.setIfInBounds i true) (a.put (some d) v) w):wpAnyH P md ops Q S (fuel + 1) listed a w:=by
 rw [← hd] at hQ h
 exact wpAnyH_take hi hs hf hr hQ hy hS h
theorem yi_of {o:Oper} {a:Act} {v:Value} (hg:o.guard=none) (h:∀ w,S w→(execOp a.eval o).run P w=.ok (.value v) w):YieldsIf P ops S o v a :=
 .inl ⟨by simp [Region.wanted,hg],h⟩
theorem yi_move {o:Oper} {a:Act} {v:Value} (hg:o.guard=none) (x:Operand) (ho:o.op=.move x) (hx:a.eval x=v):YieldsIf P ops S o v a :=
 yi_of hg fun w _=>by simp [execOp,ho,hx]
theorem yi_field {o:Oper} {a:Act} {b k:Nat} {fs:Array Field} {f:Field} (hg:o.guard=none) (s:TypeId) (x:Operand) (i:Nat) (ho:o.op=.fieldAddr s x i) (hx:a.eval x=.pointer (some ⟨b,k,none⟩)) (hu:P.underlying s=some (.struct fs)) (hf:fs[i]?=some f) {q:Addr} (hfp:∀ w,(fieldPlace ⟨b,k,none⟩ f).run P w=.ok q w) :
  YieldsIf P ops S o (.pointer (some q)) a :=
 yi_of hg fun w _=>by simp [execOp,ho,hx,Instr.fieldAt,Instr.sureAddr,run_underlying hu,hf,hfp]
theorem yi_load1 {o:Oper} {a:Act} {p:Addr} {v:Value} (hg:o.guard=none) (t:TypeId) (x:Operand) (ho:o.op=.load t x) (hx:a.eval x=.pointer (some p)) (h:∀ w,S w→(loadVar t p).run P w=.ok v w):YieldsIf P ops S o v a :=
 yi_of hg fun w hw=>by simp [execOp,ho,hx,Instr.loadAt,Instr.sureAddr,h w hw]
theorem step_at (i:Nat) (d:Option Tmp) (op:Op) {oi:Oper} {fuel:Nat} {listed:Array Bool} {a:Act} {w:World} (hr:Region.ready md ops listed=[i]) (hi:ops[i]?=some oi) (hg:oi.guard=none) (hd:oi.dst=d) (ho:oi.op=op)
  (h:∀ (K:Act→World→Prop) (o:Oper),o.dst=d→o.op=op→Shut (∀ a w,S w→wpAnyH P md ops Q S fuel (listed.setIfInBounds i true) a w→K a w)→Oper.wp P o a w K Q):wpAnyH P md ops Q S (fuel + 1) listed a w :=
 wpAnyH_ready hr (by simp) (AllReadyH.cons hi (fun K hK=>by
  rw [if_pos (by simp [Region.wanted,hg])]
  exact h K oi hd ho fun a w hS hW=>hK a w hS fun _=>hW) AllReadyH.nil)
theorem put_comm (a:Act) (d1 d2:Nat) (v u:Value) (h:d1 ≠ d2):(a.put (some d2) u).put (some d1) v=(a.put (some d1) v).put (some d2) u:=by
 simp only [Act.put]
 rw [Array.setIfInBounds_comm _ _ (Ne.symm h)]
theorem pair_at (i j d1 d2:Nat) (op1 op2:Op) {oi oj:Oper} {v u:Value} {fuel:Nat} {listed:Array Bool} {a:Act} {w w2:World} (hr:Region.ready md ops listed=[i,j])
  (hi:ops[i]?=some oi) (hgi:oi.guard=none) (hdi:oi.dst=some d1) (hoi:oi.op=op1) (hj:ops[j]?=some oj) (hgj:oj.guard=none) (hdj:oj.dst=some d2) (hoj:oj.op=op2)
  (hri:Region.ready md ops (listed.setIfInBounds i true)=[j]) (hrj:Region.ready md ops (listed.setIfInBounds j true)=[i]) (hij:i ≠ j) (hne:d1 ≠ d2)
  (h1:∀ (K:Act→World→Prop) (o:Oper) (a':Act) (w':World),(a'=a∧w'=w ∨ a'=a.put (some d2) u∧w'=w2)→o.dst=some d1→o.op=op1→K (a'.put o.dst v) w'→o.wp P a' w' K Q)
  (h2:∀ (K:Act→World→Prop) (o:Oper) (a':Act),(a'=a ∨ a'=a.put (some d1) v)→o.dst=some d2→o.op=op2→K (a'.put o.dst u) w2→o.wp P a' w K Q)
  (hS:S w) (hS2:S w2)
  (h:wpAnyH P md ops Q S fuel ((listed.setIfInBounds i true).setIfInBounds j true) ((a.put (some d1) v).put (some d2) u) w2):wpAnyH P md ops Q S (fuel + 2) listed a w:=by
 refine wpAnyH_ready (fuel:=fuel + 1) hr (by simp) (AllReadyH.cons hi (fun K hK=>?_) (AllReadyH.cons hj (fun K hK=>?_) AllReadyH.nil))
 ·rw [if_pos (by simp [Region.wanted,hgi])]
  refine h1 K oi a w (.inl ⟨rfl,rfl⟩) hdi hoi (hK.out _ _ hS fun _=>?_)
  rw [hdi]
  refine step_at j (some d2) op2 hri hj hgj hdj hoj fun K o hd ho hK=>h2 K o _ (.inr rfl) hd ho ?_
  rw [hd]
  exact hK.out _ _ hS2 h
 ·rw [if_pos (by simp [Region.wanted,hgj])]
  refine h2 K oj a (.inl rfl) hdj hoj (hK.out _ _ hS2 fun _=>?_)
  rw [hdj]
  refine step_at i (some d1) op1 hrj hi hgi hdi hoi fun K o hd ho hK=>h1 K o _ w2 (.inr ⟨rfl,rfl⟩) hd ho ?_
  rw [hd]
  refine hK.out _ _ hS2 ?_
  rw [put_comm _ _ _ _ _ hne,Array.setIfInBounds_comm _ _ (Ne.symm hij)]
  exact h
end
section
variable {P:Program} {Q:Exit→Act→World→Prop} {K:Act→World→Prop}
theorem wp_store1 {o:Oper} {a:Act} {w:World} {p:Addr} {v:Value} (t:TypeId) (x y:Operand) (ho:o.op=.store t x y) (hd:o.dst=none) (hx:a.eval x=.pointer (some p)) (hy:a.eval y=v)
  (hs:(storeVar t p v).run P w=.ok () (w.setCell p v)) (h:K a (w.setCell p v)):o.wp P a w K Q:=by
 unfold Oper.wp
 simp [execOp,ho,hx,hy,Instr.storeAt,Instr.sureAddr,hs,Oper.upon,hd,Act.put]
 exact h
end

theorem eval_const (a:Act) (v:Value):a.eval (.const v)=v:=rfl
section
variable {P:Program} {ops:Array Oper} {S:World→Prop}
theorem yi_index {o:Oper} {a:Act} {u z v:Value} (hg:o.guard=none) (t:TypeId) (x i:Operand) (ho:o.op=.indexAddr t x i) (hx:a.eval x=u) (hi:a.eval i=z) (hv:∀ w,(Instr.indexAt t u z).run P w=.ok v w):YieldsIf P ops S o v a :=
 yi_of hg fun w _=>by simp only [execOp,ho,hx,hi,Sem.run_bind,hv w,Sem.run_pure,Result.andThen_ok]
theorem yi_mul {o:Oper} {a:Act} {u z v:Value} {t rt:TypeId} (hg:o.guard=none) (x y:Operand) (ho:o.op=.binOp .mul t x y rt) (hx:a.eval x=u) (hy:a.eval y=z) (hv:∀ w,(binOp .mul t u z).run P w=.ok v w):YieldsIf P ops S o v a :=
 yi_of hg fun w _=>by simp only [execOp,ho,hx,hy,eqGuard,Sem.run_bind,hv w,Sem.run_pure,Result.andThen_ok];simp [hv w]
theorem yi_add {o:Oper} {a:Act} {u z v:Value} {t rt:TypeId} (hg:o.guard=none) (x y:Operand) (ho:o.op=.binOp .add t x y rt) (hx:a.eval x=u) (hy:a.eval y=z) (hv:∀ w,(binOp .add t u z).run P w=.ok v w):YieldsIf P ops S o v a :=
 yi_of hg fun w _=>by simp only [execOp,ho,hx,hy,eqGuard,Sem.run_bind,hv w,Sem.run_pure,Result.andThen_ok];simp [hv w]
end
theorem i64_fill (u:Int):Instr.fill (fun i=>some (i * 1,1)) ((Array.range (1 * 1)).map ((Value.int .i64 0).cells[· % (Value.int .i64 0).cells.size]!)) [(0,.int .i64 u)]=some #[.int .i64 u]:=by kernel_rfl
theorem wp_build_i64 {Q:Exit→Act→World→Prop} {K:Act→World→Prop} {o:Oper} {a:Act} {w:World} {u:Int} (x:Operand) (ho:o.op=.buildSlice 51 1 #[(0,x)]) (hx:a.eval x=.int .i64 u)
  (h:K (a.put o.dst (.slice (some ⟨w.heap.size,0,none⟩) 1 1)) (w.alloc (.cells #[.int .i64 u] 2))):o.wp Tryz.prog a w K Q:=by
 obtain ⟨i0,hi0,hz0,hz1,hz2⟩:=info_parts info_i64
 refine wp_buildSlice 51 2 1 #[(0,x)] ho #[.int .i64 u] i0 _ Tryz.underlying51 hi0 hz0 (by rw [hz1];decide) (by rw [hz1];decide) ?_ h
 simp only [List.map_toArray,List.map_cons,List.map_nil,hx,hz1]
 exact i64_fill u
theorem wp_load_i64s {Q:Exit→Act→World→Prop} {K:Act→World→Prop} {o:Oper} {a:Act} {w:World} {p:Addr} {v:Value} (x:Operand) (ho:o.op=.load 51 x) (hx:a.eval x=.pointer (some p)) (hc:w.cell? p=some v) (h:K (a.put o.dst v) w):o.wp Tryz.prog a w K Q:=by
 have e1:(loadVar 51 p).run Tryz.prog w=.ok v w:=by go_simp
 unfold Oper.wp
 simp only [execOp,ho,hx,Instr.loadAt,Instr.sureAddr,Sem.run_bind,Sem.run_pure,Result.andThen_ok,e1]
 exact h
theorem i64s_store {p:Addr} {w:World} {u:Value} {q:Option Addr} {n c:Nat} (h:w.cell? p=some u) (hf:w.frozen? p=false):(storeVar 51 p (.slice q n c)).run Tryz.prog w=.ok () (w.setCell p (.slice q n c)):=by
 go_simp
end Go.Proofs.YtiheggkkgbfndaaGreatDoor
