/- Small lemmas that the claims of this seat share: a slice that reads as a list, a block known whole, frames where one block alone has turned, structs by value opened. They state nothing of the program. Begun from the blocks that the kit's pages extra-words, extra-structs and extra-small lay for copying. -/
import Derived.Test.YtiheggkkgbfndaaGreatDoorRows
import Derived.WalkKit
import Derived.ProofKit
import Derived.OpenShut
import Derived.Laws.OwnMore
import Derived.Deep.AppendLies
import Derived.Deep.Draws
import Derived.Laws.Rows
import Derived.Maps.AppendAt
import Derived.RegionTactic
import Derived.OwnWalk
import Derived.Deep.OwnRows
import Derived.Laws.AppendOwn
import Derived.Deep.Slices
import Derived.Deep.Fields
import Derived.ChangeSame
import Derived.Lib.SmallJoins
import Derived.Lib.Hide
namespace Go.Proofs.YtiheggkkgbfndaaGreatDoor
open Go.RowKit Go.Joins Go.ChangeShapes Go.WideShapes Go.Deep
set_option linter.unusedVariables false
set_option linter.unusedSimpArgs false
theorem block_of_add (a:Addr) (n:Nat):(a.add n).block=a.block:=by unfold Addr.add;split <;> rfl
theorem add_of_add (a:Addr) (i j:Nat):(a.add i).add j=a.add (i + j):=by
 unfold Addr.add
 by_cases hi:i=0 <;> by_cases hj:j=0 <;> simp [hi,hj,Nat.add_assoc]

def Reads (w:World) (B size:Nat) (A:Option Addr) (n:Nat) (xs:List Value):Prop :=
 xs.length=n * size∧(0 < n→∃ ad,A=some ad∧ad.block < B∧∀ j u,xs[j]?=some u→w.cell? (ad.add j)=some u)

section
variable {w w':World} {B B' size n:Nat} {A:Option Addr} {xs:List Value}
theorem Reads.none_:Reads w B size A 0 []:=⟨by simp,fun h=>absurd h (by omega)⟩
theorem Reads.keep (h : Reads w B size A n xs) (hk : ∀ p : Addr, p.block < B → w'.cell? p = w.cell? p) : Reads w' B size A n xs :=
 ⟨h.1, fun hn => by
  obtain ⟨ad, e, hb, hc⟩ := h.2 hn
  exact ⟨ad, e, hb, fun j u hu => (hk _ (by rw [block_of_add]; exact hb)).trans (hc j u hu)⟩⟩
theorem Reads.more (h : Reads w B size A n xs) (hB : B ≤ B') : Reads w B' size A n xs :=
 ⟨h.1, fun hn => by
  obtain ⟨ad, e, hb, hc⟩ := h.2 hn
  exact ⟨ad, e, by omega, hc⟩⟩
theorem Reads.below (h:Reads w B size A n xs) (hb:Below B w w'):Reads w' B size A n xs:=h.keep fun _ hp=>hb.cell hp
theorem Reads.drewN (h:Reads w B size A n xs) (k:Nat):Reads (w.drewN k) B size A n xs:=h
theorem Reads.alloc (h:Reads w B size A n xs) (hB:B ≤ w.heap.size) (o:Obj):Reads (w.alloc o) B size A n xs:=h.keep fun p hp=>World.cell?_alloc_lt w o p (by omega)
theorem Reads.cut (h:Reads w B size A n xs) {k cap:Nat} (hk:k ≤ n) (hc:n ≤ cap) :
  Reads w B size (if cap=k then A else A.map (·.add (k * size))) (n - k) (xs.drop (k * size)):=by
 refine ⟨by rw [List.length_drop,h.1,Nat.sub_mul],fun hn=>?_⟩
 obtain ⟨ad,rfl,hb,hcell⟩:=h.2 (by omega)
 rw [if_neg (by omega)]
 refine ⟨ad.add (k * size),rfl,by rw [block_of_add];exact hb,fun j u hu=>?_⟩
 rw [add_of_add]
 exact hcell _ u (by rw [← hu,List.getElem?_drop])
theorem Reads.of_own {base:Nat} {e:TypeId} {c:Nat} (h:w.ownsRow base e size (.slice A n c) n xs):Reads w w.heap.size size A n xs:=by
 refine ⟨h.1,fun hn=>?_⟩
 obtain ⟨g,cap,hv,_,hlt⟩:=h.form hn
 have hA:A=some ⟨g,0,none⟩:=by injection hv
 subst hA
 exact ⟨_,rfl,hlt,h.cells (g:=g) rfl⟩
end

def Blk (w:World) (g:Nat) (t:TypeId) (cs:Array Value):Prop:=w.heap[g]?=some (.cells cs t (0,0))

section
variable {w w':World} {g:Nat} {t:TypeId} {cs:Array Value}
theorem Blk.lt (h:Blk w g t cs):g < w.heap.size:=by
 rcases Nat.lt_or_ge g w.heap.size with hlt | hge
 ·exact hlt
 ·unfold Blk at h;rw [Array.getElem?_eq_none hge] at h;cases h
theorem Blk.cell (h:Blk w g t cs) (i:Nat):w.cell? ⟨g,i,none⟩=cs[i]?:=cell_of_row w g i cs t (0,0) h
theorem Blk.frozen (h:Blk w g t cs) (i:Nat):w.frozen? ⟨g,i,none⟩=false:=by
 unfold Blk at h
 simp [World.frozen?,h]
theorem Blk.new (w:World) (t:TypeId) (cs:Array Value):Blk (w.alloc (.cells cs t)) w.heap.size t cs:=heap_alloc_new w _
theorem Blk.drew (h:Blk w g t cs):Blk w.drew g t cs:=h
theorem Blk.drewN (h:Blk w g t cs) (n:Nat):Blk (w.drewN n) g t cs:=h
theorem Blk.alloc (h:Blk w g t cs) (o:Obj):Blk (w.alloc o) g t cs:=(Below.heap_alloc w o g h.lt).trans h
theorem Blk.set_ (h:Blk w g t cs) (i:Nat) (u:Value):Blk (w.setCell ⟨g,i,none⟩ u) g t (cs.setIfInBounds i u):=by
 unfold Blk at h ⊢
 simp [World.setCell,Array.getElem?_modify,h]
theorem Blk.far (h:Blk w g t cs) {p:Addr} (hp:g ≠ p.block) (u:Value):Blk (w.setCell p u) g t cs:=(Below.heap_setCell w p u g hp).trans h
theorem Blk.below {B:Nat} (h:Blk w g t cs) (hb:Below B w w') (hg:g < B):Blk w' g t cs:=(hb.block g hg).trans h
theorem Blk.grown {row:Option Nat} (h:Blk w g t cs) (hb:w.grownBy w' row) (hg:some g ≠ row):Blk w' g t cs:=(hb.block g h.lt hg).trans h
theorem Blk.ne_ {g':Nat} {t':TypeId} {cs':Array Value} (h:Blk w g t cs) (h':Blk w g' t' cs') (hne:t ≠ t'):g ≠ g':=by
 rintro rfl
 unfold Blk at h h'
 rw [h] at h'
 injection h' with h'
 injection h' with _ ht
 exact hne ht
end

section
variable {P:Program} (w:World)

theorem run_append_of_nil (base:Nat) (t ty e:TypeId) (i:TypeInfo) (size:Nat) (ht:P.underlying t=some (.slice e)) (hi:P.info? e=some i)
  (v:Value) (n:Nat) (xs:List Value) (hown:w.ownsRow base e size v n xs) (c:Nat):(Builtin.append_ #[t,t] ty #[v,.slice none 0 c]).run P w=.ok v w:=by
 rcases hown.2 with ⟨rfl,rfl⟩ | ⟨g,cap,cur,rfl,_,_,hnc,_⟩
 ·simp [Builtin.append_,run_underlying ht,sizeOf,typeInfo,hi,Builtin.lenOf,Builtin.firstCells]
 ·simp [Builtin.append_,run_underlying ht,sizeOf,typeInfo,hi,Builtin.lenOf,Builtin.firstCells,hnc,storeCells]

theorem run_append_any (base:Nat) (t ty e:TypeId) (i:TypeInfo) (z:Value) (size bytes:Nat) (ht:P.underlying t=some (.slice e)) (hi:P.info? e=some i) (hz:i.zero=some z)
  (hsize:i.size=size) (hby:i.bytes=bytes) (hzs:z.cells.size=size) (hsz:0 < size)
  (v:Value) (n:Nat) (xs:List Value) (hown:w.ownsRow base e size v n xs)
  (B:Nat) (A:Option Addr) (m c:Nat) (news:List Value) (hr:Reads w B size A m news) (h1:∀ u ∈ news,u.oneCell'=true)
  (h63:n + m ≤ maxLen) (hbytes:(n + m) * bytes ≤ 140737488355328) (hbase:base ≤ w.heap.size) :
  ∃ v' w',(Builtin.append_ #[t,t] ty #[v,.slice A m c]).run P w=.ok v' w'∧w'.ownsRow base e size v' (n + m) (xs ++ news)∧w.grownBy w' v.ownBlock ∧
   (v'.ownBlock=v.ownBlock ∨ v'.ownBlock=some w.heap.size):=by
 rcases A with _ | ad
 ·have hm:m=0:=by
   rcases Nat.eq_zero_or_pos m with h0 | h0
   ·exact h0
   ·obtain ⟨ad,h,_⟩:=hr.2 h0
    cases h
  subst hm
  have hn:news=[]:=List.eq_nil_of_length_eq_zero (by simpa using hr.1)
  subst hn
  exact ⟨v,w,run_append_of_nil w base t ty e i size ht hi v n xs hown c,by simpa using hown,World.grownBy.refl w _,.inl rfl⟩
 ·have hcells:∀ j u,news[j]?=some u→w.cell? (ad.add j)=some u:=by
   intro j u hu
   rcases Nat.eq_zero_or_pos m with h0 | h0
   ·subst h0
    have hn:news=[]:=List.eq_nil_of_length_eq_zero (by simpa using hr.1)
    subst hn
    simp at hu
   ·obtain ⟨ad',h,_,hc⟩:=hr.2 h0
    injection h with h
    subst h
    exact hc j u hu
  obtain ⟨v',w',hrun,h2,h3,_,h5⟩:=run_append_own_at (P:=P) w base t ty e i z size bytes ht hi hz hsize hby hzs hsz v n xs hown ad m c news hr.1 hcells h1 h63 hbytes hbase
  exact ⟨v',w',hrun,h2,h3,h5⟩

theorem wp_append_any {o:Oper} {a:Act} {K:Act→World→Prop} {Q:Exit→Act→World→Prop} (s x:Operand) (t:TypeId)
  (ho:o.op=.call { callee:=.builtin .append,args:=#[s,x],argTypes:=#[t,t] })
  (base:Nat) (e:TypeId) (i:TypeInfo) (z:Value) (size bytes:Nat) (ht:P.underlying t=some (.slice e)) (hi:P.info? e=some i) (hz:i.zero=some z)
  (hsize:i.size=size) (hby:i.bytes=bytes) (hzs:z.cells.size=size) (hsz:0 < size)
  (v:Value) (n:Nat) (xs:List Value) (hs:a.eval s=v) (hown:w.ownsRow base e size v n xs)
  (B:Nat) (A:Option Addr) (m c:Nat) (news:List Value) (hx:a.eval x=.slice A m c) (hr:Reads w B size A m news) (h1:∀ u ∈ news,u.oneCell'=true)
  (h63:n + m ≤ maxLen) (hbytes:(n + m) * bytes ≤ 140737488355328) (hbase:base ≤ w.heap.size)
  (h:∀ v' w',w'.ownsRow base e size v' (n + m) (xs ++ news)→w.grownBy w' v.ownBlock→(v'.ownBlock=v.ownBlock ∨ v'.ownBlock=some w.heap.size)→K (a.put o.dst v') w'):o.wp P a w K Q:=by
 obtain ⟨v',w',hrun,h2,h3,h4⟩:=run_append_any (P:=P) w base t o.type e i z size bytes ht hi hz hsize hby hzs hsz v n xs hown B A m c news hr h1 h63 hbytes hbase
 unfold Oper.wp execOp
 simp only [ho,resolve,invoke,builtin,Sem.run_bind,Sem.run_pure,Result.andThen_ok,List.map_toArray,List.map_cons,List.map_nil,hs,hx,hrun]
 exact h v' w' h2 h3 h4

theorem wpList_append_any {ops:Array Oper} {rest:List Oper} {o:Oper} {a:Act} {Q:Exit→Act→World→Prop} (hgd:o.guard=none) (s x:Operand) (t:TypeId)
  (ho:o.op=.call { callee:=.builtin .append,args:=#[s,x],argTypes:=#[t,t] })
  (base:Nat) (e:TypeId) (i:TypeInfo) (z:Value) (size bytes:Nat) (ht:P.underlying t=some (.slice e)) (hi:P.info? e=some i) (hz:i.zero=some z)
  (hsize:i.size=size) (hby:i.bytes=bytes) (hzs:z.cells.size=size) (hsz:0 < size)
  (v:Value) (n:Nat) (xs:List Value) (hs:a.eval s=v) (hown:w.ownsRow base e size v n xs)
  (B:Nat) (A:Option Addr) (m c:Nat) (news:List Value) (hx:a.eval x=.slice A m c) (hr:Reads w B size A m news) (h1:∀ u ∈ news,u.oneCell'=true)
  (h63:n + m ≤ maxLen) (hbytes:(n + m) * bytes ≤ 140737488355328) (hbase:base ≤ w.heap.size)
  (h:∀ v' w',w'.ownsRow base e size v' (n + m) (xs ++ news)→w.grownBy w' v.ownBlock→(v'.ownBlock=v.ownBlock ∨ v'.ownBlock=some w.heap.size)→wpList P ops Q rest (a.put o.dst v') w'):wpList P ops Q (o :: rest) a w :=
 wpList_plain hgd fun _ hK=>wp_append_any w s x t ho base e i z size bytes ht hi hz hsize hby hzs hsz v n xs hs hown B A m c news hx hr h1 h63 hbytes hbase fun v' w' h2 h3 h4=>hK _ _ (h v' w' h2 h3 h4)

end

theorem below_drewN {B:Nat} {a w:World} (h:Below B a w) (n:Nat):Below B a (w.drewN n):=⟨h.os,h.tape,h.output,h.size,h.block⟩


section
variable {H:Type} {enc:TypeId × Value→H} {P:Program}
end

section
variable {H:Type} {enc:TypeId × Value→H} {P:Program} {w:World} {base:Nat} {spare:Nat→Bool} {held:Bool}
end

section
variable {H:Type} {enc:TypeId × Value→H} {P:Program} {w:World} {base:Nat} {spare:Nat→Bool} {held:Bool}

end


theorem Reads.flat {w:World} {B n:Nat} {A:Option Addr} {xs:List Value} (h:Reads w B 1 A n xs) (hn:0 < n) :
  ∃ b off,A=some ⟨b,off,none⟩∧b < B∧∀ j u,xs[j]?=some u→w.cell? ⟨b,off + j,none⟩=some u:=by
 obtain ⟨ad,rfl,hb,hc⟩:=h.2 hn
 obtain ⟨b,off,spot⟩:=ad
 have hl:0 < xs.length:=by have:=h.1;omega
 have h0:=hc 0 _ (List.getElem?_eq_getElem hl)
 have hs:spot=none:=by simpa [Addr.add] using World.cell?_spot h0
 subst hs
 refine ⟨b,off,rfl,hb,fun j u hu=>?_⟩
 have:=hc j u hu
 unfold Addr.add at this
 by_cases hj:j=0
 ·subst hj
  simpa using this
 ·rw [if_neg hj] at this
  exact this
def rows {α:Type} (enc:α→List Value) (l:List α):List Value:=l.flatMap enc
theorem rows_length {α:Type} (enc:α→List Value) (k:Nat) (hk:∀ x,(enc x).length=k) (l:List α):(rows enc l).length=l.length * k:=by
 induction l with
 | nil=>simp [rows]
 | cons x l ih=>simp only [rows,List.flatMap_cons,List.length_append,List.length_cons] at ih ⊢;rw [ih,hk,Nat.add_mul];omega
theorem rows_at {α:Type} (enc:α→List Value) (k:Nat) (hk:∀ x,(enc x).length=k):∀ (l:List α) (n t:Nat) (h:n < l.length) (ht:t < k),(rows enc l)[n * k + t]?=(enc l[n])[t]?
 | x :: l,0,t,h,ht=>by
  simp only [rows,List.flatMap_cons,Nat.zero_mul,Nat.zero_add,List.getElem_cons_zero]
  rw [List.getElem?_append_left (by rw [hk];omega)]
 | x :: l,n + 1,t,h,ht=>by
  have:=rows_at enc k hk l n t (by simpa using h) ht
  simp only [rows,List.flatMap_cons,List.getElem_cons_succ] at this ⊢
  rw [← this,List.getElem?_append_right (by rw [hk,Nat.add_mul];omega)]
  congr 1
  rw [hk,Nat.add_mul]
  omega
theorem rows_snoc {α:Type} (enc:α→List Value) (l:List α) (x:α):rows enc (l ++ [x])=rows enc l ++ enc x:=by simp [rows]
theorem reads_flat {w:World} {B k n:Nat} {A:Option Addr} {xs:List Value} (h:Reads w B k A n xs) (hn:0 < n) (hk:0 < k) :
  ∃ b off,A=some ⟨b,off,none⟩∧b < B∧∀ j u,xs[j]?=some u→w.cell? ⟨b,off + j,none⟩=some u:=by
 obtain ⟨ad,rfl,hb,hc⟩:=h.2 hn
 obtain ⟨b,off,spot⟩:=ad
 have hl:0 < xs.length:=by rw [h.1];exact Nat.mul_pos hn hk
 have h0:=hc 0 _ (List.getElem?_eq_getElem hl)
 have hs:spot=none:=by simpa [Addr.add] using World.cell?_spot h0
 subst hs
 refine ⟨b,off,rfl,hb,fun j u hu=>?_⟩
 have:=hc j u hu
 unfold Addr.add at this
 by_cases hj:j=0
 ·subst hj
  simpa using this
 ·rw [if_neg hj] at this
  exact this

end Go.Proofs.YtiheggkkgbfndaaGreatDoor
namespace Go.Proofs.YtiheggkkgbfndaaGreatDoor
open Go.RowKit Go.Joins Go.ChangeShapes Go.WideShapes Go.Deep
set_option linter.unusedVariables false
set_option linter.unusedSimpArgs false
set_option maxRecDepth 100000
structure Frm (w w':World) (S:Nat→Prop):Prop where
 os:w'.os=w.os
 tape:w'.tape=w.tape
 output:w'.output=w.output
 size:w.heap.size ≤ w'.heap.size
 block:∀ q,q < w.heap.size→¬ S q→w'.heap[q]?=w.heap[q]?
theorem Frm.refl (w:World) (S:Nat→Prop):Frm w w S:=⟨rfl,rfl,rfl,Nat.le_refl _,fun _ _ _=>rfl⟩
theorem Frm.of_below {w w':World} {S:Nat→Prop} (h:Below w.heap.size w w'):Frm w w' S:=⟨h.os,h.tape,h.output,h.size,fun q hq _=>h.block q hq⟩
theorem Frm.trans {w w1 w2 : World} {S : Nat → Prop} {S' : Nat → Prop} (h : Frm w w1 S) (k : Frm w1 w2 S') (hs : ∀ q, S' q → S q ∨ w.heap.size ≤ q) : Frm w w2 S :=
 ⟨k.os.trans h.os, k.tape.trans h.tape, k.output.trans h.output, Nat.le_trans h.size k.size, fun q hq hS => (k.block q (Nat.lt_of_lt_of_le hq h.size) fun hh => by
  rcases hs q hh with h1 | h1
  ·exact hS h1
  ·omega).trans (h.block q hq hS)⟩
theorem Frm.below {w w':World} {S:Nat→Prop} {B:Nat} (h:Frm w w' S) (hB:B ≤ w.heap.size) (hs:∀ q,S q→B ≤ q):Below B w w' :=
 ⟨h.os,h.tape,h.output,h.size,fun q hq=>h.block q (by omega) fun hh=>by have:=hs q hh;omega⟩
theorem Frm.drewN {w w':World} {S:Nat→Prop} (h:Frm w w' S) (n:Nat):Frm w (w'.drewN n) S:=⟨h.os,h.tape,h.output,h.size,h.block⟩
theorem Frm.drew {w w':World} {S:Nat→Prop} (h:Frm w w' S):Frm w w'.drew S:=⟨h.os,h.tape,h.output,h.size,h.block⟩
theorem Frm.alloc {w w':World} {S:Nat→Prop} (h:Frm w w' S) (o:Obj):Frm w (w'.alloc o) S:=h.trans (Frm.of_below (S:=S) (Below.alloc (Below.refl _ _) (Nat.le_refl _) o)) fun q hq=>.inl hq
theorem Frm.set {w w':World} {S:Nat→Prop} (h:Frm w w' S) (b i:Nat) (u:Value) (hb:S b ∨ w.heap.size ≤ b):Frm w (w'.setCell ⟨b,i,none⟩ u) S :=
 h.trans (S':=fun q=>q=b) (Below.setCell (Below.refl b w') (Nat.le_refl b) u |> fun k=>⟨k.os,k.tape,k.output,k.size,fun q hq hn=>Below.heap_setCell w' ⟨b,i,none⟩ u q hn⟩) fun q hq=>by subst hq;exact hb
theorem Frm.grown {w w1 w2:World} {S:Nat→Prop} {row:Option Nat} (h:Frm w w1 S) (k:w1.grownBy w2 row) (hr:∀ q,row=some q→S q ∨ w.heap.size ≤ q):Frm w w2 S :=
 h.trans (S':=fun q=>row=some q) ⟨k.os,k.tape,k.output,k.size,fun q hq hn=>k.block q hq (fun e=>hn e.symm)⟩ hr
theorem own_keep {w w':World} {base:Nat} {e:TypeId} {size n:Nat} {v:Value} {xs:List Value} (h:w.ownsRow base e size v n xs) (hk:∀ b,v.ownBlock=some b→w'.heap[b]?=w.heap[b]?):w'.ownsRow base e size v n xs:=by
 refine ⟨h.1,?_⟩
 rcases h.2 with h0 | ⟨g,cap,cur,hv,hb,hg,r⟩
 ·exact .inl h0
 ·exact .inr ⟨g,cap,cur,hv,hb,(hk g (by rw [hv];rfl)).trans hg,r⟩
theorem own_drewN {w:World} {B e n size k:Nat} {v:Value} {xs:List Value} (h:w.ownsRow B e size v n xs):(w.drewN k).ownsRow B e size v n xs:=h
theorem own_shapes {w:World} {B e n size:Nat} {v:Value} {xs:List Value} (h:w.ownsRow B e size v n xs):∃ R c,v=.slice R n c∧n ≤ c∧Reads w w.heap.size size R n xs:=by
 have h0:=h
 rcases h.2 with ⟨rfl,rfl⟩ | ⟨g,cap,cur,rfl,_,_,hnc,_⟩
 ·exact ⟨none,0,rfl,Nat.le_refl _,Reads.of_own h0⟩
 ·exact ⟨_,cap,rfl,hnc,Reads.of_own h0⟩
theorem own_blk {w:World} {base:Nat} {e:TypeId} {size n:Nat} {v:Value} {xs:List Value} (h:w.ownsRow base e size v n xs) {b:Nat} (hb:v.ownBlock=some b):∃ cs,Blk w b e cs:=by
 rcases h.2 with ⟨rfl,_⟩ | ⟨g,cap,cur,rfl,_,hg,_⟩
 ·cases hb
 ·injection hb with hb
  subst hb
  exact ⟨cur,hg⟩
theorem own_set {w:World} {base:Nat} {e t:TypeId} {size n b i:Nat} {v:Value} {xs:List Value} {cs:Array Value} (h:w.ownsRow base e size v n xs) (hb:Blk w b t cs) (hne:e ≠ t) (u:Value):(w.setCell ⟨b,i,none⟩ u).ownsRow base e size v n xs:=by
 refine own_keep h fun q hq=>?_
 obtain ⟨cs',hc⟩:=own_blk h hq
 exact Below.heap_setCell w ⟨b,i,none⟩ u q (hc.ne_ hb hne)

theorem own_ne {w:World} {B1 B2 n1 n2 s1 s2:Nat} {t1 t2:TypeId} {v1 v2:Value} {x1 x2:List Value} (h1:w.ownsRow B1 t1 s1 v1 n1 x1) (h2:w.ownsRow B2 t2 s2 v2 n2 x2) (ht:t1 ≠ t2) {q:Nat} (hq:v1.ownBlock=some q):v2.ownBlock ≠ some q:=fun hh=>by
 obtain ⟨c1,hc1⟩:=own_blk h1 hq
 obtain ⟨c2,hc2⟩:=own_blk h2 hh
 exact (hc1.ne_ hc2 ht) rfl
theorem own_ne_blk {w:World} {B1 n1 s1 b:Nat} {t1 t2:TypeId} {v1:Value} {x1:List Value} {cs:Array Value} (h1:w.ownsRow B1 t1 s1 v1 n1 x1) (h2:Blk w b t2 cs) (ht:t1 ≠ t2):v1.ownBlock ≠ some b:=fun hh=>by
 obtain ⟨c1,hc1⟩:=own_blk h1 hh
 exact (hc1.ne_ h2 ht) rfl
theorem own_beb {w w':World} {B e size n:Nat} {v:Value} {xs:List Value} (h:w.ownsRow B e size v n xs) (hb:Below w.heap.size w w'):w'.ownsRow B e size v n xs:=own_keep h fun q hq=>hb.block q (h.lt q hq).2
theorem own_lower {w:World} {B B' e size n:Nat} {v:Value} {xs:List Value} (h:w.ownsRow B e size v n xs) (hB:B' ≤ B):w.ownsRow B' e size v n xs :=
 ⟨h.1,h.2.imp id fun ⟨g,cap,cur,a,b,r⟩=>⟨g,cap,cur,a,by omega,r⟩⟩
theorem below_grown {B n size:Nat} {e:TypeId} {v:Value} {xs:List Value} {W w2:World} (h:W.ownsRow B e size v n xs) (hg:W.grownBy w2 v.ownBlock) (hB:B ≤ W.heap.size):Below B W w2 :=
 ((Frm.refl W (fun q=>v.ownBlock=some q)).grown hg (fun q h=>.inl h)).below hB fun q hq=>(h.lt q hq).1
theorem rows_last_set {α:Type} (enc:α→List Value) (k:Nat) (hk:∀ x,(enc x).length=k) (l:List α) (x y:α) (j:Nat) (u:Value) (h:enc y=(enc x).set j u):(rows enc (l ++ [x])).set (l.length * k + j) u=rows enc (l ++ [y]):=by
 rw [rows_snoc,rows_snoc,List.set_append_right _ _ (by rw [rows_length enc k hk];omega),rows_length enc k hk,h]
 congr 2
 omega
structure Kids {α:Type} (B:Nat) (w:World) (e:TypeId) (k:Nat) (enc:α→List Value) (l:List (Value × List α)):Prop where
 own:∀ x ∈ l,w.ownsRow B e k x.1 x.2.length (rows enc x.2)
 ne:l.Pairwise fun x y=>∀ q,x.1.ownBlock=some q→y.1.ownBlock ≠ some q
theorem Kids.none {α:Type} (B:Nat) (w:World) (e:TypeId) (k:Nat) (enc:α→List Value):Kids B w e k enc []:=⟨fun x hx=>(by cases hx),List.Pairwise.nil⟩
theorem Kids.keep {α:Type} {B:Nat} {w w':World} {e:TypeId} {k:Nat} {enc:α→List Value} {l:List (Value × List α)} (h:Kids B w e k enc l) (hk:∀ x ∈ l,∀ b,x.1.ownBlock=some b→w'.heap[b]?=w.heap[b]?):Kids B w' e k enc l :=
 ⟨fun x hx=>own_keep (h.own x hx) (hk x hx),h.ne⟩
theorem Kids.lt {α:Type} {B:Nat} {w:World} {e:TypeId} {k:Nat} {enc:α→List Value} {l:List (Value × List α)} (h:Kids B w e k enc l) {x:Value × List α} (hx:x ∈ l) {q:Nat} (hq:x.1.ownBlock=some q):B ≤ q∧q < w.heap.size:=(h.own x hx).lt q hq
theorem Kids.below {α:Type} {B:Nat} {w w':World} {e:TypeId} {k:Nat} {enc:α→List Value} {l:List (Value × List α)} (h:Kids B w e k enc l) (hb:Below w.heap.size w w'):Kids B w' e k enc l :=
 h.keep fun x hx b hq=>hb.block b (h.lt hx hq).2
theorem Kids.set {α:Type} {B:Nat} {w:World} {e t:TypeId} {k b i:Nat} {enc:α→List Value} {l:List (Value × List α)} {cs:Array Value} (h:Kids B w e k enc l) (hb:Blk w b t cs) (hne:e ≠ t) (u:Value):Kids B (w.setCell ⟨b,i,Option.none⟩ u) e k enc l :=
 h.keep fun x hx q hq=>Below.heap_setCell w ⟨b,i,Option.none⟩ u q (fun he=>own_ne_blk (h.own x hx) hb hne (hq.trans (congrArg some he)))
theorem Kids.grown {α:Type} {B:Nat} {w WA w3:World} {e:TypeId} {k:Nat} {enc:α→List Value} {l:List (Value × List α)} {row:Option Nat} (h:Kids B w e k enc l) (hA:Below w.heap.size w WA) (hg:WA.grownBy w3 row) (hr:∀ x ∈ l,∀ q,x.1.ownBlock=some q→row ≠ some q):Kids B w3 e k enc l :=
 h.keep fun x hx b hq=>(hg.block b (Nat.lt_of_lt_of_le (h.lt hx hq).2 hA.size) (fun he=>hr x hx b hq he.symm)).trans (hA.block b (h.lt hx hq).2)
theorem Kids.snoc {α:Type} {B:Nat} {w:World} {e:TypeId} {k:Nat} {enc:α→List Value} {l:List (Value × List α)} (h:Kids B w e k enc l) {v:Value} {xs:List α} (hv:w.ownsRow B e k v xs.length (rows enc xs)) (hn:∀ x ∈ l,∀ q,x.1.ownBlock=some q→v.ownBlock ≠ some q):Kids B w e k enc (l ++ [(v,xs)]):=by
 refine ⟨fun x hx=>?_,?_⟩
 ·rcases List.mem_append.1 hx with hx | hx
  ·exact h.own x hx
  ·obtain rfl:=List.mem_singleton.1 hx
   exact hv
 ·refine List.pairwise_append.2 ⟨h.ne,List.pairwise_singleton _ _,fun x hx y hy=>?_⟩
  obtain rfl:=List.mem_singleton.1 hy
  exact hn x hx
theorem Kids.init {α:Type} {B:Nat} {w:World} {e:TypeId} {k:Nat} {enc:α→List Value} {l:List (Value × List α)} {x:Value × List α} (h:Kids B w e k enc (l ++ [x])):Kids B w e k enc l∧∀ y ∈ l,∀ q,y.1.ownBlock=some q→x.1.ownBlock ≠ some q :=
 ⟨⟨fun y hy=>h.own y (List.mem_append_left _ hy),(List.pairwise_append.1 h.ne).1⟩,fun y hy=>(List.pairwise_append.1 h.ne).2.2 y hy x (List.mem_singleton.2 rfl)⟩
theorem Kids.put {α:Type} {B:Nat} {w WA w3:World} {e:TypeId} {k:Nat} {enc:α→List Value} {l:List (Value × List α)} {v v':Value} {xs:List α} {y:α} (h:Kids B w e k enc (l ++ [(v,xs)])) (hA:Below w.heap.size w WA) (hg:WA.grownBy w3 v.ownBlock)
  (hv:w3.ownsRow B e k v' (xs.length + 1) (rows enc xs ++ enc y)) (hat:∀ q,v'.ownBlock=some q→v.ownBlock=some q ∨ w.heap.size ≤ q):Kids B w3 e k enc (l ++ [(v',xs ++ [y])]):=by
 obtain ⟨h1,h2⟩:=h.init
 refine (h1.grown hA hg fun x hx q hq=>h2 x hx q hq).snoc (by rw [List.length_append,List.length_singleton,rows_snoc];exact hv) fun x hx q hq hq'=>?_
 rcases hat q hq' with h3 | h3
 ·exact h2 x hx q hq h3
 ·have:=(h1.lt hx hq).2
  omega
end Go.Proofs.YtiheggkkgbfndaaGreatDoor
