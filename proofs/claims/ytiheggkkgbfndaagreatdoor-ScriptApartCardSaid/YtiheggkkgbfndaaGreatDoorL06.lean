/- What a script's reader holds in memory. -/
import Derived.Test.YtiheggkkgbfndaaGreatDoorL01
import Derived.Test.YtiheggkkgbfndaaGreatDoorL05
import Derived.Test.YtiheggkkgbfndaaGreatDoorRows
import Derived.Laws.RangeAny
import Derived.Lib.OthersKept
import Derived.WalkSmall
import Derived.Laws.RangeString
import Derived.Deep.LoopGhost
import Derived.Deep.QuietTactic
import Derived.BigQuiet
namespace Go.Proofs.YtiheggkkgbfndaaGreatDoor
open Go.RowKit Go.Joins Go.ChangeShapes Go.WideShapes Go.Deep
set_option linter.unusedVariables false
set_option linter.unusedSimpArgs false
set_option maxRecDepth 100000
def rgC (r:Reg):List Value:=[.int .i64 r.kind,.int .i64 r.cap]
def stC (p:List UInt8):List Value:=[.string ⟨p.toArray⟩]
def i64C (n:Int):List Value:=[.int .i64 n]
def jbC (j:PJob × Value):List Value:=[.int .i64 (j.1.prog:Int),j.2]
def valC (v:Value):List Value:=[v]
def lnC (l:PLine × Value):List Value:=[.int .i64 (l.1.kind:Int),l.2]
def natC (n:Nat):List Value:=[.int .i64 (n:Int)]
structure SetAt (B:Nat) (w:World) (x:SSt) (rv pv tv lv:Value) (T:List (Value × List (PJob × Value))) (L:List (PLine × Value)):Prop where
 regs:w.ownsRow B 67 2 rv x.set.regs.length (rows rgC x.set.regs)
 progs:w.ownsRow B 9 1 pv x.set.progs.length (rows stC x.set.progs)
 thr:w.ownsRow B 50 1 tv T.length (rows valC (T.map (·.1)))
 jobs:Kids B w 53 2 jbC T
 args:Kids B w 2 1 i64C (T.flatMap fun t=>t.2.map fun j=>(j.2,j.1.args))
 thrEq:T.map (fun t=>t.2.map (·.1))=x.set.thr
 lines:w.ownsRow B 49 2 lv L.length (rows lnC L)
 steps:Kids B w 3 1 natC (L.map fun l=>(l.2,l.1.thr))
 linesEq:L.map (·.1)=x.lines
theorem SetAt.start (B:Nat) (w:World) (c:Cfg):SetAt B w ⟨⟨c,[],[],[]⟩,[],0⟩ (.slice none 0 0) (.slice none 0 0) (.slice none 0 0) (.slice none 0 0) [] [] :=
 ⟨World.ownsRow_nil _ _ _ _,World.ownsRow_nil _ _ _ _,World.ownsRow_nil _ _ _ _,Kids.none _ _ _ _ _,Kids.none _ _ _ _ _,rfl,World.ownsRow_nil _ _ _ _,Kids.none _ _ _ _ _,rfl⟩
theorem SetAt.below {B:Nat} {w w':World} {x:SSt} {rv pv tv lv:Value} {T:List (Value × List (PJob × Value))} {L:List (PLine × Value)} (h:SetAt B w x rv pv tv lv T L) (hb:Below w.heap.size w w'):SetAt B w' x rv pv tv lv T L :=
 ⟨own_beb h.regs hb,own_beb h.progs hb,own_beb h.thr hb,h.jobs.below hb,h.args.below hb,h.thrEq,own_beb h.lines hb,h.steps.below hb,h.linesEq⟩
theorem SetAt.set {B:Nat} {w:World} {x:SSt} {rv pv tv lv:Value} {T:List (Value × List (PJob × Value))} {L:List (PLine × Value)} (h:SetAt B w x rv pv tv lv T L) {b i:Nat} {t:TypeId} {cs:Array Value} (hb:Blk w b t cs)
  (h1:67 ≠ t) (h2:9 ≠ t) (h3:50 ≠ t) (h4:53 ≠ t) (h5:2 ≠ t) (h6:49 ≠ t) (h7:3 ≠ t) (u:Value):SetAt B (w.setCell ⟨b,i,none⟩ u) x rv pv tv lv T L :=
 ⟨own_set h.regs hb h1 u,own_set h.progs hb h2 u,own_set h.thr hb h3 u,h.jobs.set hb h4 u,h.args.set hb h5 u,h.thrEq,own_set h.lines hb h6 u,h.steps.set hb h7 u,h.linesEq⟩
theorem own_grown {B1 n1 s1:Nat} {w WA w3:World} {t1:TypeId} {v1:Value} {x1:List Value} {row:Option Nat} (h:w.ownsRow B1 t1 s1 v1 n1 x1) (hA:Below w.heap.size w WA) (hg:WA.grownBy w3 row) (hr:∀ q,v1.ownBlock=some q→row ≠ some q):w3.ownsRow B1 t1 s1 v1 n1 x1 :=
 own_keep h fun b hb=>(hg.block b (Nat.lt_of_lt_of_le (h.lt b hb).2 hA.size) (fun e=>hr b hb e.symm)).trans (hA.block b (h.lt b hb).2)
theorem SetAt.region {B : Nat} {w WA w3 : World} {x : SSt} {rv rv' pv tv lv : Value} {T : List (Value × List (PJob × Value))} {L : List (PLine × Value)} (h : SetAt B w x rv pv tv lv T L) (hA : Below w.heap.size w WA) (hg : WA.grownBy w3 rv.ownBlock) (r : Reg)
    (hv : w3.ownsRow B 67 2 rv' (x.set.regs.length + 1) (rows rgC x.set.regs ++ rgC r)) : SetAt B w3 { x with set := { x.set with regs := x.set.regs ++ [r] } } rv' pv tv lv T L :=
  ⟨by rw [List.length_append, List.length_singleton, rows_snoc]; exact hv,
   own_grown h.progs hA hg fun q hq => own_ne h.progs h.regs (by decide) hq,
   own_grown h.thr hA hg fun q hq => own_ne h.thr h.regs (by decide) hq,
   h.jobs.grown hA hg fun y hy q hq => own_ne (h.jobs.own y hy) h.regs (by decide) hq,
   h.args.grown hA hg fun y hy q hq => own_ne (h.args.own y hy) h.regs (by decide) hq, h.thrEq,
   own_grown h.lines hA hg fun q hq => own_ne h.lines h.regs (by decide) hq,
   h.steps.grown hA hg fun y hy q hq => own_ne (h.steps.own y hy) h.regs (by decide) hq, h.linesEq⟩
theorem SetAt.program {B : Nat} {w WA w3 : World} {x : SSt} {rv pv pv' tv lv : Value} {T : List (Value × List (PJob × Value))} {L : List (PLine × Value)} (h : SetAt B w x rv pv tv lv T L) (hA : Below w.heap.size w WA) (hg : WA.grownBy w3 pv.ownBlock) (p : List UInt8)
    (hv : w3.ownsRow B 9 1 pv' (x.set.progs.length + 1) (rows stC x.set.progs ++ stC p)) : SetAt B w3 { x with set := { x.set with progs := x.set.progs ++ [p] } } rv pv' tv lv T L :=
  ⟨own_grown h.regs hA hg fun q hq => own_ne h.regs h.progs (by decide) hq,
   by rw [List.length_append, List.length_singleton, rows_snoc]; exact hv,
   own_grown h.thr hA hg fun q hq => own_ne h.thr h.progs (by decide) hq,
   h.jobs.grown hA hg fun y hy q hq => own_ne (h.jobs.own y hy) h.progs (by decide) hq,
   h.args.grown hA hg fun y hy q hq => own_ne (h.args.own y hy) h.progs (by decide) hq, h.thrEq,
   own_grown h.lines hA hg fun q hq => own_ne h.lines h.progs (by decide) hq,
   h.steps.grown hA hg fun y hy q hq => own_ne (h.steps.own y hy) h.progs (by decide) hq, h.linesEq⟩
theorem SetAt.thread {B:Nat} {w WA w3:World} {x:SSt} {rv pv tv tv' lv:Value} {T:List (Value × List (PJob × Value))} {L:List (PLine × Value)} (h:SetAt B w x rv pv tv lv T L) (hA:Below w.heap.size w WA) (hg:WA.grownBy w3 tv.ownBlock)
    (hv:w3.ownsRow B 50 1 tv' (T.length + 1) (rows valC (T.map (·.1)) ++ [.slice none 0 0])):SetAt B w3 { x with set:={ x.set with thr:=x.set.thr ++ [[]] } } rv pv tv' lv (T ++ [(.slice none 0 0,[])]) L:=by
  refine ⟨own_grown h.regs hA hg fun q hq=>own_ne h.regs h.thr (by decide) hq,
   own_grown h.progs hA hg fun q hq=>own_ne h.progs h.thr (by decide) hq,?_,
   (h.jobs.grown hA hg fun y hy q hq=>own_ne (h.jobs.own y hy) h.thr (by decide) hq).snoc (World.ownsRow_nil _ _ _ _) (fun y hy q hq=>by simp [Value.ownBlock]),
   ?_,?_,
   own_grown h.lines hA hg fun q hq=>own_ne h.lines h.thr (by decide) hq,
   h.steps.grown hA hg fun y hy q hq=>own_ne (h.steps.own y hy) h.thr (by decide) hq,h.linesEq⟩
  · rw [List.length_append,List.length_singleton,List.map_append,List.map_singleton,rows_snoc]
    exact hv
  · rw [List.flatMap_append]
    simpa using h.args.grown hA hg fun y hy q hq=>own_ne (h.args.own y hy) h.thr (by decide) hq
  · rw [List.map_append,h.thrEq]
    rfl
theorem SetAt.line {B:Nat} {w WA w3:World} {x:SSt} {rv pv tv lv lv' v:Value} {T:List (Value × List (PJob × Value))} {L:List (PLine × Value)} {l:PLine} {n:Nat} (h:SetAt B w x rv pv tv lv T L) (hA:Below w.heap.size w WA) (hg:WA.grownBy w3 lv.ownBlock)
    (hv:w3.ownsRow B 49 2 lv' (L.length + 1) (rows lnC L ++ lnC (l,v))) (ht:w3.ownsRow B 3 1 v l.thr.length (rows natC l.thr)) (hf:∀ q,v.ownBlock=some q→w.heap.size ≤ q):SetAt B w3 ⟨x.set,x.lines ++ [l],n⟩ rv pv tv lv' T (L ++ [(l,v)]):=by
  refine ⟨own_grown h.regs hA hg fun q hq=>own_ne h.regs h.lines (by decide) hq,
   own_grown h.progs hA hg fun q hq=>own_ne h.progs h.lines (by decide) hq,
   own_grown h.thr hA hg fun q hq=>own_ne h.thr h.lines (by decide) hq,
   h.jobs.grown hA hg fun y hy q hq=>own_ne (h.jobs.own y hy) h.lines (by decide) hq,
   h.args.grown hA hg fun y hy q hq=>own_ne (h.args.own y hy) h.lines (by decide) hq,h.thrEq,?_,?_,?_⟩
  · rw [List.length_append,List.length_singleton,rows_snoc]
    exact hv
  · rw [List.map_append,List.map_singleton]
    refine (h.steps.grown hA hg fun y hy q hq=>own_ne (h.steps.own y hy) h.lines (by decide) hq).snoc ht fun y hy q hq hq'=>?_
    have h1:=(h.steps.lt hy hq).2
    have h2:=hf q hq'
    omega
  · rw [List.map_append,h.linesEq]
    rfl
theorem SetAt.job {B:Nat} {w WA w3:World} {x:SSt} {rv pv lv v v' av:Value} {g cap:Nat} {T0:List (Value × List (PJob × Value))} {js:List (PJob × Value)} {L:List (PLine × Value)} {j:PJob}
    (h:SetAt B w x rv pv (.slice (some ⟨g,0,none⟩) (T0.length + 1) cap) lv (T0 ++ [(v,js)]) L) (hA:Below w.heap.size w WA) (hav:WA.ownsRow B 2 1 av j.args.length (rows i64C j.args)) (haf:∀ q,av.ownBlock=some q→w.heap.size ≤ q)
    (hg:WA.grownBy w3 v.ownBlock) (hv:w3.ownsRow B 53 2 v' (js.length + 1) (rows jbC js ++ jbC (j,av))) (hat:∀ q,v'.ownBlock=some q→v.ownBlock=some q ∨ w.heap.size ≤ q) :
    SetAt B (w3.setCell ⟨g,T0.length,none⟩ v') { x with set:={ x.set with thr:=addJob x.set.thr j } } rv pv (.slice (some ⟨g,0,none⟩) (T0.length + 1) cap) lv (T0 ++ [(v',js ++ [(j,av)])]) L:=by
  have hjo:w.ownsRow B 53 2 v js.length (rows jbC js):=h.jobs.own (v,js) (by simp)
  have ht0:=h.thr
  rw [List.length_append,List.length_singleton] at ht0
  have ht3:=own_grown ht0 hA hg fun q hq=>own_ne ht0 hjo (by decide) hq
  obtain ⟨cs,hblk⟩:=own_blk ht3 (b:=g) rfl
  have hav3:w3.ownsRow B 2 1 av j.args.length (rows i64C j.args):=own_keep hav fun b hb=>hg.block b (hav.lt b hb).2 (fun e=>by
    have h1:=haf b hb
    have h2:=(hjo.lt b e.symm).2
    omega)
  have hst:=(ht3.stored T0.length v').1
  have e2:(rows valC ((T0 ++ [(v,js)]).map (·.1))).set T0.length v'=rows valC ((T0 ++ [(v',js ++ [(j,av)])]).map (·.1)):=by
    have:=rows_last_set valC 1 (fun _=>rfl) (T0.map (·.1)) v v' 0 v' rfl
    rw [List.length_map,Nat.mul_one,Nat.add_zero] at this
    rw [List.map_append,List.map_append]
    exact this
  rw [e2] at hst
  refine ⟨own_set (own_grown h.regs hA hg fun q hq=>own_ne h.regs hjo (by decide) hq) hblk (by decide) v',
   own_set (own_grown h.progs hA hg fun q hq=>own_ne h.progs hjo (by decide) hq) hblk (by decide) v',
   by rw [List.length_append,List.length_singleton];exact hst,
   (h.jobs.put hA hg hv hat).set hblk (by decide) v',?_,?_,
   own_set (own_grown h.lines hA hg fun q hq=>own_ne h.lines hjo (by decide) hq) hblk (by decide) v',
   (h.steps.grown hA hg fun y hy q hq=>own_ne (h.steps.own y hy) hjo (by decide) hq).set hblk (by decide) v',h.linesEq⟩
  · have ha:=h.args
    have e3:((T0 ++ [(v',js ++ [(j,av)])]).flatMap fun t=>t.2.map fun j=>(j.2,j.1.args))=((T0 ++ [(v,js)]).flatMap fun t=>t.2.map fun j=>(j.2,j.1.args)) ++ [(av,j.args)]:=by
      simp [List.flatMap_append]
    rw [e3]
    refine ((ha.grown hA hg fun y hy q hq=>own_ne (ha.own y hy) hjo (by decide) hq).snoc hav3 fun y hy q hq hq'=>?_).set hblk (by decide) v'
    have h1:=(ha.lt hy hq).2
    have h2:=haf q hq'
    omega
  · have he:=h.thrEq
    rw [← he]
    unfold addJob
    simp
end Go.Proofs.YtiheggkkgbfndaaGreatDoor
namespace Go.Proofs.YtiheggkkgbfndaaGreatDoor
open Go
set_option linter.unusedVariables false
set_option linter.unusedSimpArgs false
theorem bne10 {c:UInt8} (h:c.toNat / 64=2):c ≠ 10:=by
 intro e
 subst e
 cases h
theorem decode_skip (s:ByteArray) (pos:Nat) (h:pos < s.size) (h10:s.get! pos ≠ 10):(Utf8.decode s pos).1 ≠ 10∧pos + (Utf8.decode s pos).2 ≤ s.size∧1 ≤ (Utf8.decode s pos).2∧∀ i,pos ≤ i→i < pos + (Utf8.decode s pos).2→s.get! i ≠ 10:=by
 have one:∀ c:Nat,c ≠ 10→((c,1):Nat × Nat).1 ≠ 10∧pos + ((c,1):Nat × Nat).2 ≤ s.size∧1 ≤ ((c,1):Nat × Nat).2∧∀ i,pos ≤ i→i < pos + ((c,1):Nat × Nat).2→s.get! i ≠ 10:=by
  intro c hc
  refine ⟨hc,by simp only;omega,Nat.le_refl _,fun i h1 h2=>?_⟩
  simp only at h2
  have:i=pos:=by omega
  subst this
  exact h10
 have hE:Utf8.runeError ≠ 10:=by decide
 have hb0:(s.get! (pos + 0)).toNat ≠ 10:=fun e=>h10 (UInt8.toNat_inj.1 (by rw [Nat.add_zero] at e;exact e))
 have hc:∀ k,(decide (pos + k < s.size) && (s.get! (pos + k)).toNat / 64 == 2)=true→pos + k < s.size∧s.get! (pos + k) ≠ 10:=by
  intro k hk
  rw [Bool.and_eq_true,decide_eq_true_eq,beq_iff_eq] at hk
  exact ⟨hk.1,bne10 hk.2⟩
 unfold Utf8.decode
 simp only
 split
 ·exact one _ hb0
 ·split
  ·rename_i hk
   rw [Bool.and_eq_true] at hk
   have k1:=hc 1 hk.2
   split
   ·rename_i hv
    refine ⟨by simp only;omega,by simp only;omega,by simp only;omega,fun i h1 h2=>?_⟩
    simp only at h2
    rcases Nat.lt_or_ge pos i with h3 | h3
    ·have:i=pos + 1:=by omega
     subst this
     exact k1.2
    ·have:i=pos:=by omega
     subst this
     exact h10
   ·exact one _ hE
  ·split
   ·rename_i hk
    rw [Bool.and_eq_true,Bool.and_eq_true] at hk
    have k1:=hc 1 hk.1.2
    have k2:=hc 2 hk.2
    split
    ·rename_i hv
     rw [Bool.and_eq_true,decide_eq_true_eq] at hv
     refine ⟨by simp only;omega,by simp only;omega,by simp only;omega,fun i h1 h2=>?_⟩
     simp only at h2
     have:i=pos ∨ i=pos + 1 ∨ i=pos + 2:=by omega
     rcases this with e | e | e
     ·rw [e];exact h10
     ·rw [e];exact k1.2
     ·rw [e];exact k2.2
    ·exact one _ hE
   ·split
    ·rename_i hk
     rw [Bool.and_eq_true,Bool.and_eq_true,Bool.and_eq_true] at hk
     have k1:=hc 1 hk.1.1.2
     have k2:=hc 2 hk.1.2
     have k3:=hc 3 hk.2
     split
     ·rename_i hv
      rw [Bool.and_eq_true,decide_eq_true_eq] at hv
      refine ⟨by simp only;omega,by simp only;omega,by simp only;omega,fun i h1 h2=>?_⟩
      simp only at h2
      have:i=pos ∨ i=pos + 1 ∨ i=pos + 2 ∨ i=pos + 3:=by omega
      rcases this with e | e | e | e
      ·rw [e];exact h10
      ·rw [e];exact k1.2
      ·rw [e];exact k2.2
      ·rw [e];exact k3.2
     ·exact one _ hE
    ·exact one _ hE
theorem decode_ten (s:ByteArray) (pos:Nat) (h10:s.get! pos=10):(Utf8.decode s pos).1=10:=by
 unfold Utf8.decode
 simp only [Nat.add_zero,h10]
 rfl
end Go.Proofs.YtiheggkkgbfndaaGreatDoor
namespace Go.Proofs.YtiheggkkgbfndaaGreatDoor
open Go.RowKit Go.Joins Go.ChangeShapes Go.WideShapes Go.Deep
set_option linter.unusedVariables false
set_option linter.unusedSimpArgs false
set_option maxRecDepth 100000
def RdV (s:ByteArray) (a n:Nat) (c:Cfg) (rv pv tv lv:Value) (k e pl:Nat):Array Value:=#[.string s,.int .i64 a,.int .i64 n,.int .i64 c.raw,.int .i64 c.ring,.int .i64 c.writes,.int .i64 c.stamps,.bool c.multi,.int .i64 c.tries,rv,pv,tv,lv,.int .i64 k,.int .i64 e,.int .i64 pl]
def LinePost (s : ByteArray) (p n : Nat) (c : Cfg) (rv pv tv lv : Value) (k e pl : Nat) (w : World) (r : Ending) (w' : World) : Prop := Frm w w' (fun q => q = p) ∧
  ((∃ i, n ≤ i ∧ i < s.size ∧ s.get! i = 10 ∧ (∀ j, n ≤ j → j < i → s.get! j ≠ 10) ∧ r = .returned (.tuple #[.string (s.extract n i), .bool true]) ∧ Blk w' p 56 (RdV s n (i + 1) c rv pv tv lv k e pl)) ∨
   ((∀ j, n ≤ j → j < s.size → s.get! j ≠ 10) ∧ r = .returned (.tuple #[.string ⟨#[]⟩, .bool false]) ∧ Blk w' p 56 (RdV s n n c rv pv tv lv k e pl)))
theorem get_sub (s:ByteArray) (n j:Nat) (h:n + j < s.size):(s.extract n s.size).get! j=s.get! (n + j):=by
 have h1:j < (s.extract n s.size).size:=by rw [ByteArray.size_extract];omega
 have e1:∀ (t:ByteArray) (k:Nat) (hk:k < t.size),t.get! k=t[k]'hk:=fun t k hk=>Go.get_at t k hk
 rw [e1 _ _ h1,e1 _ _ h,ByteArray.getElem_extract]
set_option maxHeartbeats 4000000 in
theorem line_any (s:ByteArray) (hs:s.size ≤ 65535) (p a n:Nat) (c:Cfg) (rv pv tv lv:Value) (k e pl:Nat) (w:World) (hb:Blk w p 56 (RdV s a n c rv pv tv lv k e pl)) (hn:n ≤ s.size) :
  Calls Tryz.prog 42 #[.pointer (some ⟨p,0,none⟩)] w (LinePost s p n c rv pv tv lv k e pl w):=by
 have x2:w.cell? ⟨p,2,none⟩=some (.int .i64 n):=(hb.cell 2).trans rfl
 have x1:w.cell? ⟨p,1,none⟩=some (.int .i64 a):=(hb.cell 1).trans rfl
 have f1:w.frozen? ⟨p,1,none⟩=false:=hb.frozen 1
 obtain ⟨W1,hW1⟩:∃ W1,W1=w.setCell ⟨p,1,none⟩ (.int .i64 n):=⟨_,rfl⟩
 have hb1:Blk W1 p 56 (RdV s n n c rv pv tv lv k e pl):=hW1 ▸ hb.set_ 1 _
 have hF1:Frm w W1 (fun q=>q=p):=hW1 ▸ (Frm.refl w _).set p 1 _ (.inl rfl)
 have hplt:p < W1.heap.size:=hb1.lt
 have y0:W1.cell? ⟨p,0,none⟩=some (.string s):=(hb1.cell 0).trans rfl
 have y1:W1.cell? ⟨p,1,none⟩=some (.int .i64 n):=(hb1.cell 1).trans rfl
 have HW:=Lib.hid hW1
 obtain ⟨sub,hsub⟩:∃ sub,sub=s.extract n s.size:=⟨_,rfl⟩
 have hsz:sub.size=s.size - n:=by rw [hsub,ByteArray.size_extract];omega
 have HSUB:=Lib.hid hsub
 have hget:Hid (∀ j,n + j < s.size→sub.get! j=s.get! (n + j)):=Lib.hid fun j hj=>by rw [hsub];exact get_sub s n j hj
 go_enter Tryz.func42,Tryz.ntmps42
 go_wp2
 rw [← HW.out]
 have g1:((n:Int) ≤ (s.size:Int)):=by omega
 have g2:¬ ((n:Int) < 0):=by omega
 have hslr:(Instr.sliceAt 9 (.string s) (some (.int .i64 n)) none none).run Tryz.prog W1=.ok (.string sub) W1:=by
  rw [HSUB.out]
  simp [go_sem,hn]
 clear hb hsub hW1 x2 x1 f1
 go_region
 go_wp2
 rw [← HSUB.out]
 obtain ⟨W2,hW2⟩:∃ W2,W2=W1.drew:=⟨_,rfl⟩
 have hb2:Blk W2 p 56 (RdV s n n c rv pv tv lv k e pl):=hW2 ▸ hb1
 have hF2:Frm w W2 (fun q=>q=p):=hW2 ▸ hF1.drew
 have hplt2:p < W2.heap.size:=hb2.lt
 have e12:W1.heap.size=W2.heap.size:=by rw [hW2];rfl
 rw [← hW2,e12]
 clear hW2 e12 hb1 hF1 hplt y0 y1 hslr HW
 go_loopw [] (fun wr=>∃ pos,wr=W2.iter sub pos∧pos ≤ sub.size∧∀ j,j < pos→sub.get! j ≠ 10) (fun wr=>sub.size - wr.iterPos W2.heap.size)
 case atStart=>exact ⟨0,rfl,Nat.zero_le _,fun j hj=>absurd hj (by omega)⟩
 case round =>
  obtain ⟨pos,rfl,hps,hj⟩:=hrel
  by_cases hp:pos < sub.size
  ·have hnx:∀ ty,(Instr.next (.pointer (some ⟨W2.heap.size,0,none⟩)) true ty).run Tryz.prog (W2.iter sub pos)=_:=fun ty=>run_next_any W2 sub pos ty hp
   by_cases h10:sub.get! pos=10
   ·have hd:=decode_ten sub pos h10
    have hdb:(((Utf8.decode sub pos).1:Int) == 10)=true:=by rw [hd];rfl
    have hb3:Blk (W2.iter sub (pos + (Utf8.decode sub pos).2)) p 56 (RdV s n n c rv pv tv lv k e pl):=hb2.alloc _
    have z1:(W2.iter sub (pos + (Utf8.decode sub pos).2)).cell? ⟨p,1,none⟩=some (.int .i64 n):=(hb3.cell 1).trans rfl
    have z2:(W2.iter sub (pos + (Utf8.decode sub pos).2)).cell? ⟨p,2,none⟩=some (.int .i64 n):=(hb3.cell 2).trans rfl
    have zf:(W2.iter sub (pos + (Utf8.decode sub pos).2)).frozen? ⟨p,2,none⟩=false:=hb3.frozen 2
    have zw:IntKind.i64.wrap ((n:Int) + (pos:Int))=(n:Int) + (pos:Int):=by rw [IntKind.wrap_i64];omega
    have zw1:IntKind.i64.wrap ((n:Int) + (pos:Int) + 1)=(n:Int) + (pos:Int) + 1:=by rw [IntKind.wrap_i64];omega
    go_wp2
    obtain ⟨W4,hW4⟩:∃ W4,W4=(W2.iter sub (pos + (Utf8.decode sub pos).2)).setCell ⟨p,2,none⟩ (.int .i64 ((n:Int) + (pos:Int) + 1)):=⟨_,rfl⟩
    have hb4:Blk W4 p 56 (RdV s n (n + pos + 1) c rv pv tv lv k e pl):=hW4 ▸ hb3.set_ 2 _
    have hF4:Frm w W4 (fun q=>q=p):=hW4 ▸ (hF2.alloc _).set p 2 _ (.inl rfl)
    rw [← hW4]
    clear hW4 hb3 z1 z2 zf hnx
    have v0:W4.cell? ⟨p,0,none⟩=some (.string s):=(hb4.cell 0).trans rfl
    have v1:W4.cell? ⟨p,1,none⟩=some (.int .i64 n):=(hb4.cell 1).trans rfl
    have i1:(n:Int) + (pos:Int) ≤ (s.size:Int):=by omega
    have i2:(n:Int) ≤ (n:Int) + (pos:Int):=by omega
    have i3:(0:Int) ≤ (n:Int) + (pos:Int):=by omega
    have i4:((n:Int) + (pos:Int)).toNat=n + pos:=by omega
    go_quiet (fail)
    go_wp2
    go_ret2
    have hgp:=hget.out pos (by omega)
    refine ⟨hF4.drewN _,.inl ⟨n + pos,by omega,by omega,by rw [← hgp];exact h10,fun j h1 h2=>?_,rfl,hb4.drewN _⟩⟩
    have:=hget.out (j - n) (by omega)
    rw [show n + (j - n)=j by omega] at this
    rw [← this]
    exact hj (j - n) (by omega)
   ·obtain ⟨d1,d2,d3,d4⟩:=decode_skip sub pos hp h10
    have hdb:(((Utf8.decode sub pos).1:Int) == 10)=false:=by
     rw [beq_eq_false_iff_ne]
     omega
    go_wp2
    go_roundw
    case rel =>
     refine ⟨pos + (Utf8.decode sub pos).2,rfl,d2,fun j hj2=>?_⟩
     rcases Nat.lt_or_ge j pos with h1 | h1
     ·exact hj j h1
     ·exact d4 j h1 hj2
    case measure =>
     simp
     omega
  ·have hnx:∀ ty,(Instr.next (.pointer (some ⟨W2.heap.size,0,none⟩)) true ty).run Tryz.prog (W2.iter sub pos)=_:=fun ty=>run_next_end W2 sub pos ty hp
   go_wp2
   go_ret2
   refine ⟨hF2.alloc _,.inr ⟨fun j h1 h2=>?_,rfl,hb2.alloc _⟩⟩
   have:=hget.out (j - n) (by omega)
   rw [show n + (j - n)=j by omega] at this
   rw [← this]
   exact hj (j - n) (by omega)
def kindV:Array Value:=#[.string ⟨#[]⟩,.string ⟨#[99,111,117,110,116,101,114]⟩,.string ⟨#[113,117,101,117,101]⟩,.string ⟨#[100,105,99,116]⟩,.string ⟨#[99,104,97,105,110]⟩]
def lookV:Array Value:=#[.string ⟨#[99,101,108,108,115]⟩,.string ⟨#[115,104,97,112,101,115]⟩,.string ⟨#[114,105,110,103]⟩,.string ⟨#[115,116,97,116,101]⟩,.string ⟨#[111,114,100,101,114]⟩,.string ⟨#[119,111,114,100,115]⟩]
theorem kinds_any (w:World):Calls Tryz.prog 62 #[] w fun e w'=>e=.returned (.slice (some ⟨w.heap.size,0,none⟩) 5 5)∧w'=w.alloc (.cells kindV 9):=by
 go_enter Tryz.func62,Tryz.ntmps62
 go_wp2
 go_ret
 exact ⟨rfl,rfl⟩
theorem looks_any (w:World):Calls Tryz.prog 33 #[] w fun e w'=>e=.returned (.slice (some ⟨w.heap.size,0,none⟩) 6 6)∧w'=w.alloc (.cells lookV 9):=by
 go_enter Tryz.func33,Tryz.ntmps33
 go_wp2
 go_ret
 exact ⟨rfl,rfl⟩
theorem fails_any (s:ByteArray) (p a n:Nat) (c:Cfg) (rv pv tv lv:Value) (k pl x y:Nat) (w:World) (hb:Blk w p 56 (RdV s a n c rv pv tv lv k 0 pl)) :
  Calls Tryz.prog 17 #[.pointer (some ⟨p,0,none⟩),.int .i64 x,.int .i64 y] w fun e w'=>e=.returned (.tuple #[])∧Frm w w' (fun q=>q=p)∧Blk w' p 56 (RdV s a n c rv pv tv lv k x y):=by
 have x14:w.cell? ⟨p,14,none⟩=some (.int .i64 (0:Nat)):=(hb.cell 14).trans rfl
 have x15:w.cell? ⟨p,15,none⟩=some (.int .i64 pl):=(hb.cell 15).trans rfl
 have f14:w.frozen? ⟨p,14,none⟩=false:=hb.frozen 14
 obtain ⟨W1,hW1⟩:∃ W1,W1=w.setCell ⟨p,14,none⟩ (.int .i64 x):=⟨_,rfl⟩
 have hb1:Blk W1 p 56 (RdV s a n c rv pv tv lv k x pl):=hW1 ▸ hb.set_ 14 _
 have y15:(w.setCell ⟨p,14,none⟩ (.int .i64 x)).cell? ⟨p,15,none⟩=some (.int .i64 pl):=hW1 ▸ (hb1.cell 15).trans rfl
 have f15:(w.setCell ⟨p,14,none⟩ (.int .i64 x)).frozen? ⟨p,15,none⟩=false:=hW1 ▸ hb1.frozen 15
 have HF:Hid (Frm w ((w.setCell ⟨p,14,none⟩ (.int .i64 x)).setCell ⟨p,15,none⟩ (.int .i64 y)) (fun q=>q=p)):=Lib.hid (((Frm.refl w (fun q=>q=p)).set p 14 _ (.inl rfl)).set p 15 _ (.inl rfl))
 have HB:Hid (Blk ((w.setCell ⟨p,14,none⟩ (.int .i64 x)).setCell ⟨p,15,none⟩ (.int .i64 y)) p 56 (RdV s a n c rv pv tv lv k x y)):=Lib.hid ((hb.set_ 14 _).set_ 15 _)
 clear hb hb1 hW1
 go_enter Tryz.func17,Tryz.ntmps17
 go_wp2
 go_end0
 exact ⟨rfl,HF.out,HB.out⟩
end Go.Proofs.YtiheggkkgbfndaaGreatDoor
