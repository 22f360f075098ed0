/- carouselref24: a line of steps. -/
import Derived.Test.YtiheggkkgbfndaaGreatDoorL14
import Derived.Test.YtiheggkkgbfndaaGreatDoorL16
import Derived.Test.YtiheggkkgbfndaaGreatDoorL28
import Derived.Test.YtiheggkkgbfndaaGreatDoorL17
import Derived.Test.YtiheggkkgbfndaaGreatDoorL26
namespace Go.Proofs.YtiheggkkgbfndaaGreatDoor
open Go.RowKit Go.Joins Go.ChangeShapes Go.WideShapes Go.Deep
set_option linter.unusedVariables false
set_option linter.unusedSimpArgs false
set_option maxRecDepth 100000
theorem itemL_eq (s:List UInt8):itemL s=itemN s:=by
 unfold itemL itemN
 cases cutAt 42 s with
 | none =>
  simp only
  have h:=numIn_bounds s 0 99 (by omega)
  have h':numIn s 0 99=_:=h
  rw [h']
  cases natF s with
  | none=>rfl
  | some n =>
   simp only
   by_cases h9:n ≤ 99
   ·rw [if_pos ⟨Nat.zero_le _,h9⟩,if_pos h9]
    simp
   ·rw [if_neg fun h=>h9 h.2,if_neg h9]
    rfl
 | some x =>
  obtain ⟨a,b⟩:=x
  simp only
  have h1:numIn a 0 99=_:=numIn_bounds a 0 99 (by omega)
  have h2:numIn b 2 20000=_:=numIn_bounds b 2 20000 (by omega)
  rw [h1,h2]
  cases natF a with
  | none=>rfl
  | some n =>
   cases natF b with
   | none=>by_cases h9:n ≤ 99 <;> simp [h9]
   | some m=>by_cases h9:n ≤ 99 <;> by_cases h2:2 ≤ m <;> by_cases h3:m ≤ 20000 <;> simp [h9,h2,h3]
theorem itemN_le {s:List UInt8} {x:Nat × Nat} (h:itemN s=some x):x.1 ≤ 99∧1 ≤ x.2∧x.2 ≤ 20000:=by
 unfold itemN at h
 cases hc:cutAt 42 s with
 | none =>
  rw [hc] at h
  simp only at h
  cases hn:natF s with
  | none=>rw [hn] at h;cases h
  | some n =>
   rw [hn] at h
   simp only at h
   by_cases h9:n ≤ 99
   ·rw [if_pos h9] at h
    injection h with h
    subst h
    exact ⟨h9,by simp,by simp⟩
   ·rw [if_neg h9] at h
    cases h
 | some y =>
  obtain ⟨a,b⟩:=y
  rw [hc] at h
  simp only at h
  cases hn:natF a with
  | none=>rw [hn] at h;cases h
  | some n =>
   cases hm:natF b with
   | none=>rw [hn,hm] at h;cases h
   | some m =>
    rw [hn,hm] at h
    simp only at h
    by_cases h9:n ≤ 99∧2 ≤ m∧m ≤ 20000
    ·rw [if_pos h9] at h
     injection h with h
     subst h
     exact ⟨h9.1,by show 1 ≤ m;omega,h9.2.2⟩
    ·rw [if_neg h9] at h
     cases h
theorem items_next {is:List (List UInt8)} {i:Nat} {s:List UInt8} {l:List (Nat × Nat)} {x:Nat × Nat} (h:is[i]?=some s) (h1:itemsL (is.take i)=some l) (h2:itemN s=some x):itemsL (is.take (i + 1))=some (l ++ [x]):=by
 rw [take_snoc is i s h,itemsL_snoc,itemL_eq,h1,h2]
theorem items_bad {is:List (List UInt8)} {i:Nat} {s:List UInt8} (h:is[i]?=some s) (h2:itemN s=none):itemsL is=none:=by
 have h3:itemsL (is.take (i + 1))=none:=by
  rw [take_snoc is i s h,itemsL_snoc,itemL_eq,h2]
  cases itemsL (is.take i) <;> rfl
 have:=itemsL_none (r:=is.drop (i + 1)) h3
 rwa [List.take_append_drop] at this
theorem items_len:∀ {l:List (List UInt8)} {r:List (Nat × Nat)},itemsL l=some r→r.length=l.length
 | [],r,h=>by
  injection h with h
  subst h
  rfl
 | s :: l,r,h=>by
  unfold itemsL at h
  cases hn:itemL s with
  | none=>rw [hn] at h;cases h
  | some n =>
   cases ha:itemsL l with
   | none=>rw [hn,ha] at h;cases h
   | some q =>
    rw [hn,ha] at h
    injection h with h
    subst h
    rw [List.length_cons,List.length_cons,items_len ha]
theorem items_at:∀ {l:List (List UInt8)} {r:List (Nat × Nat)} {i:Nat} {s:List UInt8},itemsL l=some r→l[i]?=some s→∃ x,r[i]?=some x∧itemN s=some x
 | [],r,i,s,h,hs=>by simp at hs
 | a :: l,r,i,s,h,hs=>by
  unfold itemsL at h
  cases hn:itemL a with
  | none=>rw [hn] at h;cases h
  | some n =>
   cases ha:itemsL l with
   | none=>rw [hn,ha] at h;cases h
   | some q =>
    rw [hn,ha] at h
    injection h with h
    subst h
    cases i with
    | zero =>
     simp at hs
     subst hs
     exact ⟨n,rfl,by rw [← itemL_eq];exact hn⟩
    | succ i =>
     obtain ⟨x,h1,h2⟩:=items_at (i:=i) ha (by simpa using hs)
     exact ⟨x,by simpa using h1,h2⟩
theorem satF_snoc:∀ (l:List (Nat × Nat)) (m:Nat) (x:Nat × Nat),satF m (l ++ [x])=if satF m l ≤ 20000 then satF m l + x.2 else satF m l
 | [],m,x=>rfl
 | y :: l,m,x=>by
  rw [List.cons_append,satF,satF,satF_snoc l]
theorem spread_size (l:List (Nat × Nat)):(spread l).length=manyF l:=by
 unfold spread manyF
 induction l with
 | nil=>rfl
 | cons x l ih=>rw [List.flatMap_cons,List.length_append,ih,List.map_cons,List.sum_cons,List.length_replicate]
theorem manyF_take (l:List (Nat × Nat)) (i:Nat):manyF (l.take i) ≤ manyF l:=by
 have h:=manyF_append (l.take i) (l.drop i)
 rw [List.take_append_drop] at h
 omega
theorem runL_short {x:SSt} {ws:List (List UInt8)} (h:ws.length < 2):runL x ws=.error 9:=by
 match ws,h with
 | [],_=>rfl
 | [_],_=>rfl
 | _ :: _ :: _,h =>
  simp at h
  omega
theorem runL_none {x:SSt} {u i:List UInt8} {is:List (List UInt8)} (h:itemsL (i :: is)=none):runL x (u :: i :: is)=.error 9:=by
 unfold runL
 simp only
 rw [h]
theorem runL_some {x:SSt} {u i:List UInt8} {is:List (List UInt8)} {l:List (Nat × Nat)} (h:itemsL (i :: is)=some l):runL x (u :: i :: is)=if 20000 < x.steps + manyF l then .error 2 else .ok ⟨x.set,x.lines ++ [⟨1,spread l⟩],x.steps + manyF l⟩:=by
 unfold runL
 simp only
 rw [h]
def cutT (l:List UInt8):Option (List UInt8 × List UInt8)→List UInt8 × List UInt8 × Bool
 | none=>(l,[],false)
 | some (a,b)=>(a,b,true)
theorem cut_star (l:List UInt8):Go.Lib.cut l [42]=cutT l (cutAt 42 l):=by
 unfold Go.Lib.cut
 rcases split_cases 42 l with hm | ⟨a,b,rfl,ha⟩
 ·rw [index_miss 42 l hm,if_neg (by omega),cutAt_none l hm]
  rfl
 ·rw [index_hit 42 a b ha,if_pos (by omega),cutAt_some a b ha]
  show _=(a,b,true)
  simp
theorem itemL_none {s:List UInt8} (h:cutAt 42 s=none):itemL s=(numIn s 0 99).map fun n=>(n.toNat,1):=by
 unfold itemL
 rw [h]
def pairL:Option Int→Option Int→Option (Nat × Nat)
 | some n,some k=>some (n.toNat,k.toNat)
 | _,_=>none
theorem itemL_some {s a b:List UInt8} (h:cutAt 42 s=some (a,b)):itemL s=pairL (numIn a 0 99) (numIn b 2 20000):=by
 unfold itemL
 rw [h]
 simp only
 cases numIn a 0 99 <;> cases numIn b 2 20000 <;> rfl
theorem numIn_rng {s:List UInt8} {lo hi v:Int} (h:numIn s lo hi=some v):lo ≤ v∧v ≤ hi:=by
 unfold numIn at h
 split at h
 ·split at h
  ·rename_i h0
   injection h with h
   rw [← h]
   exact h0
  ·cases h
 ·cases h
theorem items_nextL {is:List (List UInt8)} {i:Nat} {s:List UInt8} {l:List (Nat × Nat)} {x:Nat × Nat} (h:is[i]?=some s) (h1:itemsL (is.take i)=some l) (h2:itemL s=some x):itemsL (is.take (i + 1))=some (l ++ [x]):=by
 rw [take_snoc is i s h,itemsL_snoc,h1,h2]
theorem items_badL {is:List (List UInt8)} {i:Nat} {s:List UInt8} (h:is[i]?=some s) (h2:itemL s=none):itemsL is=none:=by
 have h3:itemsL (is.take (i + 1))=none:=by
  rw [take_snoc is i s h,itemsL_snoc,h2]
  cases itemsL (is.take i) <;> rfl
 have:=itemsL_none (r:=is.drop (i + 1)) h3
 rwa [List.take_append_drop] at this
theorem cutAt_len:∀ {s a b:List UInt8},cutAt 42 s=some (a,b)→a.length + b.length ≤ s.length
 | [],a,b,h=>by cases h
 | c :: s,a,b,h=>by
  unfold cutAt at h
  split at h
  ·injection h with h
   injection h with h1 h2
   subst h1 h2
   simp
  ·cases hs:cutAt 42 s with
   | none=>rw [hs] at h;cases h
   | some y =>
    obtain ⟨a',b'⟩:=y
    rw [hs] at h
    injection h with h
    injection h with h1 h2
    have:=cutAt_len hs
    subst h1 h2
    simp
    omega
section
variable {B:Nat} {w WA w3:World} {x:SSt} {rv pv tv lv:Value} {T:List (Value × List (PJob × Value))} {L:List (PLine × Value)} {p:Nat} {t:TypeId} {cs:Array Value}
theorem SetAt.line2 {lv' v:Value} {l:PLine} {n:Nat} (h:SetAt B w x rv pv tv lv T L) (hA:Below w.heap.size w WA) (hg:WA.grownBy w3 lv.ownBlock)
    (hv:w3.ownsRow B 49 2 lv' (L.length + 1) (rows lnC L ++ lnC (l,v))) (ht:w3.ownsRow B 3 1 v l.thr.length (rows natC l.thr)) (hf:∀ y ∈ L,∀ q,y.2.ownBlock=some q→v.ownBlock ≠ some q):SetAt B w3 ⟨x.set,x.lines ++ [l],n⟩ rv pv tv lv' T (L ++ [(l,v)]):=by
  refine ⟨own_grown h.regs hA hg fun q hq=>own_ne h.regs h.lines (by decide) hq,
   own_grown h.progs hA hg fun q hq=>own_ne h.progs h.lines (by decide) hq,
   own_grown h.thr hA hg fun q hq=>own_ne h.thr h.lines (by decide) hq,
   h.jobs.grown hA hg fun y hy q hq=>own_ne (h.jobs.own y hy) h.lines (by decide) hq,
   h.args.grown hA hg fun y hy q hq=>own_ne (h.args.own y hy) h.lines (by decide) hq,h.thrEq,?_,?_,?_⟩
  · rw [List.length_append,List.length_singleton,rows_snoc]
    exact hv
  · rw [List.map_append,List.map_singleton]
    refine (h.steps.grown hA hg fun y hy q hq=>own_ne (h.steps.own y hy) h.lines (by decide) hq).snoc ht fun y hy q hq hq'=>?_
    obtain ⟨z,hz,rfl⟩:=List.mem_map.1 hy
    exact hf z hz q hq hq'
  · rw [List.map_append,h.linesEq]
    rfl
theorem SetAt.put_line2 (h:SetAt B w x rv pv tv lv T L) (hb:Blk w p t cs) (ho:Oth t) (hBw:B ≤ w.heap.size) (hBp:B ≤ p) (hA:Below w.heap.size w WA) (hg:WA.grownBy w3 lv.ownBlock) (l:PLine) (n:Nat) {lv' v:Value}
  (hv:w3.ownsRow B 49 2 lv' (L.length + 1) (rows lnC L ++ lnC (l,v))) (ht:w3.ownsRow B 3 1 v l.thr.length (rows natC l.thr)) (hf:∀ y ∈ L,∀ q,y.2.ownBlock=some q→v.ownBlock ≠ some q) (i:Nat) :
  Blk (w3.setCell ⟨p,i,none⟩ lv') p t (cs.setIfInBounds i lv')∧SetAt B (w3.setCell ⟨p,i,none⟩ lv') ⟨x.set,x.lines ++ [l],n⟩ rv pv tv lv' T (L ++ [(l,v)])∧Below B w (w3.setCell ⟨p,i,none⟩ lv'):=by
 have hb3:=blk_past hb h.lines ho.f hA hg
 exact ⟨hb3.set_ i _,(h.line2 hA hg hv ht hf).setO hb3 ho _,below_put h.lines hBw hBp hA hg i _⟩
end
theorem PGood.frm {B:Nat} {w w':World} {p:Nat} {s:ByteArray} {a n a' n':Nat} {x:SSt} {rv pv tv lv:Value} {T:List (Value × List (PJob × Value))} {L:List (PLine × Value)} (hS:SetAt B w x rv pv tv lv T L) (hb:Blk w p 56 (RdV s a n x.set.cfg rv pv tv lv x.steps 0 0))
  (hf:Frm w w' fun z=>z=p) (hb':Blk w' p 56 (RdV s a' n' x.set.cfg rv pv tv lv x.steps 0 0)):PGood B w' p s a' n' x:=⟨_,_,_,_,_,_,hb',hS.frm hb oth_rd hf⟩
def RunSo (fl:Bool) (x0 st:Nat) (l:List (Nat × Nat)) (thr:List Nat):Prop:=if fl then 20000 < x0 + manyF l else st=x0 + manyF l∧thr=spread l
theorem RunSo.more {x0 st:Nat} {l:List (Nat × Nat)} {thr:List Nat} {y:Nat × Nat} (h:RunSo true x0 st l thr):RunSo true x0 st (l ++ [y]) thr:=by
 have h:20000 < x0 + manyF l:=h
 show 20000 < x0 + manyF (l ++ [y])
 rw [manyF_snoc]
 omega
theorem RunSo.full {x0 st:Nat} {l:List (Nat × Nat)} {thr:List Nat} {y:Nat × Nat} (h:RunSo false x0 st l thr) (hf:20000 < st + y.2):RunSo true x0 st (l ++ [y]) thr:=by
 have h:st=x0 + manyF l∧thr=spread l:=h
 show 20000 < x0 + manyF (l ++ [y])
 rw [manyF_snoc]
 omega
theorem RunSo.add {x0 st:Nat} {l:List (Nat × Nat)} {thr:List Nat} {y:Nat × Nat} (h:RunSo false x0 st l thr):RunSo false x0 (st + y.2) (l ++ [y]) (thr ++ List.replicate y.2 y.1):=by
 have h:st=x0 + manyF l∧thr=spread l:=h
 refine ⟨?_,?_⟩
 ·rw [manyF_snoc]
  omega
 ·rw [spread_snoc,h.2]
theorem oth_ln:3 ≠ 49:=by decide
theorem frm_cell {w w':World} {S:Nat→Prop} (h:Frm w w' S) {b:Nat} (hb:b < w.heap.size) (hn:¬ S b) (i:Nat):w'.cell? ⟨b,i,none⟩=w.cell? ⟨b,i,none⟩:=World.cell?_of_block (h.block b hb hn)
set_option maxHeartbeats 8000000 in
theorem prun_any {C:Nat} (Bo p b c:Nat) (s:ByteArray) (a nx:Nat) (ws:List (List UInt8)) (x:SSt) (w:World) (hE:EnvP C w) (hCB:C ≤ Bo) (hG:PGood Bo w p s a nx x) (hBw:Bo ≤ w.heap.size) (hBp:Bo ≤ p) (hW:WordsAt w w.heap.size b ws) (hws:Brief ws) (hcap:ws.length ≤ c) (hll:x.lines.length ≤ 65535) (hst:x.steps ≤ 20000) :
  Calls Tryz.prog 81 #[.pointer (some ⟨p,0,none⟩),.slice (some ⟨b,0,none⟩) ws.length c] w (PPostL Bo p s a nx (runL x ws) w):=by
 obtain ⟨rv,pv,tv,lv,T,L,hb,hS⟩:=hG
 obtain ⟨hTl,hLl⟩:=hS.lens
 have x1:w.cell? ⟨p,1,none⟩=some (.int .i64 a):=(hb.cell 1).trans rfl
 have hql:=hb.lt
 have hbl:=hW.lt
 obtain ⟨n,hn⟩:∃ n,n=ws.length:=⟨_,rfl⟩
 rw [← hn]
 have HB:=Lib.hid hb
 have HS:=Lib.hid hS
 have HLL:Hid (L.length=x.lines.length):=Lib.hid hLl
 have hbp:b ≠ p:=by
  obtain ⟨cb,hcb⟩:=hW.blk
  exact hcb.ne_ hb oth_rd.b
 by_cases hl2:ws.length < 2
 ·have HR:Hid (runL x ws=.error 9):=Lib.hid (runL_short hl2)
  have e1:decide ((n:Int) < 2)=true:=decide_eq_true (by omega)
  have e2:decide (n < 2)=true:=decide_eq_true (by omega)
  have HFA:=Lib.hid (fails_any s p a nx x.set.cfg rv pv tv lv x.steps 0 9 a w hb)
  clear hS hb hW hws hTl hLl hl2 hn hcap
  go_enter Tryz.func81,Tryz.ntmps81
  go_wp2_with (go_at_call 17;refine HFA.out.mono ?_;rintro e w2 ⟨rfl,hF,hB⟩)
  go_end0
  rw [HR.out]
  exact ⟨rfl,below_of_frm hF hBw hBp,_,_,_,_,_,_,_,_,_,hB⟩
 ·obtain ⟨u,i0',is',rfl⟩:∃ u i is,ws=u :: i :: is:=by
   match ws,hl2 with
   | [],h=>exact absurd (by decide) h
   | [_],h=>exact absurd (by simp) h
   | u :: i :: is,_=>exact ⟨u,i,is,rfl⟩
  obtain ⟨is,his⟩:∃ is,is=i0' :: is':=⟨_,rfl⟩
  rw [← his] at hn hW hws hcap ⊢
  have hnr:n=is.length + 1:=by rw [hn];simp
  have e1:decide ((n:Int) < 2)=false:=decide_eq_false (by rw [hn,his];simp;omega)
  have e2:decide (n < 2)=false:=decide_eq_false (by rw [hn,his];simp)
  have hnz:n ≤ 65536:=by rw [hn];exact hws.len
  have HNR:=Lib.hid hnr
  obtain ⟨A2,hrun,hA2⟩:=words_cut b n c 1 1 rfl (by omega) (by rw [hn];exact hcap)
  have HA2:=Lib.hid hA2
  have HEA:Hid (∀ q ∈ is,q.length ≤ 65535):=Lib.hid fun q hq=>hws.each q (List.mem_cons_of_mem _ hq)
  have HWC:Hid (∀ (k:Nat) q,is[k]?=some q→w.cell? ⟨b,k + 1,none⟩=some (.string ⟨q.toArray⟩)):=Lib.hid fun k q hk=>hW.cell (k + 1) q (by simpa using hk)
  have HIS:=Lib.hid his
  have HCW:Hid (C ≤ w.heap.size):=Lib.hid (Nat.le_trans hCB hBw)
  have HEN:Hid (∀ W,Frm w W (fun z=>z=p)→EnvP C W):=Lib.hid fun W hF=>hE.below (hF.below (Nat.le_trans hCB hBw) fun z hz=>by omega)
  obtain ⟨w0,hw0⟩:∃ w0,w0=w.alloc (.cells #[.int .i64 1,.slice none 0 0] 49):=⟨_,rfl⟩
  obtain ⟨xb,hxb⟩:∃ xb,xb=w.heap.size:=⟨_,rfl⟩
  have HX0:Hid (Blk w0 xb 49 #[.int .i64 1,.slice none 0 0]):=Lib.hid (by rw [hw0,hxb];exact Blk.new _ _ _)
  have HF0:Hid (Frm w w0 (fun z=>z=p)):=Lib.hid (hw0 ▸ (Frm.refl w _).alloc _)
  have HP0:Hid (Blk w0 p 56 (RdV s a nx x.set.cfg rv pv tv lv x.steps 0 0)):=Lib.hid (hw0 ▸ hb.alloc _)
  have HXB:Hid (xb=w.heap.size):=Lib.hid hxb
  clear hS hb hW hws hTl hLl hl2 hn hcap his hA2 hE hnr
  go_enter Tryz.func81,Tryz.ntmps81
  go_upto_region 3 with fail
  rw [← hw0,← hxb]
  clear hw0 hxb
  go_upto_region 5 with fail
  obtain ⟨nr,hnr⟩:∃ nr,nr=n - 1:=⟨_,rfl⟩
  rw [← hnr]
  have HNL:Hid (nr=is.length):=Lib.hid (by have:=HNR.out;omega)
  have HN1:Hid (nr + 1=n):=Lib.hid (by have:=HNR.out;omega)
  have hnrz:nr ≤ 65536:=by omega
  obtain ⟨B,hBB⟩:∃ B,B=w.heap.size:=⟨_,rfl⟩
  have HBB:=Lib.hid hBB
  clear hnr hBB
  go_loopg [5,7,8,9,10,11,12,13,14,28] nr (fun gk flv _ _ _ _ _ _ _ _ iv W=>∃ (i:Nat) (l:List (Nat × Nat)) (fl:Bool) (st:Nat) (thr:List Nat) (tvv:Value),iv=.int .i64 i∧i ≤ nr∧gk + i=nr∧flv=.bool fl∧Hid (itemsL (is.take i)=some l)∧Frm w W (fun z=>z=p)∧Blk W p 56 (RdV s a nx x.set.cfg rv pv tv lv st 0 0)∧Blk W xb 49 #[.int .i64 1,tvv]∧W.ownsRow w.heap.size 3 1 tvv thr.length (rows natC thr)∧st ≤ 20000∧Hid (RunSo fl x.steps st l thr))
  case atStart=>exact ⟨0,[],false,x.steps,[],.slice none 0 0,rfl,Nat.zero_le _,rfl,rfl,Lib.hid rfl,HF0.out,HP0.out,HX0.out,World.ownsRow_nil _ _ _ _,hst,Lib.hid ⟨rfl,rfl⟩⟩
  case round =>
   obtain ⟨i,l,fl,st,thr,tvv,rfl,hin,hgk,rfl,HI,hF,hP,hX,hO,hstl,HSO⟩:=hrel
   have HG:=Lib.hid hgk
   have HF:=Lib.hid hF
   have HP:=Lib.hid hP
   have HX:=Lib.hid hX
   have HO:=Lib.hid hO
   clear hgk
   by_cases hil:i < nr
   ·have e3:decide ((i:Int) < (nr:Int))=true:=decide_eq_true (by omega)
    have e4:decide (i < nr)=true:=decide_eq_true hil
    have e5:(i:Int) < (nr:Int):=by omega
    have hkr:i < is.length:=by have:=HNL.out;omega
    obtain ⟨q,hq⟩:∃ q,is[i]?=some q:=⟨_,List.getElem?_eq_getElem hkr⟩
    obtain ⟨ss,hss⟩:∃ ss:ByteArray,ss=⟨q.toArray⟩:=⟨_,rfl⟩
    have hsl:ss.data.toList=q:=by rw [hss]
    have ci:wr.cell? ⟨b,i + 1,none⟩=some (.string ss):=by
     rw [hss,frm_cell hF hbl hbp]
     exact HWC.out i q hq
    have ci2:wr.cell? ⟨b,1 + i,none⟩=some (.string ss):=by rw [Nat.add_comm];exact ci
    have hbl2:b < wr.heap.size:=Nat.lt_of_lt_of_le hbl hF.size
    have hssz:ss.size ≤ 65535:=by
     have h1:ss.size=ss.data.toList.length:=Array.length_toList.symm
     have:=HEA.out q (List.mem_of_getElem? hq)
     rw [h1,hsl];omega
    have hA2':A2=some ⟨b,1,none⟩:=HA2.out (by have:=HN1.out;omega)
    subst hA2'
    have zw:IntKind.i64.wrap ((i:Int) + 1)=(i:Int) + 1:=by rw [IntKind.wrap_i64];omega
    have HE:=Lib.hid (HEN.out wr hF)
    obtain ⟨mx,hmx⟩:=HE.out.m
    have hct:=Tryz.strings_Cut ss ⟨#[42]⟩ mx wr (by omega) hmx
    have hcs:Go.Lib.cut ss.data.toList (⟨#[42]⟩:ByteArray).data.toList=cutT q (cutAt 42 q):=by rw [hsl];exact cut_star q
    rw [hcs] at hct
    have HSS:=Lib.hid hq
    have HSL:=Lib.hid hsl
    clear hq hkr hcs hmx hF hP hX hO
    cases hca:cutAt 42 q with
    | none =>
     rw [hca] at hct
     have hqs:(⟨(cutT q none).1.toArray⟩:ByteArray)=ss:=by rw [hss];rfl
     rw [hqs] at hct
     have HCT:Hid (Calls Tryz.prog 111 #[.string ss,.string ⟨#[42]⟩] wr fun e w'=>e=.returned (.tuple #[.string ss,.string ⟨#[]⟩,.bool false])∧∃ k,w'=wr.drewN k):=Lib.hid hct
     have HIL:=Lib.hid (itemL_none hca)
     clear hct hqs hca hss hsl
     go_upto_region 8 with (go_at_call 111;refine HCT.out.mono ?_;rintro e w1 ⟨rfl,dk,hdk⟩;have HDK:=Lib.hid hdk;clear hdk)
     have HFd:Hid (Frm w w1 (fun z=>z=p)):=Lib.hid (by rw [HDK.out];exact HF.out.drewN dk)
     have HPd:Hid (Blk w1 p 56 (RdV s a nx x.set.cfg rv pv tv lv st 0 0)):=Lib.hid (by rw [HDK.out];exact HP.out.drewN dk)
     have HXd:Hid (Blk w1 xb 49 #[.int .i64 1,tvv]):=Lib.hid (by rw [HDK.out];exact HX.out.drewN dk)
     have HOd:Hid (w1.ownsRow w.heap.size 3 1 tvv thr.length (rows natC thr)):=Lib.hid (by rw [HDK.out];exact own_drewN HO.out)
     have HNM:=Lib.hid (number_fit (HEN.out w1 HFd.out) ss (by omega) 0 99)
     unfold NumberPost at HNM
     rw [HSL.out] at HNM
     obtain ⟨on,hon⟩:∃ on,on=numIn q 0 99:=⟨_,rfl⟩
     rw [← hon] at HNM HIL
     have HRG:Hid (∀ v,on=some v→0 ≤ v∧v ≤ 99):=Lib.hid fun v hv=>numIn_rng (hon.symm.trans hv)
     clear hon
     go_upto_region 9 with (go_at_call 44;refine HNM.out.mono ?_;rintro e wz ⟨hbz,nv,bb,rfl,hbb,hnv⟩;have HBZ0:=Lib.hid hbz;have HNV:=Lib.hid (And.intro hbb hnv);clear hbz hbb hnv)
     have HFZ:Hid (Frm w wz (fun z=>z=p)):=Lib.hid (HFd.out.trans (Frm.of_below (S:=fun z=>z=p) HBZ0.out) fun z hz=>.inl hz)
     have HPZ:=Lib.hid (HPd.out.below HBZ0.out HPd.out.lt)
     have HXZ:=Lib.hid (HXd.out.below HBZ0.out HXd.out.lt)
     have HOZ:=Lib.hid (own_beb HOd.out HBZ0.out)
     cases on with
     | none =>
      have hbf:bb=false:=HNV.out.1
      subst hbf
      have HBAD:Hid (itemL q=none):=Lib.hid HIL.out
      have HR:Hid (runL x (u :: is)=.error 9):=Lib.hid (by
       have hbad:=items_badL HSS.out HBAD.out
       rw [HIS.out] at hbad ⊢
       exact runL_none hbad)
      have HFA:=Lib.hid (fails_any s p a nx x.set.cfg rv pv tv lv st 0 9 a wz HPZ.out)
      have y1:wz.cell? ⟨p,1,none⟩=some (.int .i64 a):=(HPZ.out.cell 1).trans rfl
      have hqlz:=HPZ.out.lt
      have HBZ:Hid (Below Bo w wz):=Lib.hid (HFZ.out.below hBw fun z hz=>by omega)
      have hBz:Bo ≤ wz.heap.size:=Nat.le_trans hBw HFZ.out.size
      go_wp2_with (go_at_call 17;refine HFA.out.mono ?_;rintro e wx ⟨rfl,hF,hB⟩)
      go_end0
      rw [HR.out]
      exact ⟨rfl,HBZ.out.trans (below_of_frm hF hBz hBp),_,_,_,_,_,_,_,_,_,hB⟩
     | some v =>
      have hbf:bb=true:=HNV.out.1
      subst hbf
      obtain rfl:v=nv:=HNV.out.2 v rfl
      have hv0:=HRG.out v rfl
      obtain ⟨n1,rfl⟩:∃ n1:Nat,v=(n1:Int):=⟨v.toNat,by omega⟩
      have HNX:=Lib.hid (items_nextL HSS.out HI.out (show itemL q=some (n1,1) by rw [HIL.out];simp))
      have zst:IntKind.i64.wrap ((st:Int) + 1)=(st:Int) + 1:=by rw [IntKind.wrap_i64];omega
      have y13:wz.cell? ⟨p,13,none⟩=some (.int .i64 st):=(HPZ.out.cell 13).trans rfl
      have hqlz:=HPZ.out.lt
      have hxlz:=HXZ.out.lt
      cases fl
      ·by_cases hful:20000 < st + 1
       ·have q8:decide ((20000:Int) < (st:Int) + 1)=true:=decide_eq_true (by omega)
        have q9:decide (20000 < st + 1)=true:=decide_eq_true hful
        have HSO2:=Lib.hid (RunSo.full (y:=(n1,1)) HSO.out hful)
        clear hful
        go_wp2
        go_roundg (nr - (i + 1))
        case measure=>have:=HG.out;omega
        case rel=>exact ⟨i + 1,_,true,st,thr,_,by simp,by omega,by omega,rfl,HNX,HFZ.out,HPZ.out,HXZ.out,HOZ.out,hstl,HSO2⟩
       ·have q8:decide ((20000:Int) < (st:Int) + 1)=false:=decide_eq_false (by omega)
        have q9:decide (20000 < st + 1)=false:=decide_eq_false hful
        have f13:wz.frozen? ⟨p,13,none⟩=false:=HPZ.out.frozen 13
        have hst2:st + 1 ≤ 20000:=by omega
        have hthl:thr.length + 1 ≤ 20000:=by
         have h1:st=x.steps + manyF l∧thr=spread l:=HSO.out
         have h2:=spread_size l
         rw [← h1.2] at h2
         omega
        obtain ⟨w5,hw5⟩:∃ w5,w5=wz.setCell ⟨p,13,none⟩ (.int .i64 ((st:Int) + 1)):=⟨_,rfl⟩
        have HP5:Hid (Blk w5 p 56 (RdV s a nx x.set.cfg rv pv tv lv (st + 1) 0 0)):=Lib.hid (by have h1:=HPZ.out.set_ 13 (.int .i64 ((st:Int) + 1));rw [← hw5] at h1;exact h1)
        have HX5:Hid (Blk w5 xb 49 #[.int .i64 1,tvv]):=Lib.hid (hw5 ▸ HXZ.out.far (by have:=HXZ.out.ne_ HPZ.out oth_rd.f;exact this) _)
        have HO5:Hid (w5.ownsRow w.heap.size 3 1 tvv thr.length (rows natC thr)):=Lib.hid (hw5 ▸ own_set HOZ.out HPZ.out oth_rd.g _)
        have HF5:Hid (Frm w w5 (fun z=>z=p)):=Lib.hid (hw5 ▸ HFZ.out.set p 13 _ (.inl rfl))
        go_upto_region 19 with fail
        rw [← hw5]
        clear hw5 hful
        have hql5:=HP5.out.lt
        have hxl5:=HX5.out.lt
        obtain ⟨i0,hi,hz0,hz1,hz2⟩:=info_parts info_in
        go_upto_region 20 with fail
        go_loopg [81] 1 (fun gk iv W=>∃ (j:Nat) (tv2:Value),iv=.int .i64 j∧j ≤ 1∧gk + j=1∧Frm w W (fun z=>z=p)∧Blk W p 56 (RdV s a nx x.set.cfg rv pv tv lv (st + 1) 0 0)∧Blk W xb 49 #[.int .i64 1,tv2]∧W.ownsRow w.heap.size 3 1 tv2 (thr.length + j) (rows natC (thr ++ List.replicate j n1)))
        case atStart=>exact ⟨0,tvv,rfl,Nat.zero_le _,rfl,HF5.out,HP5.out,HX5.out,by simpa using HO5.out⟩
        case round =>
         obtain ⟨j,tv2,rfl,hj,hgk,hF6,hP6,hX6,hO6⟩:=hrel
         have HG6:=Lib.hid hgk
         clear hgk
         obtain ⟨wq,rfl⟩:∃ w',w'=wr:=⟨_,rfl⟩
         have HF6:=Lib.hid hF6
         have HP6:=Lib.hid hP6
         have HBL:=Lib.hid hX6
         have HO6:=Lib.hid hO6
         have hsz6:=hF6.size
         by_cases hjl:j < 1
         ·have q10:decide ((j:Int) < 1)=true:=decide_eq_true (by omega)
          have q11:decide (j < 1)=true:=decide_eq_true hjl
          have zj:IntKind.i64.wrap ((j:Int) + 1)=(j:Int) + 1:=by rw [IntKind.wrap_i64];omega
          obtain ⟨Rt,ct,rfl,_,_⟩:=own_shapes hO6
          have x6:wq.cell? ⟨xb,1,none⟩=some (.slice Rt (thr.length + j) ct):=(hX6.cell 1).trans rfl
          have hxl6:=hX6.lt
          have hc2:∀ u ∈ ([.int .i64 (n1:Int)]:List Value),u.oneCell'=true:=by intro u hu;simp at hu;subst hu;rfl
          have hc3:thr.length + j + 1 ≤ maxLen:=by unfold maxLen;omega
          have hc4:(thr.length + j + 1) * 8 ≤ 140737488355328:=by omega
          have hBq:B=w.heap.size:=HBB.out
          have hc5:B ≤ (wq.alloc (.cells #[.int .i64 (n1:Int)] 3)).heap.size:=by simp;omega
          have HA:Hid (Below wq.heap.size wq (wq.alloc (.cells #[.int .i64 (n1:Int)] 3))):=Lib.hid ((Below.refl _ _).alloc (Nat.le_refl _) _)
          have HO7:Hid (wq.ownsRow B 3 1 (.slice Rt (thr.length + j) ct) (thr.length + j) (rows natC (thr ++ List.replicate j n1))):=Lib.hid (by rw [hBq];exact HO6.out)
          clear hF6 hP6 hX6 hO6 hBq
          go_wp2_with (at_builtin;go_must (refine wpList_append_lies _ rfl _ _ 47 rfl B 3 i0 (.int .i64 0) 1 8 Tryz.underlying47 (by assumption) hz0 hz1 hz2 rfl (by decide) (.slice Rt (thr.length + j) ct) (thr.length + j) (rows natC (thr ++ List.replicate j n1)) rfl (HO7.out.alloc _) ⟨wq.heap.size,0,none⟩ 1 1 [.int .i64 (n1:Int)] rfl rfl (World.news_of_block (cs:=#[.int .i64 (n1:Int)]) (t:=3) (fr:=(0,0)) (by simpa using heap_alloc_new wq (.cells #[.int .i64 (n1:Int)] 3))) hc2 (by omega) hc3 hc4 hc5 (wq.heap.size + 1) (by simp) ?_;intro gg c' w2 hown2 hg2 hat hlt2;have hR3:=blk_past HBL.out (HO7.out) oth_ln HA.out hg2;have m6:w2.cell? ⟨xb,1,none⟩=some (.slice Rt (thr.length + j) ct):=(hR3.cell 1).trans rfl;have f6:w2.frozen? ⟨xb,1,none⟩=false:=hR3.frozen 1;have hl3:=hR3.lt))
          go_roundg (1 - (j + 1))
          case measure=>have:=HG6.out;omega
          case rel =>
           have hF7:Frm w w2 (fun z=>z=p):=HF6.out.trans ((Frm.refl wq (fun z=>(Value.slice Rt (thr.length + j) ct).ownBlock=some z)) |>.alloc _ |>.grown hg2 fun z hz=>.inl hz) fun z hz=>.inr (HO6.out.lt z hz).1
           have hP7:Blk w2 p 56 (RdV s a nx x.set.cfg rv pv tv lv (st + 1) 0 0):=blk_past HP6.out HO6.out oth_rd.g HA.out hg2
           have hX7:Blk w2 xb 49 #[.int .i64 1,.slice Rt (thr.length + j) ct]:=hR3
           have hpx:p ≠ xb:=fun e=>HBL.out.ne_ HP6.out oth_rd.f e.symm
           refine ⟨j + 1,_,by simp,by omega,by omega,hF7.set xb 1 _ (.inr (by have:=HXB.out;omega)),hP7.far hpx _,hX7.set_ 1 _,?_⟩
           rw [List.replicate_succ',← List.append_assoc,rows_snoc,← Nat.add_assoc,← HBB.out]
           exact own_set hown2 hX7 (by decide) _
         ·have q10:decide ((j:Int) < 1)=false:=decide_eq_false (by omega)
          have q11:decide (j < 1)=false:=decide_eq_false hjl
          obtain rfl:1=j:=by omega
          have HSO2:=Lib.hid (RunSo.add (y:=(n1,1)) HSO.out)
          clear hF6 hP6 hX6 hO6
          go_wp2
          go_roundg (nr - (i + 1))
          case measure=>have:=HG.out;omega
          case rel=>exact ⟨i + 1,_,false,st + 1,_,_,by simp,by omega,by omega,rfl,HNX,HF6.out,HP6.out,HBL.out,by rw [List.length_append,List.length_replicate];exact HO6.out,hst2,HSO2⟩
      ·have HSO2:=Lib.hid (RunSo.more (y:=(n1,1)) HSO.out)
       go_wp2
       go_roundg (nr - (i + 1))
       case measure=>have:=HG.out;omega
       case rel=>exact ⟨i + 1,_,true,st,thr,_,by simp,by omega,by omega,rfl,HNX,HFZ.out,HPZ.out,HXZ.out,HOZ.out,hstl,HSO2⟩
    | some ab =>
     obtain ⟨qa,qb⟩:=ab
     rw [hca] at hct
     obtain ⟨sa,hsa⟩:∃ sa:ByteArray,sa=⟨qa.toArray⟩:=⟨_,rfl⟩
     obtain ⟨sb,hsb⟩:∃ sb:ByteArray,sb=⟨qb.toArray⟩:=⟨_,rfl⟩
     have hal:sa.data.toList=qa:=by rw [hsa]
     have hbl':sb.data.toList=qb:=by rw [hsb]
     have HCT:Hid (Calls Tryz.prog 111 #[.string ss,.string ⟨#[42]⟩] wr fun e w'=>e=.returned (.tuple #[.string sa,.string sb,.bool true])∧∃ k,w'=wr.drewN k):=Lib.hid (by rw [hsa,hsb];exact hct)
     have HIL:=Lib.hid (itemL_some hca)
     have hqz:qa.length + qb.length ≤ 65535:=by
      have h1:ss.size=q.length:=by rw [← hsl];exact Array.length_toList.symm
      have h2:=cutAt_len hca
      omega
     have haz:sa.size ≤ 4294967296:=by
      have h1:sa.size=sa.data.toList.length:=Array.length_toList.symm
      rw [h1,hal];omega
     have hbz':sb.size ≤ 4294967296:=by
      have h1:sb.size=sb.data.toList.length:=Array.length_toList.symm
      rw [h1,hbl'];omega
     have HAL:=Lib.hid hal
     have HBL2:=Lib.hid hbl'
     clear hct hca hss hsl hsa hsb hal hbl' hqz
     go_upto_region 8 with (go_at_call 111;refine HCT.out.mono ?_;rintro e w1 ⟨rfl,dk,hdk⟩;have HDK:=Lib.hid hdk;clear hdk)
     have HFd:Hid (Frm w w1 (fun z=>z=p)):=Lib.hid (by rw [HDK.out];exact HF.out.drewN dk)
     have HPd:Hid (Blk w1 p 56 (RdV s a nx x.set.cfg rv pv tv lv st 0 0)):=Lib.hid (by rw [HDK.out];exact HP.out.drewN dk)
     have HXd:Hid (Blk w1 xb 49 #[.int .i64 1,tvv]):=Lib.hid (by rw [HDK.out];exact HX.out.drewN dk)
     have HOd:Hid (w1.ownsRow w.heap.size 3 1 tvv thr.length (rows natC thr)):=Lib.hid (by rw [HDK.out];exact own_drewN HO.out)
     have HNM:=Lib.hid (number_fit (HEN.out w1 HFd.out) sa haz 0 99)
     unfold NumberPost at HNM
     rw [HAL.out] at HNM
     have HNB:Hid (∀ W,Below w1.heap.size w1 W→Calls Tryz.prog 44 #[.string sb,.int .i64 2,.int .i64 20000] W fun e w'=>Below W.heap.size W w'∧∃ (n:Int) (b:Bool),e=.returned (.tuple #[.int .i64 n,.bool b])∧b=(numIn qb 2 20000).isSome∧∀ m,numIn qb 2 20000=some m→m=n):=Lib.hid fun W hW=>by
      have h1:=number_fit (HEN.out W (HFd.out.trans (Frm.of_below (S:=fun z=>z=p) hW) fun z hz=>.inl hz)) sb hbz' 2 20000
      unfold NumberPost at h1
      rw [HBL2.out] at h1
      exact h1
     obtain ⟨on,hon⟩:∃ on,on=numIn qa 0 99:=⟨_,rfl⟩
     obtain ⟨om,hom⟩:∃ om,om=numIn qb 2 20000:=⟨_,rfl⟩
     rw [← hon] at HNM HIL
     rw [← hom] at HNB HIL
     have HRG:Hid (∀ v,on=some v→0 ≤ v∧v ≤ 99):=Lib.hid fun v hv=>numIn_rng (hon.symm.trans hv)
     have HRG2:Hid (∀ v,om=some v→2 ≤ v∧v ≤ 20000):=Lib.hid fun v hv=>numIn_rng (hom.symm.trans hv)
     clear hon hom
     go_upto_region 9 with (go_at_call 44;refine HNM.out.mono ?_;rintro e wy ⟨hbz,nv,bb,rfl,hbb,hnv⟩;have HBZ0:=Lib.hid hbz;have HNV:=Lib.hid (And.intro hbb hnv);clear hbz hbb hnv)
     go_upto_region 13 with (go_at_call 44;refine (HNB.out _ HBZ0.out).mono ?_;rintro e wz ⟨hbz,nv2,bb2,rfl,hbb,hnv⟩;have HBZ1:=Lib.hid hbz;have HNV2:=Lib.hid (And.intro hbb hnv);clear hbz hbb hnv)
     have hb1z:Below w1.heap.size w1 wz:=HBZ0.out.trans (HBZ1.out.mono HBZ0.out.size)
     have HFZ:Hid (Frm w wz (fun z=>z=p)):=Lib.hid (HFd.out.trans (Frm.of_below (S:=fun z=>z=p) hb1z) fun z hz=>.inl hz)
     have HPZ:=Lib.hid (HPd.out.below hb1z HPd.out.lt)
     have HXZ:=Lib.hid (HXd.out.below hb1z HXd.out.lt)
     have HOZ:=Lib.hid (own_beb HOd.out hb1z)
     clear hb1z
     cases on with
     | none =>
      have hbf:bb=false:=HNV.out.1
      subst hbf
      have HBAD:Hid (itemL q=none):=Lib.hid (by rw [HIL.out];rfl)
      have HR:Hid (runL x (u :: is)=.error 9):=Lib.hid (by
       have hbad:=items_badL HSS.out HBAD.out
       rw [HIS.out] at hbad ⊢
       exact runL_none hbad)
      have HFA:=Lib.hid (fails_any s p a nx x.set.cfg rv pv tv lv st 0 9 a wz HPZ.out)
      have y1:wz.cell? ⟨p,1,none⟩=some (.int .i64 a):=(HPZ.out.cell 1).trans rfl
      have hqlz:=HPZ.out.lt
      have HBZ:Hid (Below Bo w wz):=Lib.hid (HFZ.out.below hBw fun z hz=>by omega)
      have hBz:Bo ≤ wz.heap.size:=Nat.le_trans hBw HFZ.out.size
      go_wp2_with (go_at_call 17;refine HFA.out.mono ?_;rintro e wx ⟨rfl,hF,hB⟩)
      go_end0
      rw [HR.out]
      exact ⟨rfl,HBZ.out.trans (below_of_frm hF hBz hBp),_,_,_,_,_,_,_,_,_,hB⟩
     | some v =>
      have hbf:bb=true:=HNV.out.1
      subst hbf
      obtain rfl:v=nv:=HNV.out.2 v rfl
      cases om with
      | none =>
       have hbf:bb2=false:=HNV2.out.1
       subst hbf
       have HBAD:Hid (itemL q=none):=Lib.hid (by rw [HIL.out];rfl)
       have HR:Hid (runL x (u :: is)=.error 9):=Lib.hid (by
        have hbad:=items_badL HSS.out HBAD.out
        rw [HIS.out] at hbad ⊢
        exact runL_none hbad)
       have HFA:=Lib.hid (fails_any s p a nx x.set.cfg rv pv tv lv st 0 9 a wz HPZ.out)
       have y1:wz.cell? ⟨p,1,none⟩=some (.int .i64 a):=(HPZ.out.cell 1).trans rfl
       have hqlz:=HPZ.out.lt
       have HBZ:Hid (Below Bo w wz):=Lib.hid (HFZ.out.below hBw fun z hz=>by omega)
       have hBz:Bo ≤ wz.heap.size:=Nat.le_trans hBw HFZ.out.size
       go_wp2_with (go_at_call 17;refine HFA.out.mono ?_;rintro e wx ⟨rfl,hF,hB⟩)
       go_end0
       rw [HR.out]
       exact ⟨rfl,HBZ.out.trans (below_of_frm hF hBz hBp),_,_,_,_,_,_,_,_,_,hB⟩
      | some v2 =>
       have hbf:bb2=true:=HNV2.out.1
       subst hbf
       obtain rfl:v2=nv2:=HNV2.out.2 v2 rfl
       have hv0:=HRG.out v rfl
       have hv2:=HRG2.out v2 rfl
       obtain ⟨n1,rfl⟩:∃ n1:Nat,v=(n1:Int):=⟨v.toNat,by omega⟩
       obtain ⟨k1,rfl⟩:∃ k1:Nat,v2=(k1:Int):=⟨v2.toNat,by omega⟩
       have HNX:=Lib.hid (items_nextL HSS.out HI.out (show itemL q=some (n1,k1) by rw [HIL.out];simp [pairL]))
       have zst:IntKind.i64.wrap ((st:Int) + (k1:Int))=(st:Int) + (k1:Int):=by rw [IntKind.wrap_i64];omega
       have y13:wz.cell? ⟨p,13,none⟩=some (.int .i64 st):=(HPZ.out.cell 13).trans rfl
       have hqlz:=HPZ.out.lt
       have hxlz:=HXZ.out.lt
       cases fl
       ·by_cases hful:20000 < st + k1
        ·have q8:decide ((20000:Int) < (st:Int) + (k1:Int))=true:=decide_eq_true (by omega)
         have q9:decide (20000 < st + k1)=true:=decide_eq_true hful
         have HSO2:=Lib.hid (RunSo.full (y:=(n1,k1)) HSO.out hful)
         clear hful
         go_wp2
         go_roundg (nr - (i + 1))
         case measure=>have:=HG.out;omega
         case rel=>exact ⟨i + 1,_,true,st,thr,_,by simp,by omega,by omega,rfl,HNX,HFZ.out,HPZ.out,HXZ.out,HOZ.out,hstl,HSO2⟩
        ·have q8:decide ((20000:Int) < (st:Int) + (k1:Int))=false:=decide_eq_false (by omega)
         have q9:decide (20000 < st + k1)=false:=decide_eq_false hful
         have f13:wz.frozen? ⟨p,13,none⟩=false:=HPZ.out.frozen 13
         have hst2:st + k1 ≤ 20000:=by omega
         have hthl:thr.length + k1 ≤ 20000:=by
          have h1:st=x.steps + manyF l∧thr=spread l:=HSO.out
          have h2:=spread_size l
          rw [← h1.2] at h2
          omega
         obtain ⟨w5,hw5⟩:∃ w5,w5=wz.setCell ⟨p,13,none⟩ (.int .i64 ((st:Int) + (k1:Int))):=⟨_,rfl⟩
         have HP5:Hid (Blk w5 p 56 (RdV s a nx x.set.cfg rv pv tv lv (st + k1) 0 0)):=Lib.hid (by have h1:=HPZ.out.set_ 13 (.int .i64 ((st:Int) + (k1:Int)));rw [← hw5] at h1;exact h1)
         have HX5:Hid (Blk w5 xb 49 #[.int .i64 1,tvv]):=Lib.hid (hw5 ▸ HXZ.out.far (by have:=HXZ.out.ne_ HPZ.out oth_rd.f;exact this) _)
         have HO5:Hid (w5.ownsRow w.heap.size 3 1 tvv thr.length (rows natC thr)):=Lib.hid (hw5 ▸ own_set HOZ.out HPZ.out oth_rd.g _)
         have HF5:Hid (Frm w w5 (fun z=>z=p)):=Lib.hid (hw5 ▸ HFZ.out.set p 13 _ (.inl rfl))
         go_upto_region 19 with fail
         rw [← hw5]
         clear hw5 hful
         have hql5:=HP5.out.lt
         have hxl5:=HX5.out.lt
         obtain ⟨i0,hi,hz0,hz1,hz2⟩:=info_parts info_in
         go_upto_region 20 with fail
         go_loopg [81] k1 (fun gk iv W=>∃ (j:Nat) (tv2:Value),iv=.int .i64 j∧j ≤ k1∧gk + j=k1∧Frm w W (fun z=>z=p)∧Blk W p 56 (RdV s a nx x.set.cfg rv pv tv lv (st + k1) 0 0)∧Blk W xb 49 #[.int .i64 1,tv2]∧W.ownsRow w.heap.size 3 1 tv2 (thr.length + j) (rows natC (thr ++ List.replicate j n1)))
         case atStart=>exact ⟨0,tvv,rfl,Nat.zero_le _,rfl,HF5.out,HP5.out,HX5.out,by simpa using HO5.out⟩
         case round =>
          obtain ⟨j,tv2,rfl,hj,hgk,hF6,hP6,hX6,hO6⟩:=hrel
          have HG6:=Lib.hid hgk
          clear hgk
          obtain ⟨wq,rfl⟩:∃ w',w'=wr:=⟨_,rfl⟩
          have HF6:=Lib.hid hF6
          have HP6:=Lib.hid hP6
          have HBL:=Lib.hid hX6
          have HO6:=Lib.hid hO6
          have hsz6:=hF6.size
          by_cases hjl:j < k1
          ·have q10:decide ((j:Int) < (k1:Int))=true:=decide_eq_true (by omega)
           have q11:decide (j < k1)=true:=decide_eq_true hjl
           have zj:IntKind.i64.wrap ((j:Int) + 1)=(j:Int) + 1:=by rw [IntKind.wrap_i64];omega
           obtain ⟨Rt,ct,rfl,_,_⟩:=own_shapes hO6
           have x6:wq.cell? ⟨xb,1,none⟩=some (.slice Rt (thr.length + j) ct):=(hX6.cell 1).trans rfl
           have hxl6:=hX6.lt
           have hc2:∀ u ∈ ([.int .i64 (n1:Int)]:List Value),u.oneCell'=true:=by intro u hu;simp at hu;subst hu;rfl
           have hc3:thr.length + j + 1 ≤ maxLen:=by unfold maxLen;omega
           have hc4:(thr.length + j + 1) * 8 ≤ 140737488355328:=by omega
           have hBq:B=w.heap.size:=HBB.out
           have hc5:B ≤ (wq.alloc (.cells #[.int .i64 (n1:Int)] 3)).heap.size:=by simp;omega
           have HA:Hid (Below wq.heap.size wq (wq.alloc (.cells #[.int .i64 (n1:Int)] 3))):=Lib.hid ((Below.refl _ _).alloc (Nat.le_refl _) _)
           have HO7:Hid (wq.ownsRow B 3 1 (.slice Rt (thr.length + j) ct) (thr.length + j) (rows natC (thr ++ List.replicate j n1))):=Lib.hid (by rw [hBq];exact HO6.out)
           clear hF6 hP6 hX6 hO6 hBq
           go_wp2_with (at_builtin;go_must (refine wpList_append_lies _ rfl _ _ 47 rfl B 3 i0 (.int .i64 0) 1 8 Tryz.underlying47 (by assumption) hz0 hz1 hz2 rfl (by decide) (.slice Rt (thr.length + j) ct) (thr.length + j) (rows natC (thr ++ List.replicate j n1)) rfl (HO7.out.alloc _) ⟨wq.heap.size,0,none⟩ 1 1 [.int .i64 (n1:Int)] rfl rfl (World.news_of_block (cs:=#[.int .i64 (n1:Int)]) (t:=3) (fr:=(0,0)) (by simpa using heap_alloc_new wq (.cells #[.int .i64 (n1:Int)] 3))) hc2 (by omega) hc3 hc4 hc5 (wq.heap.size + 1) (by simp) ?_;intro gg c' w2 hown2 hg2 hat hlt2;have hR3:=blk_past HBL.out (HO7.out) oth_ln HA.out hg2;have m6:w2.cell? ⟨xb,1,none⟩=some (.slice Rt (thr.length + j) ct):=(hR3.cell 1).trans rfl;have f6:w2.frozen? ⟨xb,1,none⟩=false:=hR3.frozen 1;have hl3:=hR3.lt))
           go_roundg (k1 - (j + 1))
           case measure=>have:=HG6.out;omega
           case rel =>
            have hF7:Frm w w2 (fun z=>z=p):=HF6.out.trans ((Frm.refl wq (fun z=>(Value.slice Rt (thr.length + j) ct).ownBlock=some z)) |>.alloc _ |>.grown hg2 fun z hz=>.inl hz) fun z hz=>.inr (HO6.out.lt z hz).1
            have hP7:Blk w2 p 56 (RdV s a nx x.set.cfg rv pv tv lv (st + k1) 0 0):=blk_past HP6.out HO6.out oth_rd.g HA.out hg2
            have hX7:Blk w2 xb 49 #[.int .i64 1,.slice Rt (thr.length + j) ct]:=hR3
            have hpx:p ≠ xb:=fun e=>HBL.out.ne_ HP6.out oth_rd.f e.symm
            refine ⟨j + 1,_,by simp,by omega,by omega,hF7.set xb 1 _ (.inr (by have:=HXB.out;omega)),hP7.far hpx _,hX7.set_ 1 _,?_⟩
            rw [List.replicate_succ',← List.append_assoc,rows_snoc,← Nat.add_assoc,← HBB.out]
            exact own_set hown2 hX7 (by decide) _
          ·have q10:decide ((j:Int) < (k1:Int))=false:=decide_eq_false (by omega)
           have q11:decide (j < k1)=false:=decide_eq_false hjl
           obtain rfl:k1=j:=by omega
           have HSO2:=Lib.hid (RunSo.add (y:=(n1,k1)) HSO.out)
           clear hF6 hP6 hX6 hO6
           go_wp2
           go_roundg (nr - (i + 1))
           case measure=>have:=HG.out;omega
           case rel=>exact ⟨i + 1,_,false,st + k1,_,_,by simp,by omega,by omega,rfl,HNX,HF6.out,HP6.out,HBL.out,by rw [List.length_append,List.length_replicate];exact HO6.out,hst2,HSO2⟩
       ·have HSO2:=Lib.hid (RunSo.more (y:=(n1,k1)) HSO.out)
        go_wp2
        go_roundg (nr - (i + 1))
        case measure=>have:=HG.out;omega
        case rel=>exact ⟨i + 1,_,true,st,thr,_,by simp,by omega,by omega,rfl,HNX,HFZ.out,HPZ.out,HXZ.out,HOZ.out,hstl,HSO2⟩
   ·have e3:decide ((i:Int) < (nr:Int))=false:=decide_eq_false (by omega)
    have e4:decide (i < nr)=false:=decide_eq_false hil
    have HIX:Hid (itemsL is=some l):=Lib.hid (by
     have:=HI.out
     rwa [List.take_of_length_le (by have:=HNL.out;omega)] at this)
    have HRL:Hid (runL x (u :: is)=if 20000 < x.steps + manyF l then .error 2 else .ok ⟨x.set,x.lines ++ [⟨1,spread l⟩],x.steps + manyF l⟩):=Lib.hid (by
     have h1:=HIX.out
     rw [HIS.out] at h1 ⊢
     exact runL_some h1)
    have y1:wr.cell? ⟨p,1,none⟩=some (.int .i64 a):=(hP.cell 1).trans rfl
    have hqlz:=hP.lt
    have HBZ:Hid (Below Bo w wr):=Lib.hid (hF.below hBw fun z hz=>by omega)
    have hBz:Bo ≤ wr.heap.size:=Nat.le_trans hBw hF.size
    clear hF hP hX hO
    cases fl
    ·have hso:st=x.steps + manyF l∧thr=spread l:=HSO.out
     obtain ⟨hso1,hso2⟩:=hso
     have HR:Hid (runL x (u :: is)=.ok ⟨x.set,x.lines ++ [⟨1,thr⟩],st⟩):=Lib.hid (by rw [HRL.out,if_neg (by omega),hso1,hso2])
     clear hso1 hso2
     have hthr:thr.length ≤ 20000:=by
      have h1:st=x.steps + manyF l∧thr=spread l:=HSO.out
      have h2:=spread_size l
      rw [← h1.2] at h2
      omega
     have HSW:=Lib.hid (HS.out.frm HB.out oth_rd HF.out)
     obtain ⟨Rt,ct,rfl,_,_⟩:=own_shapes HO.out
     have z0:wr.cell? ⟨xb,0,none⟩=some (.int .i64 1):=(HX.out.cell 0).trans rfl
     have z1:wr.cell? ⟨xb,1,none⟩=some (.slice Rt thr.length ct):=(HX.out.cell 1).trans rfl
     have hxlz:=HX.out.lt
     have y12:wr.cell? ⟨p,12,none⟩=some lv:=(HP.out.cell 12).trans rfl
     have hpb:=own_ne_blk HSW.out.lines HP.out oth_rd.f
     have hxp:xb ≠ p:=HX.out.ne_ HP.out oth_rd.f
     have hlo:=HSW.out.lines
     have hxl:lv.ownBlock ≠ some xb:=fun h=>by
      have h1:=(HS.out.lines.lt xb h).2
      have:=HXB.out
      omega
     have HFIN:Hid (∀ (WA w3:World) (gg cap':Nat),WA.grownBy w3 lv.ownBlock→w3.ownsRow Bo 49 2 (.slice (some ⟨gg,0,none⟩) (L.length + 1) cap') (L.length + 1) (rows lnC L ++ [.int .i64 1,.slice Rt thr.length ct])→Below wr.heap.size wr WA →
       PPostL Bo p s a nx (.ok ⟨x.set,x.lines ++ [⟨1,thr⟩],st⟩) w (.returned (.tuple #[])) (w3.setCell ⟨p,12,none⟩ (.slice (some ⟨gg,0,none⟩) (L.length + 1) cap'))):=Lib.hid fun WA w3 gg cap' hg hv hA=>by
      have ht:w3.ownsRow Bo 3 1 (.slice Rt thr.length ct) thr.length (rows natC thr):=own_lower (own_grown HO.out hA hg fun qq hq=>own_ne HO.out HSW.out.lines (by decide) hq) hBw
      obtain ⟨k1,k2,k3⟩:=HSW.out.put_line2 HP.out oth_rd hBz hBp hA hg ⟨1,thr⟩ st (v:=.slice Rt thr.length ct) hv ht (fun y hy qq hq hq'=>by
       have h1:=(HS.out.steps.lt (x:=(y.2,y.1.thr)) (List.mem_map.2 ⟨y,hy,rfl⟩) hq).2
       have h2:=(HO.out.lt qq hq').1
       omega) 12
      exact ⟨rfl,HBZ.out.trans k3,_,_,_,_,_,_,k1,k2⟩
     obtain ⟨j0,hj,ha0,ha1,ha2⟩:=info_parts info_lin
     have hll2:L.length ≤ 65535:=by have:=HLL.out;omega
     have h1c:∀ v ∈ [Value.int .i64 1,.slice Rt thr.length ct],v.oneCell'=true:=by intro v hv;simp at hv;rcases hv with rfl | rfl <;> rfl
     have hc63:L.length + 1 ≤ maxLen:=by unfold maxLen;omega
     have hcb:(L.length + 1) * 32 ≤ 140737488355328:=by omega
     go_upto_region 26 with fail
     go_region_law
      (refine step_append_lies _ (by rfl) _ _ _ (by rfl) Bo 49 j0 _ 2 32 Tryz.underlying30 hj ha0 ha1 ha2 rfl (by omega) lv L.length (rows lnC L) (by rfl) (show _ from hlo.alloc _)
        ⟨wr.heap.size,0,none⟩ 1 1 [.int .i64 1,.slice Rt thr.length ct] (by rfl) (by rfl) (World.news_of_block (cs:=#[.int .i64 1,.slice Rt thr.length ct]) (t:=49) (fr:=(0,0)) (heap_alloc_new wr _)) h1c
        (by omega) hc63 hcb (by simp;omega) (wr.heap.size + 1) (by simp) ?_;intro gg cap' w3 hown3 hgrow hat hlt3;have hQ3:=(hgrow.block p (by simp;omega) (fun hh=>hpb hh.symm)).trans ((Below.heap_alloc wr _ p hqlz).trans HP.out);have m12:w3.cell? ⟨p,12,none⟩=some lv:=(Blk.cell hQ3 12).trans rfl;have f12:w3.frozen? ⟨p,12,none⟩=false:=Blk.frozen hQ3 12;have hql3:p < w3.heap.size:=Blk.lt hQ3)
     all_goals go_wp2_with fail
     all_goals go_end0
     all_goals (rw [HR.out])
     all_goals exact HFIN.out _ _ _ _ hgrow hown3 (by first | exact ((Below.refl _ _).alloc (Nat.le_refl _) _).drew | exact ((Below.refl _ _).drew.alloc (Nat.le_refl _) _) | exact ((Below.refl _ _).alloc (Nat.le_refl _) _))
    ·have hso:20000 < x.steps + manyF l:=HSO.out
     have HR:Hid (runL x (u :: is)=.error 2):=Lib.hid (by rw [HRL.out,if_pos hso])
     have HFA:=Lib.hid (fails_any s p a nx x.set.cfg rv pv tv lv st 0 2 a wr HP.out)
     clear hso
     go_wp2_with (go_at_call 17;refine HFA.out.mono ?_;rintro e wx ⟨rfl,hF,hB⟩)
     go_end0
     rw [HR.out]
     exact ⟨rfl,HBZ.out.trans (below_of_frm hF hBz hBp),_,_,_,_,_,_,_,_,_,hB⟩
end Go.Proofs.YtiheggkkgbfndaaGreatDoor
