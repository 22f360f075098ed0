/- script.lined: walked. -/
import Derived.Test.YtiheggkkgbfndaaGreatDoorL38
namespace Go.Proofs.YtiheggkkgbfndaaGreatDoor
open Go.RowKit Go.Joins Go.ChangeShapes Go.WideShapes Go.Deep
set_option linter.unusedVariables false
set_option linter.unusedSimpArgs false
set_option maxRecDepth 100000
def rlC (x:RLine × Value):List Value:=[.int .i64 x.1.kind,x.2]
structure RLinesRd (W:World) (C:Nat) (l:List RLine) (lv:Value):Prop where
 le:l.length ≤ 9223372036854775807
 rd:∃ R c vs,lv=.slice R l.length c∧vs.length=l.length∧Reads W C 2 R l.length (rows rlC (l.zip vs))∧∀ (i:Nat) x v,l[i]?=some x→vs[i]?=some v→ListRd W C i64C x.thr v
theorem RLinesRd.below {W W':World} {C:Nat} {l:List RLine} {lv:Value} (h:RLinesRd W C l lv) (hb:Below C W W'):RLinesRd W' C l lv:=by
 obtain ⟨h0,R,c,vs,h1,h2,h3,h4⟩:=h
 exact ⟨h0,R,c,vs,h1,h2,h3.below hb,fun i x v hx hv=>(h4 i x v hx hv).below hb⟩
theorem RLinesRd.more {W:World} {C C':Nat} {l:List RLine} {lv:Value} (h:RLinesRd W C l lv) (hC:C ≤ C'):RLinesRd W C' l lv:=by
 obtain ⟨h0,R,c,vs,h1,h2,h3,h4⟩:=h
 exact ⟨h0,R,c,vs,h1,h2,h3.more hC,fun i x v hx hv=>(h4 i x v hx hv).more hC⟩
theorem rline_cells {W:World} {C n:Nat} {R:Option Addr} {l:List RLine} {vs:List Value} (h:Reads W C 2 R n (rows rlC (l.zip vs))) (hv:vs.length=l.length) (hl:l.length=n) (hn:0 < n) :
  ∃ b off,R=some ⟨b,off,none⟩∧b < C∧∀ (i:Nat) x v,l[i]?=some x→vs[i]?=some v→W.cell? ⟨b,off + i * 2,none⟩=some (.int .i64 x.kind)∧W.cell? ⟨b,off + i * 2 + 1,none⟩=some v:=by
 obtain ⟨b,off,rfl,hb,hc⟩:=reads_flat h hn (by omega)
 refine ⟨b,off,rfl,hb,fun i x v hx hvx=>?_⟩
 have hzi:(l.zip vs)[i]?=some (x,v):=by
  rw [List.getElem?_zip_eq_some]
  exact ⟨hx,hvx⟩
 have hil:i < (l.zip vs).length:=(List.getElem?_eq_some_iff.1 hzi).1
 have hze:(l.zip vs)[i]=(x,v):=(List.getElem?_eq_some_iff.1 hzi).2
 have h0:=rows_at rlC 2 (fun _=>rfl) (l.zip vs) i 0 hil (by omega)
 have h1:=rows_at rlC 2 (fun _=>rfl) (l.zip vs) i 1 hil (by omega)
 rw [hze] at h0 h1
 exact ⟨by have:=hc (i * 2 + 0) _ h0;simpa using this,by have:=hc (i * 2 + 1) _ h1;simpa [Nat.add_assoc] using this⟩
def LineCells (w:World) (R:Option Addr) (l:List RLine) (n:Nat):Prop:=∀ i,i < n→∃ (b off:Nat) (x:RLine) (Q:Option Addr) (m q:Nat),R=some ⟨b,off,none⟩∧b < w.heap.size∧l[i]?=some x∧x.thr.length=m∧m ≤ 9223372036854775807∧Reads w w.heap.size 1 Q m (rows i64C x.thr)∧(∀ W,Below w.heap.size w W→W.cell? ⟨b,off + i * 2,none⟩=some (.int .i64 x.kind)∧W.cell? ⟨b,off + i * 2 + 1,none⟩=some (.slice Q m q))∧∀ j,j < m→∃ (d o:Nat) (t:Int),Q=some ⟨d,o,none⟩∧d < w.heap.size∧x.thr[j]?=some t∧∀ W,Below w.heap.size w W→W.cell? ⟨d,o + j,none⟩=some (.int .i64 t)
theorem line_all {w:World} {C n c:Nat} {R:Option Addr} {l:List RLine} (hC:C ≤ w.heap.size) (hL:RLinesRd w C l (.slice R n c)) (hn:l.length=n):LineCells w R l n:=by
 obtain ⟨hle,R',c',vs,he,hvl,hR,hT⟩:=hL.more hC
 injection he with e1 e2 e3
 subst e1
 intro i hi
 obtain ⟨b,off,rfl,hb,hc⟩:=rline_cells hR hvl rfl (by omega)
 obtain ⟨x,hx⟩:∃ x,l[i]?=some x:=⟨_,List.getElem?_eq_getElem (by omega)⟩
 obtain ⟨v,hv⟩:∃ v,vs[i]?=some v:=⟨_,List.getElem?_eq_getElem (by omega)⟩
 obtain ⟨Q,q,rfl,hm,hQ⟩:=hT i x v hx hv
 refine ⟨b,off,x,Q,x.thr.length,q,rfl,hb,hx,rfl,hm,hQ,fun W hW=>⟨(hW.cell hb).trans (hc i x _ hx hv).1,(hW.cell hb).trans (hc i x _ hx hv).2⟩,fun j hj=>?_⟩
 obtain ⟨d,o,rfl,hd,hcd⟩:=i64_cells hQ rfl (by omega)
 obtain ⟨t,ht⟩:∃ t,x.thr[j]?=some t:=⟨_,List.getElem?_eq_getElem (by omega)⟩
 exact ⟨d,o,t,rfl,hd,ht,fun W hW=>(hW.cell hd).trans (hcd j t ht)⟩
theorem many_take (l:List RLine) (i:Nat) (x:RLine) (h:l[i]?=some x):manyR (l.take (i + 1))=manyR (l.take i) + x.thr.length:=by
 unfold manyR
 rw [List.take_add_one,h]
 simp
theorem many_le (l:List RLine):∀ i,manyR (l.take i) ≤ manyR l:=by
 unfold manyR
 intro i
 have h:(l.map fun x=>x.thr.length).sum=((l.take i).map fun x=>x.thr.length).sum + ((l.drop i).map fun x=>x.thr.length).sum:=by
  rw [← List.sum_append,← List.map_append,List.take_append_drop]
 omega
theorem take_all {α:Type} {p:α→Prop} {l:List α} {i:Nat} {x:α} (h:∀ y ∈ l.take i,p y) (hx:l[i]?=some x) (hp:p x):∀ y ∈ l.take (i + 1),p y:=by
 rw [List.take_add_one,hx]
 intro y hy
 rcases List.mem_append.1 hy with hy | hy
 ·exact h y hy
 ·have:y=x:=by simpa using hy
  rw [this]
  exact hp
theorem lined_no {l:List RLine} {i:Nat} {x:RLine} (hx:l[i]?=some x) (h:¬ lineR x):decide (linedR l)=false:=decide_eq_false fun hl=>h (hl.1 x (List.mem_of_getElem? hx))
set_option maxHeartbeats 4000000 in
theorem lined_any (l:List RLine) (C:Nat) (lv:Value) (w:World) (hC:C ≤ w.heap.size) (hm:manyR l ≤ 9223372036854775807) (hL:RLinesRd w C l lv) :
  Calls Tryz.prog 27 #[lv] w fun e w'=>e=.returned (.bool (decide (linedR l)))∧Below w.heap.size w w':=by
 obtain ⟨R,c,rfl⟩:∃ R c,lv=.slice R l.length c:=by obtain ⟨_,R,c,_,h,_⟩:=hL;exact ⟨R,c,h⟩
 obtain ⟨n,hn⟩:∃ n,n=l.length:=⟨_,rfl⟩
 have hn9:n ≤ 9223372036854775807:=hn ▸ hL.le
 rw [← hn] at hL ⊢
 have HLC:=Lib.hid (line_all hC hL hn.symm)
 have HN:=Lib.hid hn
 have HM:=Lib.hid hm
 clear hn hm hL hC
 go_enter Tryz.func27,Tryz.ntmps27
 go_upto_region 3 with fail
 go_loopg [10,3] n (fun gk iv sv W=>∃ i:Nat,iv=.int .i64 i∧i ≤ n∧gk + i=n∧sv=.int .i64 (manyR (l.take i):Int)∧Hid (∀ x ∈ l.take i,lineR x)∧Hid (Below w.heap.size w W))
 case atStart=>exact ⟨0,rfl,Nat.zero_le _,rfl,rfl,Lib.hid (by intro x hx;simp at hx),Lib.hid (Below.refl _ _)⟩
 case round =>
  obtain ⟨i,rfl,hi,hgk,rfl,HALL,HB⟩:=hrel
  have HG:=Lib.hid hgk
  clear hgk
  obtain ⟨sm,hsm⟩:∃ sm,sm=manyR (l.take i):=⟨_,rfl⟩
  rw [← hsm]
  have HSM:=Lib.hid hsm
  clear hsm
  by_cases hil:i < n
  ·have e1:decide ((i:Int) < (n:Int))=true:=decide_eq_true (by omega)
   have e2:decide (i < n)=true:=decide_eq_true hil
   have e3:(i:Int) < (n:Int):=by omega
   have zw:IntKind.i64.wrap ((i:Int) + 1)=(i:Int) + 1:=by rw [IntKind.wrap_i64];omega
   obtain ⟨b,off,⟨kd,thr⟩,Q,m,q,rfl,hb,hx,hxl,hm9,_,hc,hj⟩:=HLC.out i hil
   simp only at hxl hc hj
   have hsum:sm + m ≤ 9223372036854775807:=by
    have h1:=many_take l i _ hx
    have h2:=many_le l (i + 1)
    have h3:=HM.out
    have h4:=HSM.out
    simp only at h1
    omega
   have HSUM:Hid (sm + m=manyR (l.take (i + 1))):=Lib.hid (by rw [many_take l i _ hx,HSM.out,← hxl])
   have zs:IntKind.i64.wrap ((sm:Int) + (m:Int))=((sm + m:Nat):Int):=by rw [IntKind.wrap_i64];omega
   have c1:=(hc wr HB.out).1
   have c2:=(hc wr HB.out).2
   have hbr:b < wr.heap.size:=Nat.lt_of_lt_of_le hb HB.out.size
   have HX:=Lib.hid hx
   have HXL:=Lib.hid hxl
   have HJ:=Lib.hid hj
   obtain ⟨w5,hw5⟩:∃ w5,w5=wr.alloc (.cells #[.int .i64 kd,.slice Q m q] 49):=⟨_,rfl⟩
   obtain ⟨b5,hb5⟩:∃ b5,b5=wr.heap.size:=⟨_,rfl⟩
   have HK5:Hid (Blk w5 b5 49 #[.int .i64 kd,.slice Q m q]):=Lib.hid (by rw [hw5,hb5];exact Blk.new _ _ _)
   have HB5:Hid (Below w.heap.size w w5):=Lib.hid (HB.out.trans (hw5 ▸ (Below.refl _ _).alloc HB.out.size _))
   clear hc hj hx hxl hsum
   go_upto_region 5 with fail
   rw [← hw5,← hb5]
   clear hw5 hb5 c1 c2 hbr
   have p0:=(HK5.out.cell 0).trans (show _=some (Value.int .i64 kd) from rfl)
   have p1:=(HK5.out.cell 1).trans (show _=some (Value.slice Q m q) from rfl)
   have pl:=HK5.out.lt
   have hgood:lineR ⟨kd,thr⟩ ∨ ¬ lineR ⟨kd,thr⟩:=Classical.em _
   by_cases h1:kd < 1
   ·have d1:decide (kd < 1)=true:=decide_eq_true h1
    have HNO:=Lib.hid (lined_no HX.out (fun h=>by have:=h.1;simp only at this;omega))
    clear hgood
    go_wp2
    go_ret
    exact ⟨by rw [HNO.out];rfl,HB5.out⟩
   ·have d1:decide (kd < 1)=false:=decide_eq_false h1
    by_cases h2:7 < kd
    ·have d2:decide (7 < kd)=true:=decide_eq_true h2
     have d2':decide (kd > 7)=true:=decide_eq_true h2
     have HNO:=Lib.hid (lined_no HX.out (fun h=>by have:=h.2.1;simp only at this;omega))
     clear hgood
     go_wp2
     go_ret
     exact ⟨by rw [HNO.out];rfl,HB5.out⟩
    ·have d2:decide (7 < kd)=false:=decide_eq_false h2
     have d2':decide (kd > 7)=false:=decide_eq_false h2
     have hthr:(thr ≠ []) ↔ 0 < m:=by rw [← HXL.out];exact List.length_pos_iff.symm
     by_cases h3:(kd=1 ↔ 0 < m)
     ·have hcond:∃ bb:Bool,(kd == 1)=bb∧decide (kd=1)=bb∧decide ((0:Int) < (m:Int))=bb∧decide (0 < m)=bb∧decide ((m:Int) > 0)=bb:=by
       by_cases hk:kd=1
       ·have hm0:0 < m:=h3.1 hk
        exact ⟨true,by simp [hk],by simp [hk],decide_eq_true (by omega),decide_eq_true hm0,decide_eq_true (by omega)⟩
       ·have hm0:¬ 0 < m:=fun h=>hk (h3.2 h)
        exact ⟨false,by simp [hk],by simp [hk],decide_eq_false (by omega),decide_eq_false hm0,decide_eq_false (by omega)⟩
      obtain ⟨bb,k1,k2,k3,k4,k5⟩:=hcond
      have q9:(bb != bb)=false:=by cases bb <;> rfl
      have HOK:Hid (¬ kd < 1∧¬ 7 < kd∧(kd=1 ↔ thr ≠ [])):=Lib.hid ⟨h1,h2,h3.trans hthr.symm⟩
      clear h1 h2 h3 hthr hgood
      go_upto_region 8 with fail
      clear d1 d2 d2' k1 k2 k3 k4 k5
      go_loopg [35] m (fun gk iv W=>∃ j:Nat,iv=.int .i64 j∧j ≤ m∧gk + j=m∧W=w5∧Hid (∀ t ∈ thr.take j,0 ≤ t∧t ≤ 99))
      case atStart=>exact ⟨0,rfl,Nat.zero_le _,rfl,rfl,Lib.hid (by intro x hx;simp at hx)⟩
      case round =>
       obtain ⟨j,rfl,hj,hgj,rfl,HTA⟩:=hrel
       have HGJ:=Lib.hid hgj
       clear hgj
       by_cases hjl:j < m
       ·have f1:decide ((j:Int) < (m:Int))=true:=decide_eq_true (by omega)
        have f2:decide (j < m)=true:=decide_eq_true hjl
        have f3:(j:Int) < (m:Int):=by omega
        have zj:IntKind.i64.wrap ((j:Int) + 1)=(j:Int) + 1:=by rw [IntKind.wrap_i64];omega
        obtain ⟨d,o,t,rfl,hd,ht,hcd⟩:=HJ.out j hjl
        have c3:=hcd _ HB5.out
        have hdr:d < wr.heap.size:=Nat.lt_of_lt_of_le hd HB5.out.size
        have HT:=Lib.hid ht
        clear hcd ht hd
        go_upto_region 10 with fail
        by_cases h4:t < 0
        ·have d4:decide (t < 0)=true:=decide_eq_true h4
         have HNO:=Lib.hid (lined_no HX.out (fun h=>by have:=h.2.2.2 t (List.mem_of_getElem? HT.out);omega))
         go_wp2
         go_ret
         exact ⟨by rw [HNO.out];rfl,HB5.out⟩
        ·have d4:decide (t < 0)=false:=decide_eq_false h4
         by_cases h5:99 < t
         ·have d5:decide (99 < t)=true:=decide_eq_true h5
          have HNO:=Lib.hid (lined_no HX.out (fun h=>by have:=h.2.2.2 t (List.mem_of_getElem? HT.out);omega))
          go_wp2
          go_ret
          exact ⟨by rw [HNO.out];rfl,HB5.out⟩
         ·have d5:decide (99 < t)=false:=decide_eq_false h5
          have HTB:Hid (∀ t ∈ thr.take (j + 1),0 ≤ t∧t ≤ 99):=Lib.hid (take_all HTA.out HT.out ⟨by omega,by omega⟩)
          go_wp2
          go_roundg (m - (j + 1))
          case measure=>have:=HGJ.out;omega
          case rel=>exact ⟨j + 1,by simp,by omega,by omega,rfl,HTB⟩
       ·have f1:decide ((j:Int) < (m:Int))=false:=decide_eq_false (by omega)
        have f2:decide (j < m)=false:=decide_eq_false hjl
        have HLR:Hid (lineR ⟨kd,thr⟩):=Lib.hid ⟨by have:=HOK.out.1;simp only;omega,by have:=HOK.out.2.1;simp only;omega,HOK.out.2.2,by
         have h:=HTA.out
         have e:thr.take j=thr:=List.take_of_length_le (by rw [HXL.out];omega)
         rw [e] at h
         exact h⟩
        have HAL':Hid (∀ x ∈ l.take (i + 1),lineR x):=Lib.hid (take_all HALL.out HX.out HLR.out)
        go_wp2
        go_roundg (n - (i + 1))
        case measure=>have:=HG.out;omega
        case rel=>exact ⟨i + 1,by simp,by omega,by omega,by rw [← HSUM.out,Int.natCast_add],HAL',HB5⟩
     ·have HNO:=Lib.hid (lined_no HX.out (fun h=>h3 (h.2.2.1.trans hthr)))
      have hcond:∃ bb:Bool,(kd == 1)=bb∧decide (kd=1)=bb∧decide ((0:Int) < (m:Int))=!bb∧decide (0 < m)=!bb∧decide ((m:Int) > 0)=!bb:=by
       by_cases hk:kd=1
       ·have hm0:¬ 0 < m:=fun h=>h3 ⟨fun _=>h,fun _=>hk⟩
        exact ⟨true,by simp [hk],by simp [hk],decide_eq_false (by omega),decide_eq_false hm0,decide_eq_false (by omega)⟩
       ·have hm0:0 < m:=Decidable.byContradiction fun h=>h3 ⟨fun h'=>absurd h' hk,fun h'=>absurd h' h⟩
        exact ⟨false,by simp [hk],by simp [hk],decide_eq_true (by omega),decide_eq_true hm0,decide_eq_true (by omega)⟩
      obtain ⟨bb,k1,k2,k3,k4,k5⟩:=hcond
      have q9:(bb != !bb)=true:=by cases bb <;> rfl
      clear h1 h2 h3 hthr hgood
      go_wp2
      go_ret
      exact ⟨by rw [HNO.out];rfl,HB5.out⟩
  ·have e1:decide ((i:Int) < (n:Int))=false:=decide_eq_false (by omega)
   have e2:decide (i < n)=false:=decide_eq_false hil
   have HE:Hid (l.take i=l):=Lib.hid (List.take_of_length_le (by rw [← HN.out];omega))
   have HEQ:Hid (decide ((sm:Int) ≤ 20000)=decide (linedR l)):=Lib.hid (by
    have h:=HALL.out
    have h2:=HSM.out
    rw [HE.out] at h h2
    by_cases h20:sm ≤ 20000
    ·rw [decide_eq_true (show (sm:Int) ≤ 20000 by omega),decide_eq_true (show linedR l from ⟨h,h2 ▸ h20⟩)]
    ·rw [decide_eq_false (show ¬ (sm:Int) ≤ 20000 by omega),decide_eq_false (show ¬ linedR l from fun h'=>h20 (h2 ▸ h'.2))])
   obtain ⟨bz,hbz⟩:∃ bz,bz=decide (linedR l):=⟨_,rfl⟩
   have q8:decide ((sm:Int) ≤ 20000)=bz:=HEQ.out.trans hbz.symm
   have HBZ:=Lib.hid hbz
   clear hbz
   go_wp2
   go_ret
   exact ⟨by rw [← HBZ.out];first | rfl | simp [HEQ.out,HBZ.out],HB.out⟩
def rjC (x:RJob × Value):List Value:=[.int .i64 x.1.prog,x.2]
def RThrRd (W:World) (C:Nat) (l:List RJob) (v:Value):Prop:=∃ R c av,v=.slice R l.length c∧l.length ≤ 9223372036854775807∧av.length=l.length∧Reads W C 2 R l.length (rows rjC (l.zip av))∧∀ (j:Nat) x a,l[j]?=some x→av[j]?=some a→ListRd W C i64C x.args a
structure RSetRd (W:World) (C:Nat) (s:RSet) (rv pv tv:Value):Prop where
 regs:∃ R c,rv=.slice R s.regs.length c∧s.regs.length ≤ 9223372036854775807∧Reads W C 2 R s.regs.length (rows Reg.cells s.regs)
 progs:ListRd W C stC s.progs pv
 thr:∃ R c vs,tv=.slice R s.thr.length c∧s.thr.length ≤ 9223372036854775807∧vs.length=s.thr.length∧Reads W C 1 R s.thr.length (rows valC vs)∧∀ (i:Nat) l v,s.thr[i]?=some l→vs[i]?=some v→RThrRd W C l v
theorem RThrRd.below {W W':World} {C:Nat} {l:List RJob} {v:Value} (h:RThrRd W C l v) (hb:Below C W W'):RThrRd W' C l v:=by
 obtain ⟨R,c,av,h1,h2,h3,h4,h5⟩:=h
 exact ⟨R,c,av,h1,h2,h3,h4.below hb,fun j x a hx ha=>(h5 j x a hx ha).below hb⟩
theorem RThrRd.more {W:World} {C C':Nat} {l:List RJob} {v:Value} (h:RThrRd W C l v) (hC:C ≤ C'):RThrRd W C' l v:=by
 obtain ⟨R,c,av,h1,h2,h3,h4,h5⟩:=h
 exact ⟨R,c,av,h1,h2,h3,h4.more hC,fun j x a hx ha=>(h5 j x a hx ha).more hC⟩
theorem RSetRd.below {W W':World} {C:Nat} {s:RSet} {rv pv tv:Value} (h:RSetRd W C s rv pv tv) (hb:Below C W W'):RSetRd W' C s rv pv tv:=by
 obtain ⟨⟨R,c,a1,a2,a3⟩,b,⟨R',c',vs,d1,d2,d3,d4,d5⟩⟩:=h
 exact ⟨⟨R,c,a1,a2,a3.below hb⟩,b.below hb,⟨R',c',vs,d1,d2,d3,d4.below hb,fun i l v hl hv=>(d5 i l v hl hv).below hb⟩⟩
theorem RSetRd.more {W:World} {C C':Nat} {s:RSet} {rv pv tv:Value} (h:RSetRd W C s rv pv tv) (hC:C ≤ C'):RSetRd W C' s rv pv tv:=by
 obtain ⟨⟨R,c,a1,a2,a3⟩,b,⟨R',c',vs,d1,d2,d3,d4,d5⟩⟩:=h
 exact ⟨⟨R,c,a1,a2,a3.more hC⟩,b.more hC,⟨R',c',vs,d1,d2,d3,d4.more hC,fun i l v hl hv=>(d5 i l v hl hv).more hC⟩⟩
theorem rjob_cells {W:World} {C n:Nat} {R:Option Addr} {l:List RJob} {vs:List Value} (h:Reads W C 2 R n (rows rjC (l.zip vs))) (hv:vs.length=l.length) (hl:l.length=n) (hn:0 < n) :
  ∃ b off,R=some ⟨b,off,none⟩∧b < C∧∀ (i:Nat) x v,l[i]?=some x→vs[i]?=some v→W.cell? ⟨b,off + i * 2,none⟩=some (.int .i64 x.prog)∧W.cell? ⟨b,off + i * 2 + 1,none⟩=some v:=by
 obtain ⟨b,off,rfl,hb,hc⟩:=reads_flat h hn (by omega)
 refine ⟨b,off,rfl,hb,fun i x v hx hvx=>?_⟩
 have hzi:(l.zip vs)[i]?=some (x,v):=by
  rw [List.getElem?_zip_eq_some]
  exact ⟨hx,hvx⟩
 have hil:i < (l.zip vs).length:=(List.getElem?_eq_some_iff.1 hzi).1
 have hze:(l.zip vs)[i]=(x,v):=(List.getElem?_eq_some_iff.1 hzi).2
 have h0:=rows_at rjC 2 (fun _=>rfl) (l.zip vs) i 0 hil (by omega)
 have h1:=rows_at rjC 2 (fun _=>rfl) (l.zip vs) i 1 hil (by omega)
 rw [hze] at h0 h1
 exact ⟨by have:=hc (i * 2 + 0) _ h0;simpa using this,by have:=hc (i * 2 + 1) _ h1;simpa [Nat.add_assoc] using this⟩
def JobCells (w:World) (Q:Option Addr) (t:List RJob) (m:Nat):Prop:=∀ j,j < m→∃ (d o:Nat) (x:RJob) (A:Option Addr) (ma ca:Nat),Q=some ⟨d,o,none⟩∧d < w.heap.size∧t[j]?=some x∧x.args.length=ma∧ma ≤ 9223372036854775807∧Reads w w.heap.size 1 A ma (rows i64C x.args)∧∀ W,Below w.heap.size w W→W.cell? ⟨d,o + j * 2,none⟩=some (.int .i64 x.prog)∧W.cell? ⟨d,o + j * 2 + 1,none⟩=some (.slice A ma ca)
def ThrCells (w:World) (R:Option Addr) (l:List (List RJob)) (n:Nat):Prop:=∀ i,i < n→∃ (b off:Nat) (t:List RJob) (Q:Option Addr) (m q:Nat),R=some ⟨b,off,none⟩∧b < w.heap.size∧l[i]?=some t∧t.length=m∧m ≤ 9223372036854775807∧(∀ W,Below w.heap.size w W→W.cell? ⟨b,off + i,none⟩=some (.slice Q m q))∧JobCells w Q t m
theorem thr_all {w:World} {C:Nat} {s:RSet} {rv pv tv:Value} (hC:C ≤ w.heap.size) (hL:RSetRd w C s rv pv tv):∃ R c,tv=.slice R s.thr.length c∧ThrCells w R s.thr s.thr.length:=by
 obtain ⟨R,c,vs,rfl,hle,hvl,hR,hT⟩:=(hL.more hC).thr
 refine ⟨R,c,rfl,fun i hi=>?_⟩
 obtain ⟨b,off,rfl,hb,hc⟩:=list_cells (α:=Value) (enc:=valC) (l:=vs) (f:=fun x=>x) hR (fun _=>rfl) hvl (by omega)
 obtain ⟨t,ht⟩:∃ x,s.thr[i]?=some x:=⟨_,List.getElem?_eq_getElem (by omega)⟩
 obtain ⟨v,hv⟩:∃ v,vs[i]?=some v:=⟨_,List.getElem?_eq_getElem (by omega)⟩
 obtain ⟨Q,q,av,rfl,hm,hal,hQ,hA⟩:=hT i t v ht hv
 refine ⟨b,off,t,Q,t.length,q,rfl,hb,ht,rfl,hm,fun W hW=>(hW.cell hb).trans (hc i _ hv),fun j hj=>?_⟩
 obtain ⟨d,o,rfl,hd,hcd⟩:=rjob_cells hQ hal rfl (by omega)
 obtain ⟨x,hx⟩:∃ x,t[j]?=some x:=⟨_,List.getElem?_eq_getElem (by omega)⟩
 obtain ⟨a,ha⟩:∃ a,av[j]?=some a:=⟨_,List.getElem?_eq_getElem (by omega)⟩
 obtain ⟨A,ca,rfl,hma,hAr⟩:=hA j x a hx ha
 exact ⟨d,o,x,A,x.args.length,ca,rfl,hd,hx,rfl,hma,hAr,fun W hW=>⟨(hW.cell hd).trans (hcd j x _ hx ha).1,(hW.cell hd).trans (hcd j x _ hx ha).2⟩⟩
def thrR (n:Nat) (l:List RJob):Prop:=l.length ≤ 32∧∀ j ∈ l,rawJob n j
theorem may_no {s:RSet} {i:Nat} {t:List RJob} (hx:s.thr[i]?=some t) (h:¬ thrR s.progs.length t):decide (mayR s)=false:=decide_eq_false fun hl=>h (hl.2.2.2 t (List.mem_of_getElem? hx))
set_option maxHeartbeats 4000000 in
theorem may_any (s:RSet) (C:Nat) (rv pv tv:Value) (w:World) (hC:C ≤ w.heap.size) (hL:RSetRd w C s rv pv tv) :
  Calls Tryz.prog 26 #[.agg (setupC s.cfg rv pv tv)] w fun e w'=>e=.returned (.bool (decide (mayR s)))∧Below w.heap.size w w':=by
 obtain ⟨Rt,ct,rfl,hTC⟩:=thr_all hC hL
 obtain ⟨⟨Rr,cr,rfl,hr9,hrR⟩,⟨Rp,cp,rfl,hp9,hpR⟩,ht9⟩:=hL.more hC
 replace ht9:s.thr.length ≤ 9223372036854775807:=by obtain ⟨_,_,_,_,h,_⟩:=ht9;exact h
 obtain ⟨nr,hnr⟩:∃ nr,nr=s.regs.length:=⟨_,rfl⟩
 obtain ⟨np,hnp⟩:∃ np,np=s.progs.length:=⟨_,rfl⟩
 obtain ⟨nt,hnt⟩:∃ nt,nt=s.thr.length:=⟨_,rfl⟩
 rw [← hnr] at hr9 hrR ⊢
 rw [← hnp] at hp9 ⊢
 rw [← hnt] at ht9 hTC ⊢
 clear hpR
 obtain ⟨⟨a0,a1,a2,a3,a4,a5⟩,hcf⟩:∃ c,c=s.cfg:=⟨_,rfl⟩
 rw [← hcf]
 simp only [setupC]
 obtain ⟨w1,hw1⟩:∃ w1,w1=w.alloc (.cells #[.int .i64 a0,.int .i64 a1,.int .i64 a2,.int .i64 a3,.bool a4,.int .i64 a5,.slice Rr nr cr,.slice Rp np cp,.slice Rt nt ct] 29):=⟨_,rfl⟩
 obtain ⟨b1,hb1⟩:∃ b1,b1=w.heap.size:=⟨_,rfl⟩
 have HK1:Hid (Blk w1 b1 29 #[.int .i64 a0,.int .i64 a1,.int .i64 a2,.int .i64 a3,.bool a4,.int .i64 a5,.slice Rr nr cr,.slice Rp np cp,.slice Rt nt ct]):=Lib.hid (by rw [hw1,hb1];exact Blk.new _ _ _)
 have HB1:Hid (Below w.heap.size w w1):=Lib.hid (hw1 ▸ (Below.refl _ _).alloc (Nat.le_refl _) _)
 have HS1:Hid (b1 < w1.heap.size):=Lib.hid HK1.out.lt
 have HCHK:=Lib.hid (pcheck_any ⟨a0,a1,a2,a3,a4,a5⟩ s.regs Rr nr cr w1 w.heap.size hnr.symm hr9 HB1.out.size (hrR.below HB1.out))
 have HCF:=Lib.hid hcf
 have HNR:=Lib.hid hnr
 have HNP:=Lib.hid hnp
 have HNT:=Lib.hid hnt
 have HTC:=Lib.hid hTC
 clear hrR hC hL hcf hnr hnp hnt hTC hr9
 go_enter Tryz.func26,Tryz.ntmps26
 go_upto_region 1 with fail
 rw [← hw1,← hb1]
 clear hw1 hb1
 have p0:=(HK1.out.cell 0).trans (show _=some (Value.int .i64 a0) from rfl)
 have p1:=(HK1.out.cell 1).trans (show _=some (Value.int .i64 a1) from rfl)
 have p2:=(HK1.out.cell 2).trans (show _=some (Value.int .i64 a2) from rfl)
 have p3:=(HK1.out.cell 3).trans (show _=some (Value.int .i64 a3) from rfl)
 have p4:=(HK1.out.cell 4).trans (show _=some (Value.bool a4) from rfl)
 have p5:=(HK1.out.cell 5).trans (show _=some (Value.int .i64 a5) from rfl)
 have p6:=(HK1.out.cell 6).trans (show _=some (Value.slice Rr nr cr) from rfl)
 have p7:=(HK1.out.cell 7).trans (show _=some (Value.slice Rp np cp) from rfl)
 have p8:=(HK1.out.cell 8).trans (show _=some (Value.slice Rt nt ct) from rfl)
 have pl:=HS1.out
 by_cases hcfg:cfgOk ⟨a0,a1,a2,a3,a4,a5⟩ s.regs
 ·rw [checkF_yes hcfg] at HCHK
  have HCO:=Lib.hid hcfg
  clear hcfg
  by_cases h1:8 < nt
  ·have d1:decide ((8:Int) < (nt:Int))=true:=decide_eq_true (by omega)
   have d1':decide (8 < nt)=true:=decide_eq_true h1
   have HNO:Hid (decide (mayR s)=false):=Lib.hid (decide_eq_false fun h=>by have:=h.2.1;rw [← HNT.out] at this;omega)
   go_wp2_with (go_at_call 19;refine (HCHK.out).mono ?_;rintro e w2 ⟨rfl,hb2⟩;have HB2:=Lib.hid hb2;have HK2:=Lib.hid (HK1.out.below hb2 HS1.out);have p7:=(HK2.out.cell 7).trans (show _=some (Value.slice Rp np cp) from rfl);have p8:=(HK2.out.cell 8).trans (show _=some (Value.slice Rt nt ct) from rfl);have pl2:=HK2.out.lt;clear hb2)
   go_ret
   exact ⟨by rw [HNO.out];rfl,HB1.out.trans (HB2.out.mono HB1.out.size)⟩
  ·have d1:decide ((8:Int) < (nt:Int))=false:=decide_eq_false (by omega)
   have d1':decide (8 < nt)=false:=decide_eq_false h1
   by_cases h2:16 < np
   ·have d2:decide ((16:Int) < (np:Int))=true:=decide_eq_true (by omega)
    have d2':decide (16 < np)=true:=decide_eq_true h2
    have HNO:Hid (decide (mayR s)=false):=Lib.hid (decide_eq_false fun h=>by have:=h.2.2.1;rw [← HNP.out] at this;omega)
    go_wp2_with (go_at_call 19;refine (HCHK.out).mono ?_;rintro e w2 ⟨rfl,hb2⟩;have HB2:=Lib.hid hb2;have HK2:=Lib.hid (HK1.out.below hb2 HS1.out);have p7:=(HK2.out.cell 7).trans (show _=some (Value.slice Rp np cp) from rfl);have p8:=(HK2.out.cell 8).trans (show _=some (Value.slice Rt nt ct) from rfl);have pl2:=HK2.out.lt;clear hb2)
    go_ret
    exact ⟨by rw [HNO.out];rfl,HB1.out.trans (HB2.out.mono HB1.out.size)⟩
   ·have d2:decide ((16:Int) < (np:Int))=false:=decide_eq_false (by omega)
    have d2':decide (16 < np)=false:=decide_eq_false h2
    go_upto_region 3 with (go_at_call 19;refine (HCHK.out).mono ?_;rintro e w2 ⟨rfl,hb2⟩;have HB2:=Lib.hid hb2;have HK2:=Lib.hid (HK1.out.below hb2 HS1.out);have p7:=(HK2.out.cell 7).trans (show _=some (Value.slice Rp np cp) from rfl);have p8:=(HK2.out.cell 8).trans (show _=some (Value.slice Rt nt ct) from rfl);have pl2:=HK2.out.lt;clear hb2)
    have HB:Hid (Below w.heap.size w w2):=Lib.hid (HB1.out.trans (HB2.out.mono HB1.out.size))
    clear d1 d1' d2 d2' p0 p1 p2 p3 p4 p5 p6 pl HB2 HB1 HK1 HS1 HCHK
    have HS2:Hid (b1 < w2.heap.size):=Lib.hid pl2
    have HN1:=Lib.hid h1
    have HN2:=Lib.hid h2
    go_upto_region 4 with fail
    clear p7 p8 pl2 h1 h2
    go_loopg [26] nt (fun gk iv W=>∃ i:Nat,iv=.int .i64 i∧i ≤ nt∧gk + i=nt∧Hid (∀ t ∈ s.thr.take i,thrR np t)∧Hid (Below w2.heap.size w2 W))
    case atStart=>exact ⟨0,rfl,Nat.zero_le _,rfl,Lib.hid (by intro x hx;simp at hx),Lib.hid (Below.refl _ _)⟩
    case round =>
     obtain ⟨i,rfl,hi,hgk,HALL,HBW⟩:=hrel
     have HG:=Lib.hid hgk
     clear hgk
     by_cases hil:i < nt
     ·have e1:decide ((i:Int) < (nt:Int))=true:=decide_eq_true (by omega)
      have e2:decide (i < nt)=true:=decide_eq_true hil
      have e3:(i:Int) < (nt:Int):=by omega
      have zw:IntKind.i64.wrap ((i:Int) + 1)=(i:Int) + 1:=by rw [IntKind.wrap_i64];omega
      obtain ⟨b,off,t,Q,m,q,rfl,hb,ht,htl,hm9,hc,hj⟩:=HTC.out i hil
      have HBX:Hid (Below w.heap.size w wr):=Lib.hid (HB.out.trans (HBW.out.mono HB.out.size))
      have c1:=hc wr HBX.out
      have hbr:b < wr.heap.size:=Nat.lt_of_lt_of_le hb HBX.out.size
      have HX:=Lib.hid ht
      have HXL:=Lib.hid htl
      have HJ:=Lib.hid hj
      clear hc hj ht htl hb
      go_upto_region 6 with fail
      clear c1 hbr
      by_cases h3:32 < m
      ·have d3:decide ((32:Int) < (m:Int))=true:=decide_eq_true (by omega)
       have d3':decide (32 < m)=true:=decide_eq_true h3
       have HNO:=Lib.hid (may_no HX.out (fun h=>by have:=h.1;have:=HXL.out;omega))
       go_wp2
       go_ret
       exact ⟨by rw [HNO.out];rfl,HBX.out⟩
      ·have d3:decide ((32:Int) < (m:Int))=false:=decide_eq_false (by omega)
       have d3':decide (32 < m)=false:=decide_eq_false h3
       have H3:=Lib.hid h3
       go_upto_region 9 with fail
       clear d3 d3' h3
       go_loopg [35] m (fun gk iv W=>∃ j:Nat,iv=.int .i64 j∧j ≤ m∧gk + j=m∧Hid (∀ x ∈ t.take j,rawJob np x)∧Hid (Below w2.heap.size w2 W))
       case atStart=>exact ⟨0,rfl,Nat.zero_le _,rfl,Lib.hid (by intro x hx;simp at hx),HBW⟩
       case round =>
        clear HBX HBW
        obtain ⟨j,rfl,hj,hgj,HTA,HBW⟩:=hrel
        have HGJ:=Lib.hid hgj
        have HBX:Hid (Below w.heap.size w wr):=Lib.hid (HB.out.trans (HBW.out.mono HB.out.size))
        clear hgj
        by_cases hjl:j < m
        ·have f1:decide ((j:Int) < (m:Int))=true:=decide_eq_true (by omega)
         have f2:decide (j < m)=true:=decide_eq_true hjl
         have f3:(j:Int) < (m:Int):=by omega
         have zj:IntKind.i64.wrap ((j:Int) + 1)=(j:Int) + 1:=by rw [IntKind.wrap_i64];omega
         obtain ⟨d,o,⟨pr,args⟩,A,ma,ca,rfl,hd,hx,hxl,hma9,_,hcd⟩:=HJ.out j hjl
         simp only at hxl hcd
         have c1:=(hcd wr HBX.out).1
         have c2:=(hcd wr HBX.out).2
         have hdr:d < wr.heap.size:=Nat.lt_of_lt_of_le hd HBX.out.size
         have HXJ:=Lib.hid hx
         have HXA:=Lib.hid hxl
         obtain ⟨w5,hw5⟩:∃ w5,w5=wr.alloc (.cells #[.int .i64 pr,.slice A ma ca] 53):=⟨_,rfl⟩
         obtain ⟨b5,hb5⟩:∃ b5,b5=wr.heap.size:=⟨_,rfl⟩
         have HK5:Hid (Blk w5 b5 53 #[.int .i64 pr,.slice A ma ca]):=Lib.hid (by rw [hw5,hb5];exact Blk.new _ _ _)
         have HB5:Hid (Below w2.heap.size w2 w5):=Lib.hid (HBW.out.trans (hw5 ▸ (Below.refl _ _).alloc HBW.out.size _))
         have HB5X:Hid (Below w.heap.size w w5):=Lib.hid (HB.out.trans (HB5.out.mono HB.out.size))
         clear hcd hx hxl hd
         go_upto_region 11 with fail
         rw [← hw5,← hb5]
         clear hw5 hb5 c1 c2 hdr
         have p0:=(HK5.out.cell 0).trans (show _=some (Value.int .i64 pr) from rfl)
         have p1:=(HK5.out.cell 1).trans (show _=some (Value.slice A ma ca) from rfl)
         have pl:=HK5.out.lt
         have p7:=((HK2.out.below HB5.out HS2.out).cell 7).trans (show _=some (Value.slice Rp np cp) from rfl)
         have pl2:b1 < w5.heap.size:=Nat.lt_of_lt_of_le HS2.out HB5.out.size
         by_cases h4:pr < 0
         ·have d4:decide (pr < 0)=true:=decide_eq_true h4
          have HNO:=Lib.hid (may_no HX.out (fun h=>by have:=(h.2 _ (List.mem_of_getElem? HXJ.out)).1;simp only at this;omega))
          go_wp2
          go_ret
          exact ⟨by rw [HNO.out];rfl,HB5X.out⟩
         ·have d4:decide (pr < 0)=false:=decide_eq_false h4
          by_cases h5:(np:Int) ≤ pr
          ·have d5:decide ((np:Int) ≤ pr)=true:=decide_eq_true h5
           have HNO:=Lib.hid (may_no HX.out (fun h=>by have:=(h.2 _ (List.mem_of_getElem? HXJ.out)).2.1;rw [← HNP.out] at this;simp only at this;omega))
           go_wp2
           go_ret
           exact ⟨by rw [HNO.out];rfl,HB5X.out⟩
          ·have d5:decide ((np:Int) ≤ pr)=false:=decide_eq_false h5
           by_cases h6:4 < ma
           ·have d6:decide ((4:Int) < (ma:Int))=true:=decide_eq_true (by omega)
            have d6':decide (4 < ma)=true:=decide_eq_true h6
            have HNO:=Lib.hid (may_no HX.out (fun h=>by have:=(h.2 _ (List.mem_of_getElem? HXJ.out)).2.2;have h7:=HXA.out;simp only at this;omega))
            go_wp2
            go_ret
            exact ⟨by rw [HNO.out];rfl,HB5X.out⟩
           ·have d6:decide ((4:Int) < (ma:Int))=false:=decide_eq_false (by omega)
            have d6':decide (4 < ma)=false:=decide_eq_false h6
            have HTB:Hid (∀ x ∈ t.take (j + 1),rawJob np x):=Lib.hid (take_all HTA.out HXJ.out ⟨by simp only;omega,by simp only;omega,by have h7:=HXA.out;simp only;omega⟩)
            go_wp2
            go_roundg (m - (j + 1))
            case measure=>have:=HGJ.out;omega
            case rel=>exact ⟨j + 1,by simp,by omega,by omega,HTB,HB5⟩
        ·have f1:decide ((j:Int) < (m:Int))=false:=decide_eq_false (by omega)
         have f2:decide (j < m)=false:=decide_eq_false hjl
         have HAL':Hid (∀ t ∈ s.thr.take (i + 1),thrR np t):=Lib.hid (take_all HALL.out HX.out ⟨by have:=H3.out;have:=HXL.out;omega,by
          have h:=HTA.out
          have e:t.take j=t:=List.take_of_length_le (by rw [HXL.out];omega)
          rw [e] at h
          exact h⟩)
         go_wp2
         go_roundg (nt - (i + 1))
         case measure=>have:=HG.out;omega
         case rel=>exact ⟨i + 1,by simp,by omega,by omega,HAL',HBW⟩
     ·have e1:decide ((i:Int) < (nt:Int))=false:=decide_eq_false (by omega)
      have e2:decide (i < nt)=false:=decide_eq_false hil
      have HYES:Hid (decide (mayR s)=true):=Lib.hid (decide_eq_true ⟨by rw [← HCF.out];exact HCO.out,by have:=HN1.out;rw [← HNT.out];omega,by have:=HN2.out;rw [← HNP.out];omega,by
       have h:=HALL.out
       have e:s.thr.take i=s.thr:=List.take_of_length_le (by rw [← HNT.out];omega)
       rw [e,HNP.out] at h
       exact h⟩)
      go_wp2
      go_ret
      exact ⟨by rw [HYES.out];rfl,HB.out.trans (HBW.out.mono HB.out.size)⟩
 ·rw [checkF_no hcfg] at HCHK
  have HNO:Hid (decide (mayR s)=false):=Lib.hid (decide_eq_false fun h=>hcfg (by have:=h.1;rw [← HCF.out] at this;exact this))
  clear hcfg
  go_wp2_with (go_at_call 19;refine (HCHK.out).mono ?_;rintro e w2 ⟨rfl,hb2⟩;have HB2:=Lib.hid hb2;have HK2:=Lib.hid (HK1.out.below hb2 HS1.out);have p7:=(HK2.out.cell 7).trans (show _=some (Value.slice Rp np cp) from rfl);have p8:=(HK2.out.cell 8).trans (show _=some (Value.slice Rt nt ct) from rfl);have pl2:=HK2.out.lt;clear hb2)
  go_ret
  exact ⟨by rw [HNO.out];rfl,HB1.out.trans (HB2.out.mono HB1.out.size)⟩
end Go.Proofs.YtiheggkkgbfndaaGreatDoor
