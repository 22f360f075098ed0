/- carousellaw24: setups of the same, walked. -/
import Derived.Test.YtiheggkkgbfndaaGreatDoorL37
import Derived.Test.YtiheggkkgbfndaaGreatDoorL27
namespace Go.Proofs.YtiheggkkgbfndaaGreatDoor
open Go.RowKit Go.Joins Go.ChangeShapes Go.WideShapes Go.Deep
set_option linter.unusedVariables false
set_option linter.unusedSimpArgs false
set_option maxRecDepth 100000
set_option maxHeartbeats 8000000 in
theorem setups_same (c:Cfg) (s:PSet) (C:Nat) (rv pv tv rv' pv' tv':Value) (w:World) (hC:C ≤ w.heap.size) (hL:SetRd w C s rv pv tv) (hL':SetRd w C s rv' pv' tv') :
  Calls Tryz.prog 11 #[.agg (setupC c rv pv tv),.agg (setupC c rv' pv' tv')] w fun e w'=>e=.returned (.bool true)∧Below w.heap.size w w':=by
 obtain ⟨⟨Rr,cr,rfl,hr9,hrR⟩,⟨Rp,cp,rfl,hp9,hpR⟩,⟨Rt,ct,vs,rfl,ht9,hvl,htR,hTh⟩⟩:=hL
 obtain ⟨⟨Rr',cr',rfl,_,hrR'⟩,⟨Rp',cp',rfl,_,hpR'⟩,⟨Rt',ct',vs',rfl,_,hvl',htR',hTh'⟩⟩:=hL'
 obtain ⟨a0,a1,a2,a3,a4,a5⟩:=c
 simp only [setupC]
 obtain ⟨nr,hnr⟩:∃ nr,nr=s.regs.length:=⟨_,rfl⟩
 obtain ⟨np,hnp⟩:∃ np,np=s.progs.length:=⟨_,rfl⟩
 obtain ⟨nt,hnt⟩:∃ nt,nt=s.thr.length:=⟨_,rfl⟩
 rw [← hnr] at hr9 hrR hrR' ⊢
 rw [← hnp] at hp9 hpR hpR' ⊢
 rw [← hnt] at ht9 hvl hvl' htR htR' ⊢
 have HRR:=Lib.hid (And.intro hrR hrR')
 have HPR:=Lib.hid (And.intro hpR hpR')
 have HTR:=Lib.hid (And.intro htR htR')
 have HTT:=Lib.hid (And.intro hTh hTh')
 have HVL:=Lib.hid (And.intro hvl hvl')
 have HNR:=Lib.hid hnr
 have HNP:=Lib.hid hnp
 have HNT:=Lib.hid hnt
 obtain ⟨w1,hw1⟩:∃ w1,w1=w.alloc (.cells #[.int .i64 a0,.int .i64 a1,.int .i64 a2,.int .i64 a3,.bool a4,.int .i64 a5,.slice Rr nr cr,.slice Rp np cp,.slice Rt nt ct] 29):=⟨_,rfl⟩
 obtain ⟨w2,hw2⟩:∃ w2,w2=w1.alloc (.cells #[.int .i64 a0,.int .i64 a1,.int .i64 a2,.int .i64 a3,.bool a4,.int .i64 a5,.slice Rr' nr cr',.slice Rp' np cp',.slice Rt' nt ct'] 29):=⟨_,rfl⟩
 obtain ⟨w3,hw3⟩:∃ w3,w3=w2.alloc (.cells #[.int .i64 a0,.int .i64 a1,.int .i64 a2,.int .i64 a3,.bool a4,.int .i64 a5,.slice Rr nr cr] 25):=⟨_,rfl⟩
 obtain ⟨w4,hw4⟩:∃ w4,w4=w3.alloc (.cells #[.int .i64 a0,.int .i64 a1,.int .i64 a2,.int .i64 a3,.bool a4,.int .i64 a5,.slice Rr' nr cr'] 25):=⟨_,rfl⟩
 obtain ⟨b1,hb1⟩:∃ b1,b1=w.heap.size:=⟨_,rfl⟩
 obtain ⟨b2,hb2⟩:∃ b2,b2=w.heap.size + 1:=⟨_,rfl⟩
 obtain ⟨b3,hb3⟩:∃ b3,b3=w2.heap.size:=⟨_,rfl⟩
 obtain ⟨b4,hb4⟩:∃ b4,b4=w3.heap.size:=⟨_,rfl⟩
 have HK1:Hid (Blk w1 b1 29 #[.int .i64 a0,.int .i64 a1,.int .i64 a2,.int .i64 a3,.bool a4,.int .i64 a5,.slice Rr nr cr,.slice Rp np cp,.slice Rt nt ct]):=Lib.hid (by rw [hw1,hb1];exact Blk.new _ _ _)
 have HK2:Hid (Blk w2 b2 29 #[.int .i64 a0,.int .i64 a1,.int .i64 a2,.int .i64 a3,.bool a4,.int .i64 a5,.slice Rr' nr cr',.slice Rp' np cp',.slice Rt' nt ct']):=Lib.hid (by rw [hw2,hb2,show w.heap.size + 1=w1.heap.size by rw [hw1];simp];exact Blk.new _ _ _)
 have HK3:Hid (Blk w3 b3 25 #[.int .i64 a0,.int .i64 a1,.int .i64 a2,.int .i64 a3,.bool a4,.int .i64 a5,.slice Rr nr cr]):=Lib.hid (by rw [hw3,hb3];exact Blk.new _ _ _)
 have HK4:Hid (Blk w4 b4 25 #[.int .i64 a0,.int .i64 a1,.int .i64 a2,.int .i64 a3,.bool a4,.int .i64 a5,.slice Rr' nr cr']):=Lib.hid (by rw [hw4,hb4];exact Blk.new _ _ _)
 have HB1:Hid (Below w.heap.size w w1):=Lib.hid (hw1 ▸ (Below.refl _ _).alloc (Nat.le_refl _) _)
 have HB2:Hid (Below w.heap.size w w2):=Lib.hid (HB1.out.trans (hw2 ▸ (Below.refl _ _).alloc HB1.out.size _))
 have HB3:Hid (Below w.heap.size w w3):=Lib.hid (HB2.out.trans (hw3 ▸ (Below.refl _ _).alloc HB2.out.size _))
 have HB4:Hid (Below w.heap.size w w4):=Lib.hid (HB3.out.trans (hw4 ▸ (Below.refl _ _).alloc HB3.out.size _))
 have HRC:Hid (∀ i,i < nr→∃ (b off b' off':Nat) (x:Reg),Rr=some ⟨b,off,none⟩∧Rr'=some ⟨b',off',none⟩∧b < w4.heap.size∧b' < w4.heap.size∧∀ k,(w4.drewN k).cell? ⟨b,off + i * 2,none⟩=some (.int .i64 x.kind)∧(w4.drewN k).cell? ⟨b,off + i * 2 + 1,none⟩=some (.int .i64 x.cap)∧(w4.drewN k).cell? ⟨b',off' + i * 2,none⟩=some (.int .i64 x.kind)∧(w4.drewN k).cell? ⟨b',off' + i * 2 + 1,none⟩=some (.int .i64 x.cap)):=Lib.hid fun i hi=>by
  obtain ⟨b,off,h1,h2,h3⟩:=reg_cells' ((hrR.more hC).below HB4.out) hnr.symm (by omega)
  obtain ⟨b',off',h1',h2',h3'⟩:=reg_cells' ((hrR'.more hC).below HB4.out) hnr.symm (by omega)
  obtain ⟨x,hx⟩:∃ x,s.regs[i]?=some x:=⟨_,List.getElem?_eq_getElem (by omega)⟩
  exact ⟨b,off,b',off',x,h1,h1',Nat.lt_of_lt_of_le h2 HB4.out.size,Nat.lt_of_lt_of_le h2' HB4.out.size,fun k=>⟨(h3 i x hx).1,(h3 i x hx).2,(h3' i x hx).1,(h3' i x hx).2⟩⟩
 have HPC:Hid (∀ i,i < np→∃ (b off b' off':Nat) (x:ByteArray),Rp=some ⟨b,off,none⟩∧Rp'=some ⟨b',off',none⟩∧b < w4.heap.size∧b' < w4.heap.size∧∀ k,(w4.drewN k).cell? ⟨b,off + i,none⟩=some (.string x)∧(w4.drewN k).cell? ⟨b',off' + i,none⟩=some (.string x)):=Lib.hid fun i hi=>by
  have h0:0 < np:=by omega
  obtain ⟨b,off,h1,h2,h3⟩:=list_cells (α:=List UInt8) (enc:=stC) (l:=s.progs) (f:=fun x=>.string ⟨x.toArray⟩) ((hpR.more hC).below HB4.out) (fun _=>rfl) hnp.symm h0
  obtain ⟨b',off',h1',h2',h3'⟩:=list_cells (α:=List UInt8) (enc:=stC) (l:=s.progs) (f:=fun x=>.string ⟨x.toArray⟩) ((hpR'.more hC).below HB4.out) (fun _=>rfl) hnp.symm h0
  obtain ⟨x,hx⟩:∃ x,s.progs[i]?=some x:=⟨_,List.getElem?_eq_getElem (by omega)⟩
  exact ⟨b,off,b',off',⟨x.toArray⟩,h1,h1',Nat.lt_of_lt_of_le h2 HB4.out.size,Nat.lt_of_lt_of_le h2' HB4.out.size,fun k=>⟨h3 i x hx,h3' i x hx⟩⟩
 have HTC:Hid (∀ i,i < nt→∃ (b off b' off':Nat) (Q:Option Addr) (q:Nat) (Q':Option Addr) (q' m:Nat),Rt=some ⟨b,off,none⟩∧Rt'=some ⟨b',off',none⟩∧b < w4.heap.size∧b' < w4.heap.size∧m ≤ 9223372036854775807∧(∀ k,(w4.drewN k).cell? ⟨b,off + i,none⟩=some (.slice Q m q)∧(w4.drewN k).cell? ⟨b',off' + i,none⟩=some (.slice Q' m q'))∧∀ j,j < m→∃ (d o d' o' g:Nat) (a a':Value),Q=some ⟨d,o,none⟩∧Q'=some ⟨d',o',none⟩∧d < w4.heap.size∧d' < w4.heap.size∧∀ k,(w4.drewN k).cell? ⟨d,o + j * 2,none⟩=some (.int .i64 (g:Int))∧(w4.drewN k).cell? ⟨d,o + j * 2 + 1,none⟩=some a∧(w4.drewN k).cell? ⟨d',o' + j * 2,none⟩=some (.int .i64 (g:Int))∧(w4.drewN k).cell? ⟨d',o' + j * 2 + 1,none⟩=some a'∧Calls Tryz.prog 24 #[a,a'] (w4.drewN k) fun e w'=>e=.returned (.bool true)∧∃ u,w'=(w4.drewN k).drewN u):=Lib.hid fun i hi=>by
  obtain ⟨b,off,h1,h2,h3⟩:=list_cells (f:=fun x=>x) ((htR.more hC).below HB4.out) (fun _=>rfl) hvl (by omega)
  obtain ⟨b',off',h1',h2',h3'⟩:=list_cells (f:=fun x=>x) ((htR'.more hC).below HB4.out) (fun _=>rfl) hvl' (by omega)
  obtain ⟨x,hx⟩:∃ x,s.thr[i]?=some x:=⟨_,List.getElem?_eq_getElem (by omega)⟩
  obtain ⟨v,hv⟩:∃ v,vs[i]?=some v:=⟨_,List.getElem?_eq_getElem (by omega)⟩
  obtain ⟨v',hv'⟩:∃ v,vs'[i]?=some v:=⟨_,List.getElem?_eq_getElem (by omega)⟩
  obtain ⟨Q,q,av,rfl,hm,hal,hjR,hjA⟩:=((hTh i x v hx hv).more hC).below HB4.out
  obtain ⟨Q',q',av',rfl,_,hal',hjR',hjA'⟩:=((hTh' i x v' hx hv').more hC).below HB4.out
  refine ⟨b,off,b',off',Q,q,Q',q',x.length,h1,h1',Nat.lt_of_lt_of_le h2 HB4.out.size,Nat.lt_of_lt_of_le h2' HB4.out.size,hm,fun k=>⟨h3 i _ hv,h3' i _ hv'⟩,fun j hj=>?_⟩
  obtain ⟨d,o,g1,g2,g3⟩:=job_cells hjR hal rfl (by omega)
  obtain ⟨d',o',g1',g2',g3'⟩:=job_cells hjR' hal' rfl (by omega)
  obtain ⟨y,hy⟩:∃ y,x[j]?=some y:=⟨_,List.getElem?_eq_getElem hj⟩
  obtain ⟨a,ha⟩:∃ a,av[j]?=some a:=⟨_,List.getElem?_eq_getElem (by omega)⟩
  obtain ⟨a',ha'⟩:∃ a,av'[j]?=some a:=⟨_,List.getElem?_eq_getElem (by omega)⟩
  refine ⟨d,o,d',o',y.prog,a,a',g1,g1',Nat.lt_of_lt_of_le g2 HB4.out.size,Nat.lt_of_lt_of_le g2' HB4.out.size,fun k=>⟨(g3 j y a hy ha).1,(g3 j y a hy ha).2,(g3' j y a' hy ha').1,(g3' j y a' hy ha').2,?_⟩⟩
  obtain ⟨S,z,rfl,f1,f2⟩:=hjA j y a hy ha
  obtain ⟨S',z',rfl,_,f2'⟩:=hjA' j y a' hy ha'
  exact numbers_same y.args y.args.length z z' w.heap.size S S' (w4.drewN k) rfl f1 HB4.out.size (f2.drewN k) (f2'.drewN k)
 have HCW:=Lib.hid hC
 clear hrR hrR' hpR hpR' htR htR' hTh hTh' hvl hvl' hnr hnp hnt hC
 go_enter Tryz.func11,Tryz.ntmps11
 go_upto_region 1 with fail
 rw [← hw1,← hw2,← hb2,← hb1]
 have hk1:=HK1.out.below (w':=w2) (B:=w1.heap.size) (hw2 ▸ (Below.refl _ _).alloc (Nat.le_refl _) _) HK1.out.lt
 have hk2:=HK2.out
 have HE1:Hid (Blk w2 b1 29 #[.int .i64 a0,.int .i64 a1,.int .i64 a2,.int .i64 a3,.bool a4,.int .i64 a5,.slice Rr nr cr,.slice Rp np cp,.slice Rt nt ct]):=Lib.hid hk1
 clear hw1 hw2 hb1 hb2 hk1 hk2
 have p0:=(HE1.out.cell 0).trans (show _=some (Value.int .i64 a0) from rfl)
 have p1:=(HE1.out.cell 1).trans (show _=some (Value.int .i64 a1) from rfl)
 have p2:=(HE1.out.cell 2).trans (show _=some (Value.int .i64 a2) from rfl)
 have p3:=(HE1.out.cell 3).trans (show _=some (Value.int .i64 a3) from rfl)
 have p4:=(HE1.out.cell 4).trans (show _=some (Value.bool a4) from rfl)
 have p5:=(HE1.out.cell 5).trans (show _=some (Value.int .i64 a5) from rfl)
 have p6:=(HE1.out.cell 6).trans (show _=some (Value.slice Rr nr cr) from rfl)
 have pl:=HE1.out.lt
 go_upto_region 2 with fail
 rw [← hw3,← hb3]
 have hk3:=HK3.out
 have HE2:Hid (Blk w3 b2 29 #[.int .i64 a0,.int .i64 a1,.int .i64 a2,.int .i64 a3,.bool a4,.int .i64 a5,.slice Rr' nr cr',.slice Rp' np cp',.slice Rt' nt ct']):=Lib.hid (hw3 ▸ HK2.out.alloc _)
 have HE13:Hid (Blk w3 b1 29 #[.int .i64 a0,.int .i64 a1,.int .i64 a2,.int .i64 a3,.bool a4,.int .i64 a5,.slice Rr nr cr,.slice Rp np cp,.slice Rt nt ct]):=Lib.hid (hw3 ▸ HE1.out.alloc _)
 clear hw3 hb3 p0 p1 p2 p3 p4 p5 p6 pl hk3
 have p0:=(HE2.out.cell 0).trans (show _=some (Value.int .i64 a0) from rfl)
 have p1:=(HE2.out.cell 1).trans (show _=some (Value.int .i64 a1) from rfl)
 have p2:=(HE2.out.cell 2).trans (show _=some (Value.int .i64 a2) from rfl)
 have p3:=(HE2.out.cell 3).trans (show _=some (Value.int .i64 a3) from rfl)
 have p4:=(HE2.out.cell 4).trans (show _=some (Value.bool a4) from rfl)
 have p5:=(HE2.out.cell 5).trans (show _=some (Value.int .i64 a5) from rfl)
 have p6:=(HE2.out.cell 6).trans (show _=some (Value.slice Rr' nr cr') from rfl)
 have pl:=HE2.out.lt
 go_upto_region 3 with fail
 rw [← hw4,← hb4]
 have HJ1:Hid (Blk w4 b1 29 #[.int .i64 a0,.int .i64 a1,.int .i64 a2,.int .i64 a3,.bool a4,.int .i64 a5,.slice Rr nr cr,.slice Rp np cp,.slice Rt nt ct]):=Lib.hid (hw4 ▸ HE13.out.alloc _)
 have HJ2:Hid (Blk w4 b2 29 #[.int .i64 a0,.int .i64 a1,.int .i64 a2,.int .i64 a3,.bool a4,.int .i64 a5,.slice Rr' nr cr',.slice Rp' np cp',.slice Rt' nt ct']):=Lib.hid (hw4 ▸ HE2.out.alloc _)
 have HJ3:Hid (Blk w4 b3 25 #[.int .i64 a0,.int .i64 a1,.int .i64 a2,.int .i64 a3,.bool a4,.int .i64 a5,.slice Rr nr cr]):=Lib.hid (hw4 ▸ HK3.out.alloc _)
 clear hw4 hb4 p0 p1 p2 p3 p4 p5 p6 pl
 have j10:=(HJ1.out.cell 0).trans (show _=some (Value.int .i64 a0) from rfl)
 have j17:=(HJ1.out.cell 7).trans (show _=some (Value.slice Rp np cp) from rfl)
 have j18:=(HJ1.out.cell 8).trans (show _=some (Value.slice Rt nt ct) from rfl)
 have j27:=(HJ2.out.cell 7).trans (show _=some (Value.slice Rp' np cp') from rfl)
 have j28:=(HJ2.out.cell 8).trans (show _=some (Value.slice Rt' nt ct') from rfl)
 have j30:=(HJ3.out.cell 0).trans (show _=some (Value.int .i64 a0) from rfl)
 have j31:=(HJ3.out.cell 1).trans (show _=some (Value.int .i64 a1) from rfl)
 have j32:=(HJ3.out.cell 2).trans (show _=some (Value.int .i64 a2) from rfl)
 have j33:=(HJ3.out.cell 3).trans (show _=some (Value.int .i64 a3) from rfl)
 have j34:=(HJ3.out.cell 4).trans (show _=some (Value.bool a4) from rfl)
 have j35:=(HJ3.out.cell 5).trans (show _=some (Value.int .i64 a5) from rfl)
 have j36:=(HJ3.out.cell 6).trans (show _=some (Value.slice Rr nr cr) from rfl)
 have j40:=(HK4.out.cell 0).trans (show _=some (Value.int .i64 a0) from rfl)
 have j41:=(HK4.out.cell 1).trans (show _=some (Value.int .i64 a1) from rfl)
 have j42:=(HK4.out.cell 2).trans (show _=some (Value.int .i64 a2) from rfl)
 have j43:=(HK4.out.cell 3).trans (show _=some (Value.int .i64 a3) from rfl)
 have j44:=(HK4.out.cell 4).trans (show _=some (Value.bool a4) from rfl)
 have j45:=(HK4.out.cell 5).trans (show _=some (Value.int .i64 a5) from rfl)
 have j46:=(HK4.out.cell 6).trans (show _=some (Value.slice Rr' nr cr') from rfl)
 have jl1:=HJ1.out.lt
 have jl2:=HJ2.out.lt
 have jl3:=HJ3.out.lt
 have jl4:=HK4.out.lt
 have q0:(a0 != a0)=false:=by simp
 have q1:(a1 != a1)=false:=by simp
 have q2:(a2 != a2)=false:=by simp
 have q3:(a3 != a3)=false:=by simp
 have q4:(a4 != a4)=false:=by simp
 have q5:(a5 != a5)=false:=by simp
 have q6:((nr:Int) != (nr:Int))=false:=by simp
 have q7:((np:Int) != (np:Int))=false:=by simp
 have q8:((nt:Int) != (nt:Int))=false:=by simp
 simp only [List.append_eq,List.cons_append,List.nil_append]
 go_upto_region 6 with fail
 clear j10 j17 j18 j27 j28 j30 j31 j32 j33 j34 j35 j36 j40 j41 j42 j43 j44 j45 j46 jl1 jl2 jl3 jl4
 go_loopg [7] nr (fun gk iv W=>∃ i:Nat,iv=.int .i64 i∧i ≤ nr∧gk + i=nr∧Hid (∃ k,W=w4.drewN k))
 case atStart=>exact ⟨0,rfl,Nat.zero_le _,rfl,Lib.hid ⟨0,rfl⟩⟩
 case round =>
  obtain ⟨i,rfl,hii,hgi,HW⟩:=hrel
  have HG:=Lib.hid hgi
  clear hgi
  obtain ⟨k,hk⟩:=HW.out
  have HK:=Lib.hid hk
  clear hk
  have HQ1:Hid (Blk wr b1 29 #[.int .i64 a0,.int .i64 a1,.int .i64 a2,.int .i64 a3,.bool a4,.int .i64 a5,.slice Rr nr cr,.slice Rp np cp,.slice Rt nt ct]):=Lib.hid (HK.out ▸ HJ1.out.drewN _)
  have HQ2:Hid (Blk wr b2 29 #[.int .i64 a0,.int .i64 a1,.int .i64 a2,.int .i64 a3,.bool a4,.int .i64 a5,.slice Rr' nr cr',.slice Rp' np cp',.slice Rt' nt ct']):=Lib.hid (HK.out ▸ HJ2.out.drewN _)
  have HQ3:Hid (Blk wr b3 25 #[.int .i64 a0,.int .i64 a1,.int .i64 a2,.int .i64 a3,.bool a4,.int .i64 a5,.slice Rr nr cr]):=Lib.hid (HK.out ▸ HJ3.out.drewN _)
  have HQ4:Hid (Blk wr b4 25 #[.int .i64 a0,.int .i64 a1,.int .i64 a2,.int .i64 a3,.bool a4,.int .i64 a5,.slice Rr' nr cr']):=Lib.hid (HK.out ▸ HK4.out.drewN _)
  have j10:=(HQ1.out.cell 0).trans (show _=some (Value.int .i64 a0) from rfl)
  have j17:=(HQ1.out.cell 7).trans (show _=some (Value.slice Rp np cp) from rfl)
  have j18:=(HQ1.out.cell 8).trans (show _=some (Value.slice Rt nt ct) from rfl)
  have j27:=(HQ2.out.cell 7).trans (show _=some (Value.slice Rp' np cp') from rfl)
  have j28:=(HQ2.out.cell 8).trans (show _=some (Value.slice Rt' nt ct') from rfl)
  have j30:=(HQ3.out.cell 0).trans (show _=some (Value.int .i64 a0) from rfl)
  have j31:=(HQ3.out.cell 1).trans (show _=some (Value.int .i64 a1) from rfl)
  have j32:=(HQ3.out.cell 2).trans (show _=some (Value.int .i64 a2) from rfl)
  have j33:=(HQ3.out.cell 3).trans (show _=some (Value.int .i64 a3) from rfl)
  have j34:=(HQ3.out.cell 4).trans (show _=some (Value.bool a4) from rfl)
  have j35:=(HQ3.out.cell 5).trans (show _=some (Value.int .i64 a5) from rfl)
  have j36:=(HQ3.out.cell 6).trans (show _=some (Value.slice Rr nr cr) from rfl)
  have j40:=(HQ4.out.cell 0).trans (show _=some (Value.int .i64 a0) from rfl)
  have j41:=(HQ4.out.cell 1).trans (show _=some (Value.int .i64 a1) from rfl)
  have j42:=(HQ4.out.cell 2).trans (show _=some (Value.int .i64 a2) from rfl)
  have j43:=(HQ4.out.cell 3).trans (show _=some (Value.int .i64 a3) from rfl)
  have j44:=(HQ4.out.cell 4).trans (show _=some (Value.bool a4) from rfl)
  have j45:=(HQ4.out.cell 5).trans (show _=some (Value.int .i64 a5) from rfl)
  have j46:=(HQ4.out.cell 6).trans (show _=some (Value.slice Rr' nr cr') from rfl)
  have jl1:=HQ1.out.lt
  have jl2:=HQ2.out.lt
  have jl3:=HQ3.out.lt
  have jl4:=HQ4.out.lt
  by_cases hil:i < nr
  ·have e1:decide ((i:Int) < (nr:Int))=true:=decide_eq_true (by omega)
   have e2:decide (i < nr)=true:=decide_eq_true hil
   have e3:(i:Int) < (nr:Int):=by omega
   have zw:IntKind.i64.wrap ((i:Int) + 1)=(i:Int) + 1:=by rw [IntKind.wrap_i64];omega
   obtain ⟨b,off,b',off',x,rfl,rfl,hbl,hbl',hall⟩:=HRC.out i hil
   have c1:wr.cell? ⟨b,off + i * 2,none⟩=some (.int .i64 x.kind):=by rw [HK.out];exact (hall k).1
   have c2:wr.cell? ⟨b,off + i * 2 + 1,none⟩=some (.int .i64 x.cap):=by rw [HK.out];exact (hall k).2.1
   have c3:wr.cell? ⟨b',off' + i * 2,none⟩=some (.int .i64 x.kind):=by rw [HK.out];exact (hall k).2.2.1
   have c4:wr.cell? ⟨b',off' + i * 2 + 1,none⟩=some (.int .i64 x.cap):=by rw [HK.out];exact (hall k).2.2.2
   have hbr:b < wr.heap.size:=by rw [HK.out];exact hbl
   have hbr':b' < wr.heap.size:=by rw [HK.out];exact hbl'
   have q9:((x.kind:Int) != (x.kind:Int))=false:=by simp
   have q10:((x.cap:Int) != (x.cap:Int))=false:=by simp
   clear hall
   go_upto_region 8 with fail
   go_quiet (fail)
   go_wp2
   go_roundg (nr - (i + 1))
   case measure=>have:=HG.out;omega
   case rel=>exact ⟨i + 1,by simp,by omega,by omega,Lib.hid ⟨_,by rw [HK.out,World.drewN_drewN]⟩⟩
  ·have e1:decide ((i:Int) < (nr:Int))=false:=decide_eq_false (by omega)
   have e2:decide (i < nr)=false:=decide_eq_false hil
   go_upto_region 11 with fail
   clear j10 j17 j18 j27 j28 j30 j31 j32 j33 j34 j35 j36 j40 j41 j42 j43 j44 j45 j46 jl1 jl2 jl3 jl4
   clear HQ1 HQ2 HQ3 HQ4 e1 e2 hil HG hii
   go_loopg [8] np (fun gk iv W=>∃ i:Nat,iv=.int .i64 i∧i ≤ np∧gk + i=np∧Hid (∃ k,W=w4.drewN k))
   case atStart=>exact ⟨0,rfl,Nat.zero_le _,rfl,Lib.hid ⟨k,HK.out⟩⟩
   case round =>
    obtain ⟨i,rfl,hii,hgi,HW⟩:=hrel
    have HG:=Lib.hid hgi
    clear hgi
    clear HK
    obtain ⟨k,hk⟩:=HW.out
    have HK:=Lib.hid hk
    clear hk
    have HQ1:Hid (Blk wr b1 29 #[.int .i64 a0,.int .i64 a1,.int .i64 a2,.int .i64 a3,.bool a4,.int .i64 a5,.slice Rr nr cr,.slice Rp np cp,.slice Rt nt ct]):=Lib.hid (HK.out ▸ HJ1.out.drewN _)
    have HQ2:Hid (Blk wr b2 29 #[.int .i64 a0,.int .i64 a1,.int .i64 a2,.int .i64 a3,.bool a4,.int .i64 a5,.slice Rr' nr cr',.slice Rp' np cp',.slice Rt' nt ct']):=Lib.hid (HK.out ▸ HJ2.out.drewN _)
    have HQ3:Hid (Blk wr b3 25 #[.int .i64 a0,.int .i64 a1,.int .i64 a2,.int .i64 a3,.bool a4,.int .i64 a5,.slice Rr nr cr]):=Lib.hid (HK.out ▸ HJ3.out.drewN _)
    have HQ4:Hid (Blk wr b4 25 #[.int .i64 a0,.int .i64 a1,.int .i64 a2,.int .i64 a3,.bool a4,.int .i64 a5,.slice Rr' nr cr']):=Lib.hid (HK.out ▸ HK4.out.drewN _)
    have j10:=(HQ1.out.cell 0).trans (show _=some (Value.int .i64 a0) from rfl)
    have j17:=(HQ1.out.cell 7).trans (show _=some (Value.slice Rp np cp) from rfl)
    have j18:=(HQ1.out.cell 8).trans (show _=some (Value.slice Rt nt ct) from rfl)
    have j27:=(HQ2.out.cell 7).trans (show _=some (Value.slice Rp' np cp') from rfl)
    have j28:=(HQ2.out.cell 8).trans (show _=some (Value.slice Rt' nt ct') from rfl)
    have j30:=(HQ3.out.cell 0).trans (show _=some (Value.int .i64 a0) from rfl)
    have j31:=(HQ3.out.cell 1).trans (show _=some (Value.int .i64 a1) from rfl)
    have j32:=(HQ3.out.cell 2).trans (show _=some (Value.int .i64 a2) from rfl)
    have j33:=(HQ3.out.cell 3).trans (show _=some (Value.int .i64 a3) from rfl)
    have j34:=(HQ3.out.cell 4).trans (show _=some (Value.bool a4) from rfl)
    have j35:=(HQ3.out.cell 5).trans (show _=some (Value.int .i64 a5) from rfl)
    have j36:=(HQ3.out.cell 6).trans (show _=some (Value.slice Rr nr cr) from rfl)
    have j40:=(HQ4.out.cell 0).trans (show _=some (Value.int .i64 a0) from rfl)
    have j41:=(HQ4.out.cell 1).trans (show _=some (Value.int .i64 a1) from rfl)
    have j42:=(HQ4.out.cell 2).trans (show _=some (Value.int .i64 a2) from rfl)
    have j43:=(HQ4.out.cell 3).trans (show _=some (Value.int .i64 a3) from rfl)
    have j44:=(HQ4.out.cell 4).trans (show _=some (Value.bool a4) from rfl)
    have j45:=(HQ4.out.cell 5).trans (show _=some (Value.int .i64 a5) from rfl)
    have j46:=(HQ4.out.cell 6).trans (show _=some (Value.slice Rr' nr cr') from rfl)
    have jl1:=HQ1.out.lt
    have jl2:=HQ2.out.lt
    have jl3:=HQ3.out.lt
    have jl4:=HQ4.out.lt
    by_cases hil:i < np
    ·have e1:decide ((i:Int) < (np:Int))=true:=decide_eq_true (by omega)
     have e2:decide (i < np)=true:=decide_eq_true hil
     have e3:(i:Int) < (np:Int):=by omega
     have zw:IntKind.i64.wrap ((i:Int) + 1)=(i:Int) + 1:=by rw [IntKind.wrap_i64];omega
     obtain ⟨b,off,b',off',x,rfl,rfl,hbl,hbl',hall⟩:=HPC.out i hil
     have c1:wr.cell? ⟨b,off + i,none⟩=some (.string x):=by rw [HK.out];exact (hall k).1
     have c2:wr.cell? ⟨b',off' + i,none⟩=some (.string x):=by rw [HK.out];exact (hall k).2
     have hbr:b < wr.heap.size:=by rw [HK.out];exact hbl
     have hbr':b' < wr.heap.size:=by rw [HK.out];exact hbl'

     clear hall
     go_upto_region 13 with fail
     go_quiet (fail)
     go_wp2
     go_roundg (np - (i + 1))
     case measure=>have:=HG.out;omega
     case rel=>exact ⟨i + 1,by simp,by omega,by omega,Lib.hid ⟨_,by rw [HK.out,World.drewN_drewN]⟩⟩
    ·have e1:decide ((i:Int) < (np:Int))=false:=decide_eq_false (by omega)
     have e2:decide (i < np)=false:=decide_eq_false hil
     go_upto_region 16 with fail
     clear j10 j17 j18 j27 j28 j30 j31 j32 j33 j34 j35 j36 j40 j41 j42 j43 j44 j45 j46 jl1 jl2 jl3 jl4
     clear HQ1 HQ2 HQ3 HQ4 e1 e2 hil HG hii
     go_loopg [9,10,11] nt (fun gk iv _ _ W=>∃ i:Nat,iv=.int .i64 i∧i ≤ nt∧gk + i=nt∧Hid (∃ k,W=w4.drewN k))
     case atStart=>exact ⟨0,rfl,Nat.zero_le _,rfl,Lib.hid ⟨k,HK.out⟩⟩
     case round =>
      obtain ⟨i,rfl,hii,hgi,HW⟩:=hrel
      have HG:=Lib.hid hgi
      clear hgi
      clear HK
      obtain ⟨k,hk⟩:=HW.out
      have HK:=Lib.hid hk
      clear hk
      have HQ1:Hid (Blk wr b1 29 #[.int .i64 a0,.int .i64 a1,.int .i64 a2,.int .i64 a3,.bool a4,.int .i64 a5,.slice Rr nr cr,.slice Rp np cp,.slice Rt nt ct]):=Lib.hid (HK.out ▸ HJ1.out.drewN _)
      have HQ2:Hid (Blk wr b2 29 #[.int .i64 a0,.int .i64 a1,.int .i64 a2,.int .i64 a3,.bool a4,.int .i64 a5,.slice Rr' nr cr',.slice Rp' np cp',.slice Rt' nt ct']):=Lib.hid (HK.out ▸ HJ2.out.drewN _)
      have HQ3:Hid (Blk wr b3 25 #[.int .i64 a0,.int .i64 a1,.int .i64 a2,.int .i64 a3,.bool a4,.int .i64 a5,.slice Rr nr cr]):=Lib.hid (HK.out ▸ HJ3.out.drewN _)
      have HQ4:Hid (Blk wr b4 25 #[.int .i64 a0,.int .i64 a1,.int .i64 a2,.int .i64 a3,.bool a4,.int .i64 a5,.slice Rr' nr cr']):=Lib.hid (HK.out ▸ HK4.out.drewN _)
      have j10:=(HQ1.out.cell 0).trans (show _=some (Value.int .i64 a0) from rfl)
      have j17:=(HQ1.out.cell 7).trans (show _=some (Value.slice Rp np cp) from rfl)
      have j18:=(HQ1.out.cell 8).trans (show _=some (Value.slice Rt nt ct) from rfl)
      have j27:=(HQ2.out.cell 7).trans (show _=some (Value.slice Rp' np cp') from rfl)
      have j28:=(HQ2.out.cell 8).trans (show _=some (Value.slice Rt' nt ct') from rfl)
      have j30:=(HQ3.out.cell 0).trans (show _=some (Value.int .i64 a0) from rfl)
      have j31:=(HQ3.out.cell 1).trans (show _=some (Value.int .i64 a1) from rfl)
      have j32:=(HQ3.out.cell 2).trans (show _=some (Value.int .i64 a2) from rfl)
      have j33:=(HQ3.out.cell 3).trans (show _=some (Value.int .i64 a3) from rfl)
      have j34:=(HQ3.out.cell 4).trans (show _=some (Value.bool a4) from rfl)
      have j35:=(HQ3.out.cell 5).trans (show _=some (Value.int .i64 a5) from rfl)
      have j36:=(HQ3.out.cell 6).trans (show _=some (Value.slice Rr nr cr) from rfl)
      have j40:=(HQ4.out.cell 0).trans (show _=some (Value.int .i64 a0) from rfl)
      have j41:=(HQ4.out.cell 1).trans (show _=some (Value.int .i64 a1) from rfl)
      have j42:=(HQ4.out.cell 2).trans (show _=some (Value.int .i64 a2) from rfl)
      have j43:=(HQ4.out.cell 3).trans (show _=some (Value.int .i64 a3) from rfl)
      have j44:=(HQ4.out.cell 4).trans (show _=some (Value.bool a4) from rfl)
      have j45:=(HQ4.out.cell 5).trans (show _=some (Value.int .i64 a5) from rfl)
      have j46:=(HQ4.out.cell 6).trans (show _=some (Value.slice Rr' nr cr') from rfl)
      have jl1:=HQ1.out.lt
      have jl2:=HQ2.out.lt
      have jl3:=HQ3.out.lt
      have jl4:=HQ4.out.lt
      by_cases hil:i < nt
      ·have e1:decide ((i:Int) < (nt:Int))=true:=decide_eq_true (by omega)
       have e2:decide (i < nt)=true:=decide_eq_true hil
       have e3:(i:Int) < (nt:Int):=by omega
       have zw:IntKind.i64.wrap ((i:Int) + 1)=(i:Int) + 1:=by rw [IntKind.wrap_i64];omega
       obtain ⟨b,off,b',off',Q,q,Q',q',m,rfl,rfl,hbl,hbl',hm,hall,hjob⟩:=HTC.out i hil
       have c1:wr.cell? ⟨b,off + i,none⟩=some (.slice Q m q):=by rw [HK.out];exact (hall k).1
       have c2:wr.cell? ⟨b',off' + i,none⟩=some (.slice Q' m q'):=by rw [HK.out];exact (hall k).2
       have hbr:b < wr.heap.size:=by rw [HK.out];exact hbl
       have hbr':b' < wr.heap.size:=by rw [HK.out];exact hbl'
       have q9:((m:Int) != (m:Int))=false:=by simp
       have HAL:=Lib.hid hall
       have HJB:=Lib.hid hjob
       clear hall hjob
       go_upto_region 18 with fail
       go_quiet (fail)
       go_upto_region 21 with fail
       clear c1 c2
       clear j10 j17 j18 j27 j28 j30 j31 j32 j33 j34 j35 j36 j40 j41 j42 j43 j44 j45 j46 jl1 jl2 jl3 jl4
       clear HQ1 HQ2 HQ3 HQ4
       go_loopg [10,11] m (fun gk iv _ W=>∃ j:Nat,iv=.int .i64 j∧j ≤ m∧gk + j=m∧Hid (∃ k,W=w4.drewN k))
       case atStart=>exact ⟨0,rfl,Nat.zero_le _,rfl,Lib.hid ⟨_,by rw [HK.out,World.drewN_drewN]⟩⟩
       case round =>
        obtain ⟨j,rfl,hij,hgj,HW⟩:=hrel
        have HGJ:=Lib.hid hgj
        clear hgj
        clear HK hbr hbr'
        obtain ⟨k,hk⟩:=HW.out
        have HK:=Lib.hid hk
        clear hk
        have HQ1:Hid (Blk wr b1 29 #[.int .i64 a0,.int .i64 a1,.int .i64 a2,.int .i64 a3,.bool a4,.int .i64 a5,.slice Rr nr cr,.slice Rp np cp,.slice (some ⟨b,off,none⟩) nt ct]):=Lib.hid (HK.out ▸ HJ1.out.drewN _)
        have HQ2:Hid (Blk wr b2 29 #[.int .i64 a0,.int .i64 a1,.int .i64 a2,.int .i64 a3,.bool a4,.int .i64 a5,.slice Rr' nr cr',.slice Rp' np cp',.slice (some ⟨b',off',none⟩) nt ct']):=Lib.hid (HK.out ▸ HJ2.out.drewN _)
        have HQ3:Hid (Blk wr b3 25 #[.int .i64 a0,.int .i64 a1,.int .i64 a2,.int .i64 a3,.bool a4,.int .i64 a5,.slice Rr nr cr]):=Lib.hid (HK.out ▸ HJ3.out.drewN _)
        have HQ4:Hid (Blk wr b4 25 #[.int .i64 a0,.int .i64 a1,.int .i64 a2,.int .i64 a3,.bool a4,.int .i64 a5,.slice Rr' nr cr']):=Lib.hid (HK.out ▸ HK4.out.drewN _)
        have j10:=(HQ1.out.cell 0).trans (show _=some (Value.int .i64 a0) from rfl)
        have j17:=(HQ1.out.cell 7).trans (show _=some (Value.slice Rp np cp) from rfl)
        have j18:=(HQ1.out.cell 8).trans (show _=some (Value.slice (some ⟨b,off,none⟩) nt ct) from rfl)
        have j27:=(HQ2.out.cell 7).trans (show _=some (Value.slice Rp' np cp') from rfl)
        have j28:=(HQ2.out.cell 8).trans (show _=some (Value.slice (some ⟨b',off',none⟩) nt ct') from rfl)
        have j30:=(HQ3.out.cell 0).trans (show _=some (Value.int .i64 a0) from rfl)
        have j31:=(HQ3.out.cell 1).trans (show _=some (Value.int .i64 a1) from rfl)
        have j32:=(HQ3.out.cell 2).trans (show _=some (Value.int .i64 a2) from rfl)
        have j33:=(HQ3.out.cell 3).trans (show _=some (Value.int .i64 a3) from rfl)
        have j34:=(HQ3.out.cell 4).trans (show _=some (Value.bool a4) from rfl)
        have j35:=(HQ3.out.cell 5).trans (show _=some (Value.int .i64 a5) from rfl)
        have j36:=(HQ3.out.cell 6).trans (show _=some (Value.slice Rr nr cr) from rfl)
        have j40:=(HQ4.out.cell 0).trans (show _=some (Value.int .i64 a0) from rfl)
        have j41:=(HQ4.out.cell 1).trans (show _=some (Value.int .i64 a1) from rfl)
        have j42:=(HQ4.out.cell 2).trans (show _=some (Value.int .i64 a2) from rfl)
        have j43:=(HQ4.out.cell 3).trans (show _=some (Value.int .i64 a3) from rfl)
        have j44:=(HQ4.out.cell 4).trans (show _=some (Value.bool a4) from rfl)
        have j45:=(HQ4.out.cell 5).trans (show _=some (Value.int .i64 a5) from rfl)
        have j46:=(HQ4.out.cell 6).trans (show _=some (Value.slice Rr' nr cr') from rfl)
        have jl1:=HQ1.out.lt
        have jl2:=HQ2.out.lt
        have jl3:=HQ3.out.lt
        have jl4:=HQ4.out.lt
        have c1:wr.cell? ⟨b,off + i,none⟩=some (.slice Q m q):=by rw [HK.out];exact (HAL.out k).1
        have c2:wr.cell? ⟨b',off' + i,none⟩=some (.slice Q' m q'):=by rw [HK.out];exact (HAL.out k).2
        have hbr:b < wr.heap.size:=by rw [HK.out];exact hbl
        have hbr':b' < wr.heap.size:=by rw [HK.out];exact hbl'
        by_cases hjl:j < m
        ·have f1:decide ((j:Int) < (m:Int))=true:=decide_eq_true (by omega)
         have f2:decide (j < m)=true:=decide_eq_true hjl
         have f3:(j:Int) < (m:Int):=by omega
         have zj:IntKind.i64.wrap ((j:Int) + 1)=(j:Int) + 1:=by rw [IntKind.wrap_i64];omega
         obtain ⟨d,o,d',o',g,a,a',rfl,rfl,hdl,hdl',hcal⟩:=HJB.out j hjl
         have c3:wr.cell? ⟨d,o + j * 2,none⟩=some (.int .i64 (g:Int)):=by rw [HK.out];exact (hcal k).1
         have c4:wr.cell? ⟨d,o + j * 2 + 1,none⟩=some a:=by rw [HK.out];exact (hcal k).2.1
         have c5:wr.cell? ⟨d',o' + j * 2,none⟩=some (.int .i64 (g:Int)):=by rw [HK.out];exact (hcal k).2.2.1
         have c6:wr.cell? ⟨d',o' + j * 2 + 1,none⟩=some a':=by rw [HK.out];exact (hcal k).2.2.2.1
         have hdr:d < wr.heap.size:=by rw [HK.out];exact hdl
         have hdr':d' < wr.heap.size:=by rw [HK.out];exact hdl'
         have q10:((g:Int) != (g:Int))=false:=by simp
         have HIN:Hid (∀ z,Calls Tryz.prog 24 #[a,a'] (wr.drewN z) fun e w'=>e=.returned (.bool true)∧∃ u,w'=(wr.drewN z).drewN u):=Lib.hid fun z=>by
          have h1:=(hcal (k + z)).2.2.2.2
          rw [HK.out,World.drewN_drewN]
          exact h1
         clear hcal
         go_upto_region 23 with fail
         go_quiet ((go_at_call 24;exact Calls.quiet_of (HIN.out _)))
         go_upto_region 24 with fail
         go_quiet (fail)
         go_wp2
         go_roundg (m - (j + 1))
         case measure=>have:=HGJ.out;omega
         case rel=>exact ⟨j + 1,by simp,by omega,by omega,Lib.hid ⟨_,by rw [HK.out,World.drewN_drewN]⟩⟩
        ·have f1:decide ((j:Int) < (m:Int))=false:=decide_eq_false (by omega)
         have f2:decide (j < m)=false:=decide_eq_false hjl
         go_wp2
         go_roundg (nt - (i + 1))
         case measure=>have:=HG.out;omega
         case rel=>exact ⟨i + 1,by simp,by omega,by omega,Lib.hid ⟨_,HK.out⟩⟩
      ·have e1:decide ((i:Int) < (nt:Int))=false:=decide_eq_false (by omega)
       have e2:decide (i < nt)=false:=decide_eq_false hil
       go_wp2
       go_ret
       exact ⟨rfl,HK.out ▸ below_drewN HB4.out k⟩
end Go.Proofs.YtiheggkkgbfndaaGreatDoor
namespace Go.Proofs.YtiheggkkgbfndaaGreatDoor
open Go Go.Lib
set_option linter.unusedVariables false
set_option linter.unusedSimpArgs false
structure RJob where
 prog:Int
 args:List Int
structure RLine where
 kind:Int
 thr:List Int
structure RSet where
 cfg:Cfg
 regs:List Reg
 progs:List (List UInt8)
 thr:List (List RJob)
def PJob.raw (j:PJob):RJob:=⟨j.prog,j.args⟩
def PLine.raw (p:PLine):RLine:=⟨p.kind,p.thr.map fun (t:Nat)=>(t:Int)⟩
def PSet.raw (s:PSet):RSet:=⟨s.cfg,s.regs,s.progs,s.thr.map fun l=>l.map PJob.raw⟩
def rawJob (n:Nat) (j:RJob):Prop:=0 ≤ j.prog∧j.prog < n∧j.args.length ≤ 4
instance (n:Nat) (j:RJob):Decidable (rawJob n j):=by unfold rawJob;infer_instance
def mayR (s:RSet):Prop:=cfgOk s.cfg s.regs∧s.thr.length ≤ 8∧s.progs.length ≤ 16∧∀ l ∈ s.thr,l.length ≤ 32∧∀ j ∈ l,rawJob s.progs.length j
instance (s:RSet):Decidable (mayR s):=by unfold mayR;infer_instance
def lineR (x:RLine):Prop:=1 ≤ x.kind∧x.kind ≤ 7∧(x.kind=1 ↔ x.thr ≠ [])∧∀ t ∈ x.thr,0 ≤ t∧t ≤ 99
instance (x:RLine):Decidable (lineR x):=by unfold lineR;infer_instance
def manyR (l:List RLine):Nat:=(l.map fun x=>x.thr.length).sum
def linedR (l:List RLine):Prop:=(∀ x ∈ l,lineR x)∧manyR l ≤ 20000
instance (l:List RLine):Decidable (linedR l):=by unfold linedR;infer_instance
theorem manyR_raw (q:List PLine):manyR (q.map PLine.raw)=stepsN q:=by
 unfold manyR stepsN
 rw [List.map_map]
 congr 1
 refine List.map_congr_left fun p _=>?_
 show (p.thr.map fun (t:Nat)=>(t:Int)).length=p.thr.length
 rw [List.length_map]
/-! ### what is printed, of what was read -/
theorem PSet.may {s:PSet} {ps:List (List AOp)} {l:List PLine} (h:SetOk s ps l):mayR s.raw∧linedR (l.map PLine.raw):=by
 refine ⟨⟨h.cfg,by show (s.thr.map _).length ≤ 8;rw [List.length_map];exact h.thr,by show s.progs.length ≤ 16;rw [h.progs,List.length_map];exact h.many,?_⟩,?_,by rw [manyR_raw];exact h.steps⟩
 ·intro t ht
  obtain ⟨t',ht',rfl⟩:=List.mem_map.1 ht
  obtain ⟨g1,g2⟩:=h.jobs t' ht'
  refine ⟨by rw [List.length_map];exact g1,fun j hj=>?_⟩
  obtain ⟨j',hj',rfl⟩:=List.mem_map.1 hj
  obtain ⟨k1,k2,k3⟩:=g2 j' hj'
  exact ⟨Int.natCast_nonneg _,by show ((j'.prog:Nat):Int) < (s.progs.length:Nat);omega,k2⟩
 ·intro x hx
  obtain ⟨p,hp,rfl⟩:=List.mem_map.1 hx
  rcases h.lines p hp with ⟨h1,h2,h3⟩ | ⟨h1,h2,h3⟩
  ·refine ⟨by show 1 ≤ (p.kind:Int);omega,by show (p.kind:Int) ≤ 7;omega,⟨fun _ e=>h2 (List.map_eq_nil_iff.1 e),fun _=>by show (p.kind:Int)=1;omega⟩,?_⟩
   intro t ht
   obtain ⟨u,hu,rfl⟩:=List.mem_map.1 ht
   have:=h3 u hu
   omega
  ·refine ⟨by show 1 ≤ (p.kind:Int);omega,by show (p.kind:Int) ≤ 7;omega,⟨fun e=>?_,fun e=>absurd (by show (p.thr.map fun (t:Nat)=>(t:Int))=[];rw [h3];rfl) e⟩,?_⟩
   ·have e:(p.kind:Int)=1:=e
    omega
   ·intro t ht
    have ht:t ∈ p.thr.map fun (t:Nat)=>(t:Int):=ht
    rw [h3] at ht
    cases ht
end Go.Proofs.YtiheggkkgbfndaaGreatDoor
namespace Go.Proofs.YtiheggkkgbfndaaGreatDoor
open Go.RowKit Go.Joins Go.ChangeShapes Go.WideShapes Go.Deep
set_option linter.unusedVariables false
set_option linter.unusedSimpArgs false
set_option maxRecDepth 100000
theorem i64_cells {W:World} {C n:Nat} {R:Option Addr} {l:List Int} (h:Reads W C 1 R n (rows i64C l)) (hl:l.length=n) (hn:0 < n) :
  ∃ b off,R=some ⟨b,off,none⟩∧b < C∧∀ (i:Nat) x,l[i]?=some x→W.cell? ⟨b,off + i,none⟩=some (.int .i64 x):=list_cells (α:=Int) (enc:=i64C) (l:=l) (f:=fun x=>.int .i64 x) h (fun _=>rfl) hl hn
theorem sum_text (q l:ByteArray) (h:q.size + l.size ≤ 9223372036854775807):∃ r:ByteArray,r.data.toList=q.data.toList ++ l.data.toList∧∀ W,(Op.stringOp .add q l).run Tryz.prog W=.ok (.string r) W :=
 ⟨q ++ l,by rw [ByteArray.data_append,Array.toList_append],fun W=>run_string_add_sum (P:=Tryz.prog) W q l h⟩
theorem size_list (t:ByteArray):t.size=t.data.toList.length:=by
 rw [Array.length_toList]
 rfl
theorem row_step (L:List Int) (i:Nat) (v:Int) (h:L[i]?=some v) (word t a r:ByteArray) (ht:t.data.toList=word.data.toList ++ (L.take i).flatMap fun n=>32 :: Go.Lib.itoa n) (ha:a.data.toList=[32] ++ Go.Lib.itoa v) (hr:r.data.toList=t.data.toList ++ a.data.toList) :
  r.data.toList=word.data.toList ++ (L.take (i + 1)).flatMap fun n=>32 :: Go.Lib.itoa n:=by
 rw [List.take_add_one,h,hr,ha,ht]
 simp
theorem row_end (L:List Int) (n:Nat) (h:L.length=n) (word t r:ByteArray) (ht:t.data.toList=word.data.toList ++ (L.take n).flatMap fun n=>32 :: Go.Lib.itoa n) (hr:r.data.toList=t.data.toList ++ [10]) :
  r=⟨(rowT word.data.toList L).toArray⟩:=by
 have:r.data=(rowT word.data.toList L).toArray:=by
  apply Array.toList_inj.1
  rw [← h,List.take_length] at ht
  rw [hr,ht]
  simp [rowT]
 cases r with
 | mk d=>rw [← this]
set_option maxHeartbeats 2000000 in
theorem row_any {B:Nat} (word:ByteArray) (L:List Int) (n c C:Nat) (A:Option Addr) (w:World) (hE:EnvIn B w) (hl:L.length=n) (hsz:word.size + 22 * n + 1 ≤ 9223372036854775807) (hC:C ≤ w.heap.size) (h64:∀ v ∈ L,i64ok v) (hA:Reads w C 1 A n (rows i64C L)) :
  Calls Tryz.prog 31 #[.string word,.slice A n c] w fun e w'=>e=.returned (.string ⟨(rowT word.data.toList L).toArray⟩)∧Below w.heap.size w w':=by
 have HA:Hid (∀ i,i < n→∃ (b off:Nat) (v:Int),A=some ⟨b,off,none⟩∧b < w.heap.size∧L[i]?=some v∧i64ok v∧∀ W,Below w.heap.size w W→W.cell? ⟨b,off + i,none⟩=some (.int .i64 v)):=Lib.hid fun i hi=>by
  obtain ⟨v,hv⟩:∃ v,L[i]?=some v:=⟨_,List.getElem?_eq_getElem (by omega)⟩
  obtain ⟨b,off,h1,h2,_⟩:=i64_cells (hA.more hC) hl (by omega)
  refine ⟨b,off,v,h1,h2,hv,h64 v (List.mem_of_getElem? hv),fun W hW=>?_⟩
  obtain ⟨b',off',h1',_,h3'⟩:=i64_cells ((hA.more hC).below hW) hl (by omega)
  rw [h1] at h1'
  injection h1' with e
  injection e with e1 e2
  rw [e1,e2]
  exact h3' i v hv
 have HE:=Lib.hid hE
 have HSZ:=Lib.hid hsz
 have hn9:n ≤ 9223372036854775807:=by omega
 clear hsz
 have HL:=Lib.hid hl
 clear hA h64 hC hl hE
 go_enter Tryz.func31,Tryz.ntmps31
 go_upto_region 2 with fail
 go_loopg [9,0,6] n (fun gk iv sv _ W=>∃ (i:Nat) (t:ByteArray),iv=.int .i64 i∧i ≤ n∧gk + i=n∧sv=.string t∧Hid (t.data.toList=word.data.toList ++ (L.take i).flatMap fun n=>32 :: Go.Lib.itoa n)∧Hid (t.size ≤ word.size + 22 * i)∧Hid (Below w.heap.size w W))
 case atStart=>exact ⟨0,word,rfl,Nat.zero_le _,rfl,rfl,Lib.hid (by simp),Lib.hid (Nat.le_refl _),Lib.hid (Below.refl _ _)⟩
 case round =>
  obtain ⟨i,t,rfl,hi,hgk,rfl,HT,HTS,HB⟩:=hrel
  have HG:=Lib.hid hgk
  clear hgk
  by_cases hil:i < n
  ·have e1:decide ((i:Int) < (n:Int))=true:=decide_eq_true (by omega)
   have e2:decide (i < n)=true:=decide_eq_true hil
   have e3:(i:Int) < (n:Int):=by omega
   have zw:IntKind.i64.wrap ((i:Int) + 1)=(i:Int) + 1:=by rw [IntKind.wrap_i64];omega
   obtain ⟨b,off,v,rfl,hb,hv,h6,hc⟩:=HA.out i hil
   have c1:=hc wr HB.out
   have hbr:b < wr.heap.size:=Nat.lt_of_lt_of_le hb HB.out.size
   have HFI:=Lib.hid (formatInt_any (HE.out.below HB.out HE.out.1) v h6)
   have HV:=Lib.hid hv
   obtain ⟨sv,hsv⟩:∃ sv:ByteArray,sv=⟨(Go.Lib.itoa v).toArray⟩:=⟨_,rfl⟩
   rw [← hsv] at HFI
   have h21:=itoa_len v h6
   have hsz1:sv.size=(Go.Lib.itoa v).length:=by rw [hsv,size_list]
   have hsz2:(⟨#[32]⟩:ByteArray).size=1:=rfl
   have hts:=HTS.out
   have htz:=HSZ.out
   obtain ⟨a,ha,ga⟩:=sum_text ⟨#[32]⟩ sv (by omega)
   have hza:a.size=1 + sv.size:=by rw [size_list a,ha,List.length_append,← size_list,← size_list sv,hsz2]
   obtain ⟨r,hr,gr⟩:=sum_text t a (by omega)
   have hzr:r.size=t.size + a.size:=by rw [size_list r,hr,List.length_append,← size_list,← size_list]
   have HRT:Hid (r.data.toList=word.data.toList ++ (L.take (i + 1)).flatMap fun n=>32 :: Go.Lib.itoa n):=Lib.hid (row_step L i v hv word t a r HT.out (by rw [ha,hsv]) hr)
   have HRS:Hid (r.size ≤ word.size + 22 * (i + 1)):=Lib.hid (by omega)
   clear hts htz hza hzr hsz1 hsz2 h21 ha hr
   clear hc hv h6 hsv HV
   go_upto_region 4 with fail
   go_upto_region 5 with (go_at_call 70;refine (HFI.out).mono ?_;rintro e w2 ⟨rfl,hb2⟩)
   have HB2:=Lib.hid hb2
   clear hb2 c1
   go_wp2
   go_roundg (n - (i + 1))
   case measure=>have:=HG.out;omega
   case rel=>exact ⟨i + 1,_,by simp,by omega,by omega,rfl,HRT,HRS,Lib.hid (HB.out.trans (HB2.out.mono HB.out.size))⟩
  ·have e1:decide ((i:Int) < (n:Int))=false:=decide_eq_false (by omega)
   have e2:decide (i < n)=false:=decide_eq_false hil
   have hie:i=n:=by omega
   have HT':Hid (t.data.toList=word.data.toList ++ (L.take n).flatMap fun n=>32 :: Go.Lib.itoa n):=Lib.hid (by rw [← hie];exact HT.out)
   have hts:=HTS.out
   have htz:=HSZ.out
   have hsz2:(⟨#[10]⟩:ByteArray).size=1:=rfl
   obtain ⟨r,hr,gr⟩:=sum_text t ⟨#[10]⟩ (by omega)
   have HR:=Lib.hid (row_end L n HL.out word t r HT'.out hr)
   clear hie hts htz hsz2 hr
   go_wp2
   go_ret
   exact ⟨by rw [HR.out];rfl,HB.out⟩
end Go.Proofs.YtiheggkkgbfndaaGreatDoor
