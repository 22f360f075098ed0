/- carouselref14.Parse. -/
import Derived.Test.YtiheggkkgbfndaaGreatDoorL24
import Derived.Deep.LoopGhost
import Derived.Deep.DeepMust
import Derived.Test.YtiheggkkgbfndaaGreatDoorL21
import Derived.Test.YtiheggkkgbfndaaGreatDoorL22
namespace Go.Proofs.YtiheggkkgbfndaaGreatDoor
open Go.RowKit Go.Joins Go.ChangeShapes Go.WideShapes Go.Deep
set_option linter.unusedVariables false
set_option linter.unusedSimpArgs false
set_option maxRecDepth 100000
def parseV' (x:Except (Nat × Nat) (List AOp)):Value:=match x with
 | .error y=>.tuple #[.string ⟨#[]⟩,.int .i64 y.1,.int .i64 y.2]
 | .ok L=>.tuple #[.string ⟨(bytesOf L).toArray⟩,.int .i64 0,.int .i64 0]
theorem RaIs.start {B:Nat} {w:World} {ab:Nat} (h:Blk w ab 151 #[.slice none 0 0,.slice none 0 0,.slice none 0 0,.int .i64 0,.slice none 0 0]):RaIs B w ab (.slice none 0 0) (.slice none 0 0) (.slice none 0 0) (.slice none 0 0) ⟨[],[]⟩ :=
 ⟨⟨h,World.ownsRow_nil _ _ _ _,World.ownsRow_nil _ _ _ _,World.ownsRow_nil _ _ _ _,World.ownsRow_nil _ _ _ _,fun q hq=>by simp [Value.ownBlock] at hq⟩,Nat.zero_le _,Nat.zero_le _⟩
set_option maxHeartbeats 4000000 in
theorem parse_doc (s:ByteArray) (hs:s.size ≤ 4294967290) (w:World) :
  Calls Tryz.prog 87 #[.string s] w fun e w'=>e=.returned (parseV' (parseF s.data.toList))∧Below w.heap.size w w':=by
 obtain ⟨ab,hab⟩:∃ ab,ab=w.heap.size:=⟨_,rfl⟩
 obtain ⟨W1,hW1⟩:∃ W1,W1=w.alloc (.cells #[.slice none 0 0,.slice none 0 0,.slice none 0 0,.int .i64 0,.slice none 0 0] 151):=⟨_,rfl⟩
 have hb1:Blk W1 ab 151 #[.slice none 0 0,.slice none 0 0,.slice none 0 0,.int .i64 0,.slice none 0 0]:=by rw [hW1,hab];exact Blk.new w _ _
 have hB1:Below w.heap.size w W1:=hW1 ▸ (Below.refl _ _).alloc (Nat.le_refl _) _
 have HLNS:=Lib.hid (rlines_any s (by omega) W1)
 have HAB:=Lib.hid hab
 have HB1:=Lib.hid hB1
 have HBL:=Lib.hid hb1
 have HW1:=Lib.hid hW1
 clear hab hb1 hB1 hW1
 go_enter Tryz.func87,Tryz.ntmps87
 go_upto_region 2 with fail
 rw [← HW1.out,← HAB.out]
 go_upto_region 4 with (go_at_call 112;refine HLNS.out.mono ?_;rintro e w2 ⟨ov0,vs,rfl,hL,hb2⟩)
 obtain ⟨LS,hLS⟩:∃ LS,LS=lineToks s.data.toList:=⟨_,rfl⟩
 rw [← hLS] at hL
 have hb2b:Blk w2 ab 151 #[.slice none 0 0,.slice none 0 0,.slice none 0 0,.int .i64 0,.slice none 0 0]:=HBL.out.below hb2 HBL.out.lt
 have hR0:=RaIs.start (B:=w2.heap.size) hb2b
 have HBW:Hid (Below w.heap.size w w2):=Lib.hid (HB1.out.trans (hb2.mono HB1.out.size))
 obtain ⟨R0,c0,rfl,hcap,hRo⟩:=own_shapes hL.out
 have HLL:=Lib.hid hL
 obtain ⟨N,hN⟩:∃ N,N=LS.length:=⟨_,rfl⟩
 have HNN:=Lib.hid hN
 rw [← hN] at HLL ⊢
 have HLS:=Lib.hid hLS
 have hsz:s.data.toList.length=s.size:=Array.length_toList
 have HSZ:=Lib.hid hsz
 have hNb:N ≤ s.size + 1:=by
  have:=lineToks_len s.data.toList
  rw [← hLS,← hN,hsz] at this
  exact this
 have HB2:=Lib.hid hb2b
 have hvl:=hL.len
 rw [← hN] at hvl
 have HVL:=Lib.hid hvl
 obtain ⟨B,hB⟩:∃ B,B=w2.heap.size:=⟨_,rfl⟩
 have HBB:=Lib.hid hB
 rw [← hB] at hR0
 have hBle:B ≤ w2.heap.size:=by omega
 have hBge:w2.heap.size ≤ B:=by omega
 have HABL:Hid (w.heap.size ≤ ab∧w.heap.size ≤ B):=Lib.hid ⟨by rw [HAB.out];exact Nat.le_refl _,Nat.le_trans HBW.out.size hBge⟩
 clear hL hN hLS hsz hb2 hb2b hvl hRo hcap hB
 go_loopg [7] N (fun gk jv W=>∃ (j:Nat) (r:RSt) (ov av nv lv:Value),jv=.int .i64 j∧j ≤ N∧gk=N - j∧linesL ⟨[],[]⟩ (LS.take j)=.ok r∧r.labels.length ≤ j∧RaIs B W ab ov av nv lv r∧Frm w2 W (RaS ab B))
 case atStart=>exact ⟨0,⟨[],[]⟩,_,_,_,_,rfl,Nat.zero_le _,rfl,rfl,Nat.zero_le _,hR0,Frm.refl _ _⟩
 case round =>
  obtain ⟨j,r,ov,av,nv,lv,rfl,hj,hgk,hlin,hlb,hRj,hFj⟩:=hrel
  have HG:=Lib.hid hgk
  have HLIN:=Lib.hid hlin
  clear hgk hlin hR0
  have hLj:=HLL.out.frm HB2.out hFj hBge
  have hBj:B ≤ wr.heap.size:=Nat.le_trans hBle hFj.size
  by_cases hjN:j < N
  ·have e1:decide ((j:Int) < (N:Int))=true:=decide_eq_true (by omega)
   have e2:decide (j < N)=true:=decide_eq_true hjN
   have hjl:j < LS.length:=by rw [← HNN.out];exact hjN
   have hjv:j < vs.length:=by rw [HVL.out];exact hjN
   obtain ⟨vj,hvj⟩:∃ vj,vj=vs[j]:=⟨_,rfl⟩
   have hgetv:vs[j]?=some vj:=by rw [hvj];exact List.getElem?_eq_getElem hjv
   obtain ⟨lj,hlj⟩:∃ lj,lj=LS[j]:=⟨_,rfl⟩
   have hgetl:LS[j]?=some lj:=by rw [hlj];exact List.getElem?_eq_getElem hjl
   have hvo:=HLL.out.own j vj lj hgetv hgetl
   obtain ⟨Rj,cj,rfl,hcj,hrj⟩:=own_shapes hvo
   have hout:=hLj.out
   rw [← HNN.out] at hout
   obtain ⟨g,cap,hv,_,hgl⟩:=hout.form (by omega)
   injection hv with hv1 hv2 hv3
   subst hv1 hv3
   have cx:wr.cell? ⟨g,j * 2,none⟩=some (.slice Rj lj.length cj):=by
    rw [hout.cellAt (j * 2) (by omega)]
    have:=rows_at lnc 2 lnc_len vs j 0 hjv (by omega)
    rw [Nat.add_zero] at this
    rw [this,← hvj]
    rfl
   have hA:∀ ad,Rj=some ad→ad.block ≠ ab:=by
    intro ad had hh
    rcases hvo.2 with ⟨h0,_⟩ | ⟨g2,cap2,cur2,h0,_,hg2,_⟩
    ·injection h0 with h0;rw [h0] at had;cases had
    ·injection h0 with h0
     rw [h0] at had
     injection had with had
     subst had
     have hbk:Blk w2 g2 159 cur2:=hg2
     exact hbk.ne_ HB2.out (by decide) hh
   have hT:Reads wr B 2 Rj lj.length (rows tkc lj):=reads_frm (reads_bound hvo hBge) hA hFj hBle
   have hTB:TokB s.size lj:=by
    have:=tokB_all s.data.toList lj (by rw [← HLS.out,hlj];exact List.getElem_mem hjl)
    rwa [HSZ.out] at this
   have hL:=line_doc hRj hBj lj Rj _ cj hT hcj hA (fun t ht=>⟨(hTB.2 t ht).1,by have:=(hTB.2 t ht).2;omega⟩) (by have:=hTB.1;omega) (by omega)
   have HJL:=Lib.hid hjl
   have HGL:=Lib.hid hgetl
   have HFJ:=Lib.hid hFj
   clear hLj hvo hout hvj hgetv hgetl hlj hT hTB hA hrj hcj hRj hFj
   cases hx:lineL r lj with
   | error y =>
    rw [hx] at hL
    have HL:=Lib.hid hL
    have HX:Hid (parseF s.data.toList=.error y):=Lib.hid (by
     unfold parseF
     rw [← HLS.out,linesL_fail HLIN.out HGL.out hx])
    have q1:((y.1:Int) != 0)=true:=by
     rcases lineL_err hx with h | h | h | h <;> rw [h] <;> rfl
    clear hL hx
    go_wp2_with (go_at_call 113;refine HL.out.mono ?_;rintro e w3 ⟨rfl,hf3⟩)
    go_ret3
    refine ⟨by rw [HX.out];rfl,?_⟩
    have h1:=HABL.out
    exact HBW.out.trans ((HFJ.out.trans hf3 fun _ h=>.inl h).below HBW.out.size fun q hq=>by rcases hq with rfl | hq <;> omega)
   | ok r' =>
    rw [hx] at hL
    have HL:=Lib.hid hL
    have HX:=Lib.hid hx
    clear hL hx
    go_wp2_with (go_at_call 113;refine HL.out.mono ?_;rintro e w3 ⟨ov2,av2,nv2,lv2,rfl,hR3,hf3⟩)
    go_roundg (N - (j + 1))
    case measure=>have:=HG.out;omega
    case rel =>
     refine ⟨j + 1,r',ov2,av2,nv2,lv2,by simp,by omega,rfl,?_,?_,hR3,HFJ.out.trans hf3 fun _ h=>.inl h⟩
     ·rw [List.take_add_one,HGL.out,linesL_app,HLIN.out]
      show linesL r [lj]=_
      rw [linesL_cons,HX.out]
      rfl
     ·have:=lineL_labels HX.out
      omega
  ·have e1:decide ((j:Int) < (N:Int))=false:=decide_eq_false (by omega)
   have e2:decide (j < N)=false:=decide_eq_false hjN
   obtain rfl:j=N:=by omega
   have HLN:Hid (linesL ⟨[],[]⟩ (lineToks s.data.toList)=.ok r):=Lib.hid (by
    have h1:=HLIN.out
    rwa [List.take_of_length_le (by rw [← HNN.out];exact Nat.le_refl _),HLS.out] at h1)
   have HGD:=Lib.hid (Good.start.linesL HLN.out)
   go_upto_region 11 with fail
   obtain ⟨Ro,co,rfl,hco,hRo⟩:=own_shapes hRj.raw.ops
   obtain ⟨Ra,ca,rfl,hca,hRa⟩:=own_shapes hRj.raw.ats
   obtain ⟨Rn,cn,rfl,hcn,hRn⟩:=own_shapes hRj.raw.nms
   obtain ⟨Rl,cl,rfl,hcl,hRl⟩:=own_shapes hRj.raw.lbs
   obtain ⟨n,hn⟩:∃ n,n=r.ins.length:=⟨_,rfl⟩
   have HN3:=Lib.hid hn
   have en1:(r.ins.map Ins.op).length=n:=by rw [List.length_map,hn]
   have en2:(r.ins.map Ins.pos).length=n:=by rw [List.length_map,hn]
   have en3:(r.ins.map Ins.name).length=n:=by rw [List.length_map,hn]
   rw [en1] at hRj hRo
   rw [en2] at hRj hRa
   rw [en3] at hRj hRn
   have hn512:n ≤ 512:=by have h1:=hRj.len;have h2:=hRj.size;omega
   have HW3:Hid (Below w.heap.size w wr):=Lib.hid (HBW.out.trans (hFj.below HBW.out.size fun q hq=>by have h1:=HABL.out;rcases hq with rfl | hq <;> omega))
   have HRJ:=Lib.hid hRj
   have HRO:=Lib.hid hRo
   have HRA:=Lib.hid hRa
   have HRN:=Lib.hid hRn
   have HRL:=Lib.hid hRl
   obtain ⟨w3,hw3⟩:∃ w3,w3=wr:=⟨_,rfl⟩
   rw [← hw3] at HW3 HRJ HRO HRA HRN HRL ⊢
   clear hRj hRo hRa hRn hRl hn en1 en2 en3 hw3 hFj hLj hco hca hcn hcl
   go_loopg [10,11] n (fun gk outv iv W=>∃ (i:Nat) (L:List AOp) (q:ByteArray),iv=.int .i64 i∧i ≤ n∧gk=n - i∧outv=.string q∧q.data.toList=bytesOf L∧resL r.labels (r.ins.take i)=.ok L∧Below w3.heap.size w3 W)
   case atStart=>exact ⟨0,[],⟨#[]⟩,rfl,Nat.zero_le _,rfl,rfl,rfl,rfl,Below.refl _ _⟩
   case round =>
    obtain ⟨i,L,q,rfl,hi,hgk,rfl,hq,hres,hbl⟩:=hrel
    have HG2:=Lib.hid hgk
    have HRS:=Lib.hid hres
    have HQQ:=Lib.hid hq
    have hRw:=HRJ.out.keep hbl
    have r0:wr.cell? ⟨ab,0,none⟩=some (.slice Ro n co):=(hRw.raw.blk.cell 0).trans rfl
    have hal:=hRw.raw.blk.lt
    clear hgk hres hq
    by_cases hin:i < n
    ·have e1:decide ((i:Int) < (n:Int))=true:=decide_eq_true (by omega)
     have e2:decide (i < n)=true:=decide_eq_true hin
     have hil:i < r.ins.length:=by rw [← HN3.out];exact hin
     obtain ⟨x,hx⟩:∃ x,x=r.ins[i]:=⟨_,rfl⟩
     have HX:=Lib.hid hx
     have HIL:=Lib.hid hil
     have hgd:=HGD.out.ins x (hx ▸ List.getElem_mem _)
     obtain ⟨gd1,gd2,_,_,gd5⟩:=hgd
     obtain ⟨bo,oo,rfl,hbo,hco⟩:=reads_flat (HRO.out.below hbl) (by omega) (by omega)
     obtain ⟨ba,oa,rfl,hba,hca⟩:=reads_flat (HRA.out.below hbl) (by omega) (by omega)
     obtain ⟨bn,on_,qn,rfl,hbn,n0,n1',hqn,_⟩:=tk_cells (HRN.out.below hbl) i (by rw [List.length_map];exact hil)
     have o0:wr.cell? ⟨bo,oo + i * 2,none⟩=some (.int .i64 x.code):=by
      have h:=(opc_at (r.ins.map Ins.op) i (by rw [List.length_map];exact hil)).1
      rw [List.getElem_map,← hx] at h
      exact hco _ _ h
     have o1:wr.cell? ⟨bo,oo + i * 2 + 1,none⟩=some (.int .i64 x.operand):=by
      have h:=(opc_at (r.ins.map Ins.op) i (by rw [List.length_map];exact hil)).2
      rw [List.getElem_map,← hx] at h
      exact hco _ _ h
     have a0:wr.cell? ⟨ba,oa + i,none⟩=some (.int .i64 x.pos):=by
      have h:=plc_at (r.ins.map Ins.pos) i (by rw [List.length_map];exact hil)
      rw [List.getElem_map,← hx] at h
      exact hca _ _ h
     have hqn2:qn.data.toList=x.name.s:=by rw [hqn,List.getElem_map,← hx]
     have n1:wr.cell? ⟨bn,on_ + i * 2 + 1,none⟩=some (.int .i64 x.name.pos):=by rw [n1',List.getElem_map,← hx]
     have hbo2:bo < wr.heap.size:=Nat.lt_of_lt_of_le hbo hbl.size
     have hba2:ba < wr.heap.size:=Nat.lt_of_lt_of_le hba hbl.size
     have hbn2:bn < wr.heap.size:=Nat.lt_of_lt_of_le hbn hbl.size
     have HBL:=Lib.hid hbl
     have HQN:=Lib.hid hqn2
     clear hco hca hqn hqn2 n1' hx hRw hbl
     go_upto_region 14 with fail
     obtain ⟨W1,hW1⟩:∃ W1,W1=wr.alloc (.cells #[.int .i64 x.code,.int .i64 x.operand] 113):=⟨_,rfl⟩
     obtain ⟨ob,hob⟩:∃ ob,ob=wr.heap.size:=⟨_,rfl⟩
     rw [← hW1,← hob]
     have hOB:Blk W1 ob 113 #[.int .i64 x.code,.int .i64 x.operand]:=by rw [hW1,hob];exact Blk.new wr _ _
     have hbA:Below wr.heap.size wr W1:=hW1 ▸ (Below.refl _ _).alloc (Nat.le_refl _) _
     have HBL1:Hid (Below w3.heap.size w3 W1):=Lib.hid (HBL.out.trans (hbA.mono HBL.out.size))
     have HOW:Hid (w3.heap.size ≤ ob):=Lib.hid (hob ▸ HBL.out.size)
     have hRw:=HRJ.out.keep HBL1.out
     have r0:W1.cell? ⟨ab,0,none⟩=some (.slice (some ⟨bo,oo,none⟩) n co):=(hRw.raw.blk.cell 0).trans rfl
     have r1:W1.cell? ⟨ab,1,none⟩=some (.slice (some ⟨ba,oa,none⟩) n ca):=(hRw.raw.blk.cell 1).trans rfl
     have r2:W1.cell? ⟨ab,2,none⟩=some (.slice (some ⟨bn,on_,none⟩) n cn):=(hRw.raw.blk.cell 2).trans rfl
     have hal:=hRw.raw.blk.lt
     have a0:W1.cell? ⟨ba,oa + i,none⟩=some (.int .i64 x.pos):=(hbA.cell (p:=⟨ba,oa + i,none⟩) hba2).trans a0
     have n0:W1.cell? ⟨bn,on_ + i * 2,none⟩=some (.string qn):=(hbA.cell (p:=⟨bn,on_ + i * 2,none⟩) hbn2).trans n0
     have n1:W1.cell? ⟨bn,on_ + i * 2 + 1,none⟩=some (.int .i64 x.name.pos):=(hbA.cell (p:=⟨bn,on_ + i * 2 + 1,none⟩) hbn2).trans n1
     have hba3:ba < W1.heap.size:=Nat.lt_of_lt_of_le hba2 hbA.size
     have hbn3:bn < W1.heap.size:=Nat.lt_of_lt_of_le hbn2 hbA.size
     have o0:W1.cell? ⟨ob,0,none⟩=some (.int .i64 x.code):=(hOB.cell 0).trans rfl
     have o1:W1.cell? ⟨ob,1,none⟩=some (.int .i64 x.operand):=(hOB.cell 1).trans rfl
     have of1:W1.frozen? ⟨ob,1,none⟩=false:=hOB.frozen 1
     have hol:=hOB.lt
     have HRW:=Lib.hid hRw
     have HOBB:=Lib.hid hOB
     clear hW1 hob hbA hRw hOB hbo2 hba2 hbn2
     by_cases hnm:x.name.s=[]
     ·have y1:(qn.toList == [])=true:=by rw [ByteArray.toList_eq,HQN.out,hnm];rfl
      have HONE:Hid (resOne r.labels x=.ok ⟨x.code,x.operand⟩):=Lib.hid (by unfold resOne;rw [if_pos hnm];rfl)
      clear hnm
      have HBY0:=Lib.hid (fun W=>bytes_any ⟨x.code,x.operand⟩ gd1 W)
      obtain ⟨eb,heb⟩:∃ eb:ByteArray,eb=⟨(encB ⟨x.code,x.operand⟩).toArray⟩:=⟨_,rfl⟩
      rw [← heb] at HBY0
      have HBY:=Lib.hid HBY0.out
      obtain ⟨qc,hqc⟩:∃ qc,qc=q ++ eb:=⟨_,rfl⟩
      have hez:eb.size ≤ 9:=by
       have e1:eb.size=eb.data.toList.length:=Array.length_toList.symm
       rw [e1,heb]
       show (encB ⟨x.code,x.operand⟩).toArray.toList.length ≤ 9
       rw [List.toList_toArray,encB_length]
       have:widthF (shapeF x.code) ≤ 8:=by unfold widthF;split <;> (try split) <;> (try split) <;> omega
       show 1 + widthF (shapeF x.code) ≤ 9
       omega
      have hqz:q.size ≤ 10000:=by
       have e1:q.size=q.data.toList.length:=Array.length_toList.symm
       have h9:=bytesOf_le9 L
       have h8:=resL_len HRS.out
       rw [List.length_take] at h8
       rw [e1,HQQ.out]
       omega
      have hadd:∀ W,(Op.stringOp .add q eb).run Tryz.prog W=.ok (.string qc) W:=fun W=>by
       rw [run_string_add_sum (P:=Tryz.prog) W q eb (by omega),hqc]
      have HQC:Hid (qc.data.toList=bytesOf (L ++ [⟨x.code,x.operand⟩])):=Lib.hid (by
       rw [hqc]
       show (q ++ eb).data.toList=_
       rw [ByteArray.data_append,Array.toList_append,HQQ.out,heb,bytesOf_snoc])
      clear HBY0 heb hqc hez hqz
      go_wp2_with (go_at_call 115;refine (HBY.out _).mono ?_;rintro e w5 ⟨rfl,hb5⟩)
      go_roundg (n - (i + 1))
      case measure=>have:=HG2.out;omega
      case rel=>exact ⟨i + 1,L ++ [⟨x.code,x.operand⟩],qc,by simp,by omega,rfl,rfl,HQC.out,by rw [resL_take r.labels r.ins i HIL.out,HRS.out];simp only;rw [← HX.out,HONE.out],HBL1.out.trans (hb5.mono HBL1.out.size)⟩
     ·have y1:(qn.toList == [])=false:=by
       rw [beq_eq_false_iff_ne,ByteArray.toList_eq,HQN.out]
       exact hnm
      have HNM:=Lib.hid hnm
      clear hnm
      have hRl:=HRL.out.below HBL1.out
      have HLC0:=Lib.hid (rlabel_any (w:=W1) HRW.out.raw.blk (hRl.more HBL1.out.size) (by omega) qn)
      rw [HQN.out] at HLC0
      clear hRl
      cases hlab:labF2 r.labels x.name.s with
      | none =>
       have HERR:Hid (parseF s.data.toList=.error (11,x.name.pos)):=Lib.hid (by
        unfold parseF
        rw [HLN.out]
        exact resL_fail r.labels r.ins i HIL.out HRS.out (by rw [← HX.out];unfold resOne;rw [if_neg HNM.out,hlab]))
       rw [hlab] at HLC0
       have HLC:Hid (Calls Tryz.prog 114 #[.pointer (some ⟨ab,0,none⟩),.string qn] W1 fun e w'=>e=.returned (.int .i64 (-1))∧w'=W1):=Lib.hid HLC0.out
       clear hlab HLC0
       go_upto_region 17 with (go_at_call 114;refine HLC.out.mono ?_;rintro e w5 ⟨rfl,hw⟩;obtain rfl:=hw.symm)
       go_quiet (fail)
       go_wp2_with fail
       go_ret3
       refine ⟨by rw [HERR.out];rfl,below_drewN (HW3.out.trans (HBL1.out.mono HW3.out.size)) _⟩
      | some k =>
       rw [hlab] at HLC0
       have HLC:Hid (Calls Tryz.prog 114 #[.pointer (some ⟨ab,0,none⟩),.string qn] W1 fun e w'=>e=.returned (.int .i64 (k:Int))∧w'=W1):=Lib.hid HLC0.out
       have hk5:=labF2_le HGD.out hlab
       have HLB2:=Lib.hid hlab
       have k1:decide ((k:Int) < 0)=false:=decide_eq_false (by omega)
       clear hlab HLC0
       by_cases h26:x.code=26
       ·have t26:((x.code:Int) != 26)=false:=by simp;omega
        have HONE:Hid (resOne r.labels x=.ok ⟨x.code,(k:Int)⟩):=Lib.hid (by unfold resOne;rw [if_neg HNM.out,HLB2.out];simp only;rw [if_pos h26])
        clear h26
        go_upto_region 21 with (go_at_call 114;refine HLC.out.mono ?_;rintro e w5 ⟨rfl,hw⟩;obtain rfl:=hw.symm)
        obtain ⟨W2,hW2⟩:∃ W2,W2=W1.setCell ⟨ob,1,none⟩ (.int .i64 ((k:Int))):=⟨_,rfl⟩
        rw [← hW2]
        have hO2:Blk W2 ob 113 #[.int .i64 x.code,.int .i64 ((k:Int))]:=hW2 ▸ HOBB.out.set_ 1 (.int .i64 ((k:Int)))
        have HBL1:Hid (Below w3.heap.size w3 W2):=Lib.hid (hW2 ▸ HBL1.out.setCell HOW.out _)
        have o0:W2.cell? ⟨ob,0,none⟩=some (.int .i64 x.code):=(hO2.cell 0).trans rfl
        have o1:W2.cell? ⟨ob,1,none⟩=some (.int .i64 ((k:Int))):=(hO2.cell 1).trans rfl
        have hol2:=hO2.lt
        clear hW2 hO2
        have HBY0:=Lib.hid (fun W=>bytes_any ⟨x.code,(k:Int)⟩ gd1 W)
        obtain ⟨eb,heb⟩:∃ eb:ByteArray,eb=⟨(encB ⟨x.code,(k:Int)⟩).toArray⟩:=⟨_,rfl⟩
        rw [← heb] at HBY0
        have HBY:=Lib.hid HBY0.out
        obtain ⟨qc,hqc⟩:∃ qc,qc=q ++ eb:=⟨_,rfl⟩
        have hez:eb.size ≤ 9:=by
         have e1:eb.size=eb.data.toList.length:=Array.length_toList.symm
         rw [e1,heb]
         show (encB ⟨x.code,(k:Int)⟩).toArray.toList.length ≤ 9
         rw [List.toList_toArray,encB_length]
         have:widthF (shapeF x.code) ≤ 8:=by unfold widthF;split <;> (try split) <;> (try split) <;> omega
         show 1 + widthF (shapeF x.code) ≤ 9
         omega
        have hqz:q.size ≤ 10000:=by
         have e1:q.size=q.data.toList.length:=Array.length_toList.symm
         have h9:=bytesOf_le9 L
         have h8:=resL_len HRS.out
         rw [List.length_take] at h8
         rw [e1,HQQ.out]
         omega
        have hadd:∀ W,(Op.stringOp .add q eb).run Tryz.prog W=.ok (.string qc) W:=fun W=>by
         rw [run_string_add_sum (P:=Tryz.prog) W q eb (by omega),hqc]
        have HQC:Hid (qc.data.toList=bytesOf (L ++ [⟨x.code,(k:Int)⟩])):=Lib.hid (by
         rw [hqc]
         show (q ++ eb).data.toList=_
         rw [ByteArray.data_append,Array.toList_append,HQQ.out,heb,bytesOf_snoc])
        clear HBY0 heb hqc hez hqz
        go_wp2_with (go_at_call 115;refine (HBY.out _).mono ?_;rintro e w5 ⟨rfl,hb5⟩)
        go_roundg (n - (i + 1))
        case measure=>have:=HG2.out;omega
        case rel=>exact ⟨i + 1,L ++ [⟨x.code,(k:Int)⟩],qc,by simp,by omega,rfl,rfl,HQC.out,by rw [resL_take r.labels r.ins i HIL.out,HRS.out];simp only;rw [← HX.out,HONE.out],HBL1.out.trans (hb5.mono HBL1.out.size)⟩
       ·have t26:((x.code:Int) != 26)=true:=by simp;omega
        have HONE:Hid (resOne r.labels x=.ok ⟨x.code,(k:Int) - (x.pos:Int) - 3⟩):=Lib.hid (by unfold resOne;rw [if_neg HNM.out,HLB2.out];simp only;rw [if_neg h26,show (k:Int) - (x.pos:Int) - 3=(k:Int) - ((x.pos:Int) + 3) by omega])
        clear h26
        go_upto_region 21 with (go_at_call 114;refine HLC.out.mono ?_;rintro e w5 ⟨rfl,hw⟩;obtain rfl:=hw.symm)
        obtain ⟨W2,hW2⟩:∃ W2,W2=W1.setCell ⟨ob,1,none⟩ (.int .i64 ((k:Int) - (x.pos:Int) - 3)):=⟨_,rfl⟩
        rw [← hW2]
        have hO2:Blk W2 ob 113 #[.int .i64 x.code,.int .i64 ((k:Int) - (x.pos:Int) - 3)]:=hW2 ▸ HOBB.out.set_ 1 (.int .i64 ((k:Int) - (x.pos:Int) - 3))
        have HBL1:Hid (Below w3.heap.size w3 W2):=Lib.hid (hW2 ▸ HBL1.out.setCell HOW.out _)
        have o0:W2.cell? ⟨ob,0,none⟩=some (.int .i64 x.code):=(hO2.cell 0).trans rfl
        have o1:W2.cell? ⟨ob,1,none⟩=some (.int .i64 ((k:Int) - (x.pos:Int) - 3)):=(hO2.cell 1).trans rfl
        have hol2:=hO2.lt
        clear hW2 hO2
        have HBY0:=Lib.hid (fun W=>bytes_any ⟨x.code,(k:Int) - (x.pos:Int) - 3⟩ gd1 W)
        obtain ⟨eb,heb⟩:∃ eb:ByteArray,eb=⟨(encB ⟨x.code,(k:Int) - (x.pos:Int) - 3⟩).toArray⟩:=⟨_,rfl⟩
        rw [← heb] at HBY0
        have HBY:=Lib.hid HBY0.out
        obtain ⟨qc,hqc⟩:∃ qc,qc=q ++ eb:=⟨_,rfl⟩
        have hez:eb.size ≤ 9:=by
         have e1:eb.size=eb.data.toList.length:=Array.length_toList.symm
         rw [e1,heb]
         show (encB ⟨x.code,(k:Int) - (x.pos:Int) - 3⟩).toArray.toList.length ≤ 9
         rw [List.toList_toArray,encB_length]
         have:widthF (shapeF x.code) ≤ 8:=by unfold widthF;split <;> (try split) <;> (try split) <;> omega
         show 1 + widthF (shapeF x.code) ≤ 9
         omega
        have hqz:q.size ≤ 10000:=by
         have e1:q.size=q.data.toList.length:=Array.length_toList.symm
         have h9:=bytesOf_le9 L
         have h8:=resL_len HRS.out
         rw [List.length_take] at h8
         rw [e1,HQQ.out]
         omega
        have hadd:∀ W,(Op.stringOp .add q eb).run Tryz.prog W=.ok (.string qc) W:=fun W=>by
         rw [run_string_add_sum (P:=Tryz.prog) W q eb (by omega),hqc]
        have HQC:Hid (qc.data.toList=bytesOf (L ++ [⟨x.code,(k:Int) - (x.pos:Int) - 3⟩])):=Lib.hid (by
         rw [hqc]
         show (q ++ eb).data.toList=_
         rw [ByteArray.data_append,Array.toList_append,HQQ.out,heb,bytesOf_snoc])
        clear HBY0 heb hqc hez hqz
        go_wp2_with (go_at_call 115;refine (HBY.out _).mono ?_;rintro e w5 ⟨rfl,hb5⟩)
        go_roundg (n - (i + 1))
        case measure=>have:=HG2.out;omega
        case rel=>exact ⟨i + 1,L ++ [⟨x.code,(k:Int) - (x.pos:Int) - 3⟩],qc,by simp,by omega,rfl,rfl,HQC.out,by rw [resL_take r.labels r.ins i HIL.out,HRS.out];simp only;rw [← HX.out,HONE.out],HBL1.out.trans (hb5.mono HBL1.out.size)⟩
    ·have e1:decide ((i:Int) < (n:Int))=false:=decide_eq_false (by omega)
     have e2:decide (i < n)=false:=decide_eq_false hin
     obtain rfl:i=n:=by omega
     have HPF:Hid (parseF s.data.toList=.ok L):=Lib.hid (by
      have h1:=HRS.out
      rw [List.take_of_length_le (by rw [← HN3.out];exact Nat.le_refl _)] at h1
      unfold parseF
      rw [HLN.out]
      exact h1)
     have HBL:=Lib.hid hbl
     clear hbl hRw
     go_wp2_with fail
     go_ret3
     refine ⟨?_,HW3.out.trans (HBL.out.mono HW3.out.size)⟩
     have hq2:q=⟨(bytesOf L).toArray⟩:=bytes_inj (by rw [HQQ.out])
     rw [HPF.out,hq2]
     rfl
abbrev PRes:=Except (Nat × Nat) (List AOp)
def pOut:PRes→ByteArray
 | .error _=>⟨#[]⟩
 | .ok L=>⟨(bytesOf L).toArray⟩
def pErr:PRes→Int
 | .error y=>y.1
 | .ok _=>0
def pPos:PRes→Int
 | .error y=>y.2
 | .ok _=>0
theorem parseV_eq (x:PRes):parseV x=.tuple #[.string (pOut x),.int .i64 (pErr x),.int .i64 (pPos x)]:=by cases x <;> rfl
theorem parseV'_eq (x:PRes):parseV' x=.tuple #[.string (pOut x),.int .i64 (pErr x),.int .i64 (pPos x)]:=by cases x <;> rfl
theorem parse_at {B:Nat} {w:World} (hE:EnvP B w) (s:ByteArray) (hs:s.size ≤ 67108864) :
  Calls Tryz.prog 110 #[.string s] w fun e w'=>e=.returned (.tuple #[.string (pOut (parseF s.data.toList)),.int .i64 (pErr (parseF s.data.toList)),.int .i64 (pPos (parseF s.data.toList))])∧Below w.heap.size w w':=by
 have:=parse_asm (hE.raise hE.size (Nat.le_refl _)) s hs
 rwa [parseV_eq] at this
theorem rparse_at (s:ByteArray) (hs:s.size ≤ 67108864) (w:World) :
  Calls Tryz.prog 87 #[.string s] w fun e w'=>e=.returned (.tuple #[.string (pOut (parseF s.data.toList)),.int .i64 (pErr (parseF s.data.toList)),.int .i64 (pPos (parseF s.data.toList))])∧Below w.heap.size w w':=by
 have:=parse_doc s (by omega) w
 rwa [parseV'_eq] at this
end Go.Proofs.YtiheggkkgbfndaaGreatDoor
namespace Go.Proofs.YtiheggkkgbfndaaGreatDoor
open Go.RowKit Go.Joins Go.ChangeShapes Go.WideShapes Go.Deep Go.Maps Go.Sort
set_option linter.unusedVariables false
set_option linter.unusedSimpArgs false
set_option maxRecDepth 100000
end Go.Proofs.YtiheggkkgbfndaaGreatDoor
