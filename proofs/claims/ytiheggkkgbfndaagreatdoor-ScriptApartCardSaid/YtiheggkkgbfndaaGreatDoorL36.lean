/- carouselref24.Parse. -/
import Derived.Test.YtiheggkkgbfndaaGreatDoorL34
import Derived.Test.YtiheggkkgbfndaaGreatDoorL32
import Derived.Test.YtiheggkkgbfndaaGreatDoorL33
import Derived.Test.YtiheggkkgbfndaaGreatDoorL35
namespace Go.Proofs.YtiheggkkgbfndaaGreatDoor
open Go.RowKit Go.Joins Go.ChangeShapes Go.WideShapes Go.Deep
set_option linter.unusedVariables false
set_option linter.unusedSimpArgs false
set_option maxRecDepth 100000

def toldC (c:Cfg) (rv pv tv lv:Value) (e pl:Nat):Array Value:=#[.int .i64 c.raw,.int .i64 c.ring,.int .i64 c.writes,.int .i64 c.stamps,.bool c.multi,.int .i64 c.tries,rv,pv,tv,lv,.int .i64 e,.int .i64 pl]
def nilC:Value:=.slice none 0 0
def RParsePost (s:ByteArray) (w:World) (e:Ending) (w':World):Prop:=Below w.heap.size w w'∧match parseS s.data.toList with
 | .error y=>e=.returned (.agg (toldC noCfg nilC nilC nilC nilC y.1 y.2))
 | .ok x=>∃ rv pv tv lv T L,e=.returned (.agg (toldC x.set.cfg rv pv tv lv 0 0))∧SetAt w.heap.size w' x rv pv tv lv T L
theorem below_twelve {B:Nat} {w w1:World} {rb:Nat} (h:Below B w w1) (hB:B ≤ rb) (va vb vc vd ve vf vg vh vi vj vk vl:Value):Below B w ((((((((((((w1.setCell ⟨rb,0,none⟩ va).setCell ⟨rb,1,none⟩ vb).setCell ⟨rb,2,none⟩ vc).setCell ⟨rb,3,none⟩ vd).setCell ⟨rb,4,none⟩ ve).setCell ⟨rb,5,none⟩ vf).setCell ⟨rb,6,none⟩ vg).setCell ⟨rb,7,none⟩ vh).setCell ⟨rb,8,none⟩ vi).setCell ⟨rb,9,none⟩ vj).setCell ⟨rb,10,none⟩ vk).setCell ⟨rb,11,none⟩ vl) :=
 ((((((((((((h.setCell hB _).setCell hB _).setCell hB _).setCell hB _).setCell hB _).setCell hB _).setCell hB _).setCell hB _).setCell hB _).setCell hB _).setCell hB _).setCell hB _)
theorem blk_twelve {w1:World} {rb:Nat} {x0 x1 x2 x3 x4 x5 x6 x7 x8 x9 x10 x11:Value} {t:TypeId} (h:Blk w1 rb t #[x0,x1,x2,x3,x4,x5,x6,x7,x8,x9,x10,x11]) (va vb vc vd ve vf vg vh vi vj vk vl:Value):Blk ((((((((((((w1.setCell ⟨rb,0,none⟩ va).setCell ⟨rb,1,none⟩ vb).setCell ⟨rb,2,none⟩ vc).setCell ⟨rb,3,none⟩ vd).setCell ⟨rb,4,none⟩ ve).setCell ⟨rb,5,none⟩ vf).setCell ⟨rb,6,none⟩ vg).setCell ⟨rb,7,none⟩ vh).setCell ⟨rb,8,none⟩ vi).setCell ⟨rb,9,none⟩ vj).setCell ⟨rb,10,none⟩ vk).setCell ⟨rb,11,none⟩ vl) rb t #[va,vb,vc,vd,ve,vf,vg,vh,vi,vj,vk,vl]:=by
 have h0:Blk _ rb t #[va,x1,x2,x3,x4,x5,x6,x7,x8,x9,x10,x11]:=h.set_ 0 va
 have h1:Blk _ rb t #[va,vb,x2,x3,x4,x5,x6,x7,x8,x9,x10,x11]:=h0.set_ 1 vb
 have h2:Blk _ rb t #[va,vb,vc,x3,x4,x5,x6,x7,x8,x9,x10,x11]:=h1.set_ 2 vc
 have h3:Blk _ rb t #[va,vb,vc,vd,x4,x5,x6,x7,x8,x9,x10,x11]:=h2.set_ 3 vd
 have h4:Blk _ rb t #[va,vb,vc,vd,ve,x5,x6,x7,x8,x9,x10,x11]:=h3.set_ 4 ve
 have h5:Blk _ rb t #[va,vb,vc,vd,ve,vf,x6,x7,x8,x9,x10,x11]:=h4.set_ 5 vf
 have h6:Blk _ rb t #[va,vb,vc,vd,ve,vf,vg,x7,x8,x9,x10,x11]:=h5.set_ 6 vg
 have h7:Blk _ rb t #[va,vb,vc,vd,ve,vf,vg,vh,x8,x9,x10,x11]:=h6.set_ 7 vh
 have h8:Blk _ rb t #[va,vb,vc,vd,ve,vf,vg,vh,vi,x9,x10,x11]:=h7.set_ 8 vi
 have h9:Blk _ rb t #[va,vb,vc,vd,ve,vf,vg,vh,vi,vj,x10,x11]:=h8.set_ 9 vj
 have h10:Blk _ rb t #[va,vb,vc,vd,ve,vf,vg,vh,vi,vj,vk,x11]:=h9.set_ 10 vk
 exact h10.set_ 11 vl
theorem results_told {fn:Func} (h:fn.results=#[.cell 2 35]) (tmps:Array Value) (w:World) {rb:Nat} {x0 x1 x2 x3 x4 x5 x6 x7 x8 x9 x10 x11:Value} (h2:tmps.getD 2 undef=.pointer (some ⟨rb,0,none⟩))
  (hK:Blk w rb 35 #[x0,x1,x2,x3,x4,x5,x6,x7,x8,x9,x10,x11]):(results fn tmps).run Tryz.prog w=.ok (.agg #[x0,x1,x2,x3,x4,x5,x6,x7,x8,x9,x10,x11]) w:=by
 have r0:w.cell? ⟨rb,0,none⟩=some x0:=(hK.cell 0).trans rfl
 have r1:w.cell? ⟨rb,1,none⟩=some x1:=(hK.cell 1).trans rfl
 have r2:w.cell? ⟨rb,2,none⟩=some x2:=(hK.cell 2).trans rfl
 have r3:w.cell? ⟨rb,3,none⟩=some x3:=(hK.cell 3).trans rfl
 have r4:w.cell? ⟨rb,4,none⟩=some x4:=(hK.cell 4).trans rfl
 have r5:w.cell? ⟨rb,5,none⟩=some x5:=(hK.cell 5).trans rfl
 have r6:w.cell? ⟨rb,6,none⟩=some x6:=(hK.cell 6).trans rfl
 have r7:w.cell? ⟨rb,7,none⟩=some x7:=(hK.cell 7).trans rfl
 have r8:w.cell? ⟨rb,8,none⟩=some x8:=(hK.cell 8).trans rfl
 have r9:w.cell? ⟨rb,9,none⟩=some x9:=(hK.cell 9).trans rfl
 have r10:w.cell? ⟨rb,10,none⟩=some x10:=(hK.cell 10).trans rfl
 have r11:w.cell? ⟨rb,11,none⟩=some x11:=(hK.cell 11).trans rfl
 have hl:=hK.lt
 simp only [Array.getD_eq_getD_getElem?] at h2
 simp [results,h,h2,go_sem,r0,r1,r2,r3,r4,r5,r6,r7,r8,r9,r10,r11]
theorem frm_twelve (w1:World) (rb:Nat) (va vb vc vd ve vf vg vh vi vj vk vl:Value):Frm w1 ((((((((((((w1.setCell ⟨rb,0,none⟩ va).setCell ⟨rb,1,none⟩ vb).setCell ⟨rb,2,none⟩ vc).setCell ⟨rb,3,none⟩ vd).setCell ⟨rb,4,none⟩ ve).setCell ⟨rb,5,none⟩ vf).setCell ⟨rb,6,none⟩ vg).setCell ⟨rb,7,none⟩ vh).setCell ⟨rb,8,none⟩ vi).setCell ⟨rb,9,none⟩ vj).setCell ⟨rb,10,none⟩ vk).setCell ⟨rb,11,none⟩ vl) (fun z=>z=rb) :=
 (((((((((((((Frm.refl w1 (fun z=>z=rb)).set rb 0 _ (.inl rfl)).set rb 1 _ (.inl rfl)).set rb 2 _ (.inl rfl)).set rb 3 _ (.inl rfl)).set rb 4 _ (.inl rfl)).set rb 5 _ (.inl rfl)).set rb 6 _ (.inl rfl)).set rb 7 _ (.inl rfl)).set rb 8 _ (.inl rfl)).set rb 9 _ (.inl rfl)).set rb 10 _ (.inl rfl)).set rb 11 _ (.inl rfl))
theorem SetAt.lower {B B':Nat} {w:World} {x:SSt} {rv pv tv lv:Value} {T:List (Value × List (PJob × Value))} {L:List (PLine × Value)} (h:SetAt B w x rv pv tv lv T L) (hB:B' ≤ B):SetAt B' w x rv pv tv lv T L :=
 ⟨own_lower h.regs hB,own_lower h.progs hB,own_lower h.thr hB,⟨fun y hy=>own_lower (h.jobs.own y hy) hB,h.jobs.ne⟩,⟨fun y hy=>own_lower (h.args.own y hy) hB,h.args.ne⟩,h.thrEq,own_lower h.lines hB,⟨fun y hy=>own_lower (h.steps.own y hy) hB,h.steps.ne⟩,h.linesEq⟩
theorem SetAt.drew {B:Nat} {w:World} {x:SSt} {rv pv tv lv:Value} {T:List (Value × List (PJob × Value))} {L:List (PLine × Value)} (h:SetAt B w x rv pv tv lv T L):SetAt B w.drew x rv pv tv lv T L :=
 ⟨own_drewN (k:=1) h.regs,own_drewN (k:=1) h.progs,own_drewN (k:=1) h.thr,⟨fun y hy=>own_drewN (k:=1) (h.jobs.own y hy),h.jobs.ne⟩,⟨fun y hy=>own_drewN (k:=1) (h.args.own y hy),h.args.ne⟩,h.thrEq,own_drewN (k:=1) h.lines,⟨fun y hy=>own_drewN (k:=1) (h.steps.own y hy),h.steps.ne⟩,h.linesEq⟩
theorem oth_told:Oth 35:=⟨by decide,by decide,by decide,by decide,by decide,by decide,by decide⟩
theorem blk_cfg {w1:World} {q:Nat} {c:Cfg} {rv pv tv lv:Value} {e pl part k:Nat} (h:Blk w1 q 61 (StV noCfg rv pv tv lv e pl part k)):Blk (((((((w1.setCell ⟨q,0,none⟩ (.int .i64 c.raw)).setCell ⟨q,1,none⟩ (.int .i64 c.ring)).setCell ⟨q,2,none⟩ (.int .i64 c.writes)).setCell ⟨q,3,none⟩ (.int .i64 c.stamps)).setCell ⟨q,4,none⟩ (.bool c.multi)).setCell ⟨q,5,none⟩ (.int .i64 c.tries)).setCell ⟨q,6,none⟩ (.slice none 0 0)) q 61 (StV c (.slice none 0 0) pv tv lv e pl part k):=by
 have h0:Blk _ q 61 (StV ⟨c.raw,0,0,0,false,0⟩ rv pv tv lv e pl part k):=h.set_ 0 (.int .i64 c.raw)
 have h1:Blk _ q 61 (StV ⟨c.raw,c.ring,0,0,false,0⟩ rv pv tv lv e pl part k):=h0.set_ 1 (.int .i64 c.ring)
 have h2:Blk _ q 61 (StV ⟨c.raw,c.ring,c.writes,0,false,0⟩ rv pv tv lv e pl part k):=h1.set_ 2 (.int .i64 c.writes)
 have h3:Blk _ q 61 (StV ⟨c.raw,c.ring,c.writes,c.stamps,false,0⟩ rv pv tv lv e pl part k):=h2.set_ 3 (.int .i64 c.stamps)
 have h4:Blk _ q 61 (StV ⟨c.raw,c.ring,c.writes,c.stamps,c.multi,0⟩ rv pv tv lv e pl part k):=h3.set_ 4 (.bool c.multi)
 have h5:Blk _ q 61 (StV ⟨c.raw,c.ring,c.writes,c.stamps,c.multi,c.tries⟩ rv pv tv lv e pl part k):=h4.set_ 5 (.int .i64 c.tries)
 exact h5.set_ 6 (.slice none 0 0)
set_option maxHeartbeats 4000000 in
theorem rparse_any (s:ByteArray) (w:World):Calls Tryz.prog 10 #[.string s] w (RParsePost s w):=by
 obtain ⟨w0,hw0⟩:∃ w0,w0=w.alloc (.cells (toldC noCfg nilC nilC nilC nilC 0 0) 35):=⟨_,rfl⟩
 obtain ⟨rb,hrb⟩:∃ rb,rb=w.heap.size:=⟨_,rfl⟩
 have HK0:Hid (Blk w0 rb 35 (toldC noCfg nilC nilC nilC nilC 0 0)):=Lib.hid (by rw [hw0,hrb];exact Blk.new _ _ _)
 have HB0:Hid (Below w.heap.size w w0):=Lib.hid (hw0 ▸ (Below.refl _ _).alloc (Nat.le_refl _) _)
 have HRB:Hid (rb=w.heap.size):=Lib.hid hrb
 by_cases hbig:65535 < s.size
 ·have q1:decide ((65535:Int) < (s.size:Int))=true:=decide_eq_true (by omega)
  have q2:decide (65535 < s.size)=true:=decide_eq_true hbig
  go_enter Tryz.func10,Tryz.ntmps10
  have HE:Hid (parseS s.data.toList=.error (9,65535)):=Lib.hid (by
   have hz:s.data.toList.length=s.size:=Array.length_toList
   rw [parseS_eq,if_pos (by omega)])
  have r0:=(HK0.out.cell 0).trans (show _=some (.int .i64 0) from rfl)
  have r1:=(HK0.out.cell 1).trans (show _=some (.int .i64 0) from rfl)
  have r2:=(HK0.out.cell 2).trans (show _=some (.int .i64 0) from rfl)
  have r3:=(HK0.out.cell 3).trans (show _=some (.int .i64 0) from rfl)
  have r4:=(HK0.out.cell 4).trans (show _=some (.bool false) from rfl)
  have r5:=(HK0.out.cell 5).trans (show _=some (.int .i64 0) from rfl)
  have r6:=(HK0.out.cell 6).trans (show _=some (.slice none 0 0) from rfl)
  have r7:=(HK0.out.cell 7).trans (show _=some (.slice none 0 0) from rfl)
  have r8:=(HK0.out.cell 8).trans (show _=some (.slice none 0 0) from rfl)
  have r9:=(HK0.out.cell 9).trans (show _=some (.slice none 0 0) from rfl)
  have r10:=(HK0.out.cell 10).trans (show _=some (.int .i64 0) from rfl)
  have r11:=(HK0.out.cell 11).trans (show _=some (.int .i64 0) from rfl)
  have f0:=HK0.out.frozen 0
  have f1:=HK0.out.frozen 1
  have f2:=HK0.out.frozen 2
  have f3:=HK0.out.frozen 3
  have f4:=HK0.out.frozen 4
  have f5:=HK0.out.frozen 5
  have f6:=HK0.out.frozen 6
  have f7:=HK0.out.frozen 7
  have f8:=HK0.out.frozen 8
  have f9:=HK0.out.frozen 9
  have f10:=HK0.out.frozen 10
  have f11:=HK0.out.frozen 11
  have hrl:=HK0.out.lt
  go_upto_region 1 with fail
  change Code.wp _ _ _ _ (w.alloc (.cells (toldC noCfg nilC nilC nilC nilC 0 0) 35))
  rw [← hw0,← hrb]
  clear hw0 hrb hbig
  go_wp2
  refine bodyPost_ret (results_told rfl _ _ rfl (blk_twelve HK0.out _ _ _ _ _ _ _ _ _ _ _ _)) rfl ?_
  refine ⟨below_twelve HB0.out (by have:=HRB.out;omega) _ _ _ _ _ _ _ _ _ _ _ _,?_⟩
  rw [HE.out]
  rfl
 ·have q1:decide ((65535:Int) < (s.size:Int))=false:=decide_eq_false (by omega)
  have q2:decide (65535 < s.size)=false:=decide_eq_false hbig
  have hs:s.size ≤ 65535:=by omega
  clear hbig
  go_enter Tryz.func10,Tryz.ntmps10
  go_upto_region 1 with fail
  change Code.wp _ _ _ _ (w.alloc (.cells (toldC noCfg nilC nilC nilC nilC 0 0) 35))
  rw [← hw0,← hrb]
  clear hw0 hrb
  go_upto_region 4 with fail
  obtain ⟨w1,hw1⟩:∃ w1,w1=w0.alloc (.cells (StV noCfg nilC nilC nilC nilC 0 0 1 0) 61):=⟨_,rfl⟩
  obtain ⟨q,hq⟩:∃ q,q=w0.heap.size:=⟨_,rfl⟩
  change Code.wp _ _ _ _ (w0.alloc (.cells (StV noCfg nilC nilC nilC nilC 0 0 1 0) 61))
  rw [← hw1,← hq]
  have HQ1:Hid (Blk w1 q 61 (StV noCfg nilC nilC nilC nilC 0 0 1 0)):=Lib.hid (by rw [hw1,hq];exact Blk.new _ _ _)
  have HB1:Hid (Below w.heap.size w w1):=Lib.hid (HB0.out.trans (hw1 ▸ ((Below.refl _ _).alloc HB0.out.size _)))
  have HK1:Hid (Blk w1 rb 35 (toldC noCfg nilC nilC nilC nilC 0 0)):=Lib.hid (hw1 ▸ HK0.out.alloc _)
  have HQB:Hid (rb + 1 ≤ q):=Lib.hid (by have:=HK0.out.lt;omega)
  have HRW:Hid (w.heap.size ≤ rb):=Lib.hid (by have:=HRB.out;omega)
  have HZ1:Hid (rb + 1 ≤ w1.heap.size):=Lib.hid (by have:=HK1.out.lt;omega)
  clear hw1 hq
  rcases ends_or s 0 with ⟨i,he⟩ | hno
  ·have HLN:=Lib.hid (rline_hit hs he w1)
   have HE:=Lib.hid he
   obtain ⟨l,hl⟩:∃ l,l=s.extract 0 i:=⟨_,rfl⟩
   rw [← hl] at HLN
   have HL:=Lib.hid hl
   have hlz:l.size ≤ 65535:=by rw [hl,ByteArray.size_extract];omega
   have HCF:Hid (Calls Tryz.prog 21 #[.string l] w1 fun e w'=>Below w1.heap.size w1 w'∧∃ (c:Cfg) (b:Bool),e=.returned (.tuple #[.agg #[.int .i64 c.raw,.int .i64 c.ring,.int .i64 c.writes,.int .i64 c.stamps,.bool c.multi,.int .i64 c.tries,.slice none 0 0],.bool b])∧b=(configL l.data.toList).isSome∧∀ c',configL l.data.toList=some c'→c'=c):=Lib.hid (rconfig_any l hlz w1)
   have hisz:=he.2.1
   have z0:decide ((i:Int) + 1 < 0)=false:=decide_eq_false (by omega)
   clear he hl hlz
   go_upto_region 5 with (go_at_call 20;refine HLN.out.mono ?_;rintro e w2 ⟨rfl,rfl⟩)
   go_upto_region 6 with (go_at_call 21;refine HCF.out.mono ?_;rintro e w2 ⟨hb2,c,b,rfl,hcb,hcc⟩;have HCC:=Lib.hid (And.intro hcb hcc);have HB2:=Lib.hid hb2;clear hcb hcc hb2)
   have HPS:Hid (parseS s.data.toList=match configL l.data.toList with
     | none=>.error (9,0)
     | some c=>match goL (i + 1) 1 ⟨⟨c,[],[],[]⟩,[],0⟩ (s.data.toList.drop (i + 1)) with
      | .error e=>.error e
      | .ok x=>if cfgOk x.set.cfg x.set.regs then .ok x else .error (13,0)):=Lib.hid (by
    have hz:s.data.toList.length=s.size:=Array.length_toList
    have hll:(s.extract 0 i).data.toList.length=i:=by
     rw [Array.length_toList]
     show (s.extract 0 i).size=_
     rw [ByteArray.size_extract]
     omega
    have h0:nextL s.data.toList=some ((s.extract 0 i).data.toList,s.data.toList.drop (i + 1)):=nextL_of s 0 i HE.out.1 HE.out.2.1 HE.out.2.2.1 HE.out.2.2.2
    rw [parseS_eq,if_neg (by omega),h0,HL.out]
    simp only
    rw [hll]
    cases configL (s.extract 0 i).data.toList with
    | none=>rfl
    | some c =>
     simp only
     cases goL (i + 1) 1 ⟨⟨c,[],[],[]⟩,[],0⟩ (s.data.toList.drop (i + 1)) <;> rfl)
   obtain ⟨w3,hw3⟩:∃ w3,w3=w2.alloc (.cells #[.int .i64 c.raw,.int .i64 c.ring,.int .i64 c.writes,.int .i64 c.stamps,.bool c.multi,.int .i64 c.tries,.slice none 0 0] 25):=⟨_,rfl⟩
   obtain ⟨fb,hfb⟩:∃ fb,fb=w2.heap.size:=⟨_,rfl⟩
   rw [← hw3,← hfb]
   have HF3:Hid (Blk w3 fb 25 #[.int .i64 c.raw,.int .i64 c.ring,.int .i64 c.writes,.int .i64 c.stamps,.bool c.multi,.int .i64 c.tries,.slice none 0 0]):=Lib.hid (by rw [hw3,hfb];exact Blk.new _ _ _)
   have hb13:Below w1.heap.size w1 w3:=HB2.out.trans (hw3 ▸ ((Below.refl _ _).alloc HB2.out.size _))
   have HK3:=Lib.hid (HK1.out.below hb13 HK1.out.lt)
   have HQ3:=Lib.hid (HQ1.out.below hb13 HQ1.out.lt)
   have HB3:Hid (Below w.heap.size w w3):=Lib.hid (HB1.out.trans (hb13.mono HB1.out.size))
   have HZ3:Hid (rb + 1 ≤ w3.heap.size):=Lib.hid (Nat.le_trans HZ1.out hb13.size)
   clear hw3 hfb hb13
   obtain ⟨oc,hoc⟩:∃ oc,oc=configL l.data.toList:=⟨_,rfl⟩
   rw [← hoc] at HCC HPS
   clear hoc
   cases oc with
   | none =>
    have hbf:b=false:=HCC.out.1
    subst hbf
    have r0:=(HK3.out.cell 0).trans (show _=some (.int .i64 0) from rfl)
    have r1:=(HK3.out.cell 1).trans (show _=some (.int .i64 0) from rfl)
    have r2:=(HK3.out.cell 2).trans (show _=some (.int .i64 0) from rfl)
    have r3:=(HK3.out.cell 3).trans (show _=some (.int .i64 0) from rfl)
    have r4:=(HK3.out.cell 4).trans (show _=some (.bool false) from rfl)
    have r5:=(HK3.out.cell 5).trans (show _=some (.int .i64 0) from rfl)
    have r6:=(HK3.out.cell 6).trans (show _=some (.slice none 0 0) from rfl)
    have r7:=(HK3.out.cell 7).trans (show _=some (.slice none 0 0) from rfl)
    have r8:=(HK3.out.cell 8).trans (show _=some (.slice none 0 0) from rfl)
    have r9:=(HK3.out.cell 9).trans (show _=some (.slice none 0 0) from rfl)
    have r10:=(HK3.out.cell 10).trans (show _=some (.int .i64 0) from rfl)
    have r11:=(HK3.out.cell 11).trans (show _=some (.int .i64 0) from rfl)
    have f0:=HK3.out.frozen 0
    have f1:=HK3.out.frozen 1
    have f2:=HK3.out.frozen 2
    have f3:=HK3.out.frozen 3
    have f4:=HK3.out.frozen 4
    have f5:=HK3.out.frozen 5
    have f6:=HK3.out.frozen 6
    have f7:=HK3.out.frozen 7
    have f8:=HK3.out.frozen 8
    have f9:=HK3.out.frozen 9
    have f10:=HK3.out.frozen 10
    have f11:=HK3.out.frozen 11
    have hrl:=HK3.out.lt
    go_wp2
    refine bodyPost_ret (results_told rfl _ _ rfl (blk_twelve HK3.out _ _ _ _ _ _ _ _ _ _ _ _)) rfl ?_
    refine ⟨below_twelve HB3.out HRW.out _ _ _ _ _ _ _ _ _ _ _ _,?_⟩
    rw [HPS.out]
    rfl
   | some c1 =>
    have hbf:b=true:=HCC.out.1
    obtain rfl:c1=c:=HCC.out.2 c1 rfl
    subst hbf
    have k0:=(HF3.out.cell 0).trans (show _=some (Value.int .i64 c1.raw) from rfl)
    have k1:=(HF3.out.cell 1).trans (show _=some (Value.int .i64 c1.ring) from rfl)
    have k2:=(HF3.out.cell 2).trans (show _=some (Value.int .i64 c1.writes) from rfl)
    have k3:=(HF3.out.cell 3).trans (show _=some (Value.int .i64 c1.stamps) from rfl)
    have k4:=(HF3.out.cell 4).trans (show _=some (Value.bool c1.multi) from rfl)
    have k5:=(HF3.out.cell 5).trans (show _=some (Value.int .i64 c1.tries) from rfl)
    have k6:=(HF3.out.cell 6).trans (show _=some (Value.slice none 0 0) from rfl)
    have r0:=(HQ3.out.cell 0).trans (show _=some (Value.int .i64 0) from rfl)
    have r1:=(HQ3.out.cell 1).trans (show _=some (Value.int .i64 0) from rfl)
    have r2:=(HQ3.out.cell 2).trans (show _=some (Value.int .i64 0) from rfl)
    have r3:=(HQ3.out.cell 3).trans (show _=some (Value.int .i64 0) from rfl)
    have r4:=(HQ3.out.cell 4).trans (show _=some (Value.bool false) from rfl)
    have r5:=(HQ3.out.cell 5).trans (show _=some (Value.int .i64 0) from rfl)
    have r6:=(HQ3.out.cell 6).trans (show _=some (Value.slice none 0 0) from rfl)
    have f0:=HQ3.out.frozen 0
    have f1:=HQ3.out.frozen 1
    have f2:=HQ3.out.frozen 2
    have f3:=HQ3.out.frozen 3
    have f4:=HQ3.out.frozen 4
    have f5:=HQ3.out.frozen 5
    have f6:=HQ3.out.frozen 6
    have hfl:=HF3.out.lt
    have hql:=HQ3.out.lt
    have HQ4:=Lib.hid (blk_cfg (c:=c1) HQ3.out)
    have HB4:=Lib.hid (below_seven HB3.out (show w.heap.size ≤ q by have:=HQB.out;have:=HRW.out;omega) (.int .i64 c1.raw) (.int .i64 c1.ring) (.int .i64 c1.writes) (.int .i64 c1.stamps) (.bool c1.multi) (.int .i64 c1.tries) (.slice none 0 0))
    have HR4:=Lib.hid (below_seven (Below.refl (rb + 1) w3) HQB.out (.int .i64 c1.raw) (.int .i64 c1.ring) (.int .i64 c1.writes) (.int .i64 c1.stamps) (.bool c1.multi) (.int .i64 c1.tries) (.slice none 0 0))
    go_upto_region 9 with fail
    generalize hw4:(((((((w3.setCell ⟨q,0,none⟩ (.int .i64 c1.raw)).setCell ⟨q,1,none⟩ (.int .i64 c1.ring)).setCell ⟨q,2,none⟩ (.int .i64 c1.writes)).setCell ⟨q,3,none⟩ (.int .i64 c1.stamps)).setCell ⟨q,4,none⟩ (.bool c1.multi)).setCell ⟨q,5,none⟩ (.int .i64 c1.tries)).setCell ⟨q,6,none⟩ (.slice none 0 0))=w4 at HQ4 HB4 HR4 ⊢
    clear hw4 k0 k1 k2 k3 k4 k5 k6 r0 r1 r2 r3 r4 r5 r6 f0 f1 f2 f3 f4 f5 f6 hfl hql
    have HPG:Hid (parseS s.data.toList=match goL (i + 1) 1 ⟨⟨c1,[],[],[]⟩,[],0⟩ (s.data.toList.drop (i + 1)) with
      | .error e=>.error e
      | .ok x=>if cfgOk x.set.cfg x.set.regs then .ok x else .error (13,0)):=Lib.hid HPS.out
    obtain ⟨G,hG⟩:∃ G,G=goL (i + 1) 1 ⟨⟨c1,[],[],[]⟩,[],0⟩ (s.data.toList.drop (i + 1)):=⟨_,rfl⟩
    rw [← hG] at HPG
    have HZ4:Hid (rb + 1 ≤ w4.heap.size):=Lib.hid (Nat.le_trans HZ3.out HR4.out.size)
    have HK4:=Lib.hid (HK3.out.below HR4.out (by omega))
    go_loopg [5,8,9] (s.size - (i + 1)) (fun gk av _ _ W=>∃ (n p:Nat) (x:SSt),av=.int .i64 n∧gk + n=s.size∧Hid (Rnd s x p n)∧DGood (rb + 1) W q p x∧Below (rb + 1) w4 W∧Hid (G=goL n p x (s.data.toList.drop n)))
    case atStart=>exact ⟨i + 1,1,_,rfl,by omega,Lib.hid (Rnd.start (by omega)),⟨_,_,_,_,_,_,HQ4.out,SetAt.start _ _ _⟩,Below.refl _ _,Lib.hid hG⟩
    case round =>
     obtain ⟨n,p,x,rfl,hgk,HRN,hgood,hbw,HGE⟩:=hrel
     have HG:=Lib.hid hgk
     have hZr:rb + 1 ≤ wr.heap.size:=Nat.le_trans HZ4.out hbw.size
     have HKR:=Lib.hid (HK4.out.below hbw (by omega))
     have HBR:Hid (Below w.heap.size w wr):=Lib.hid (HB4.out.trans (hbw.mono (by have:=HRW.out;omega)))
     have HBW:=Lib.hid hbw
     have hnle:=HRN.out.le
     clear hgk hbw hG
     by_cases hns:n < s.size
     ·have e1:decide ((n:Int) < (s.size:Int))=true:=decide_eq_true (by omega)
      have e2:decide (n < s.size)=true:=decide_eq_true hns
      rcases ends_or s n with ⟨j,hj⟩ | hno
      ·have HLN2:=Lib.hid (rline_hit hs hj wr)
       obtain ⟨l2,hl2⟩:∃ l2,l2=s.extract n j:=⟨_,rfl⟩
       rw [← hl2] at HLN2
       have hlz2:l2.size ≤ 65535:=by rw [hl2,ByteArray.size_extract];omega
       have hjs:=hj.2.1
       have z1:decide ((j:Int) + 1 < 0)=false:=decide_eq_false (by omega)
       have HON:=Lib.hid (rone_any (rb + 1) q p n (j + 1) s l2 hs (by omega) hlz2 x wr hgood hZr HQB.out HRN.out.part (HRN.out.lim hs))
       simp only [Int.natCast_add,Int.natCast_one] at HON
       have HGO:=Lib.hid (goL_one (p:=p) (x:=x) hj)
       rw [← hl2] at HGO
       have HNX:Hid (∀ x' p' n',oneR x p s n (j + 1) l2.data.toList=.ok (x',p',n')→Rnd s x' p' n'∧n < n'):=Lib.hid fun x' p' n' ho=>by
        rw [hl2] at ho
        have h3:=HRN.out.next hj ho
        exact ⟨h3.1,h3.2.1⟩
       clear hj hl2 hlz2 hgood
       unfold DPostO at HON
       obtain ⟨R,hR⟩:∃ R,R=oneR x p s n (j + 1) l2.data.toList:=⟨_,rfl⟩
       rw [← hR] at HON HGO HNX
       clear hR
       go_upto_region 14 with (first | (go_at_call 20;refine HLN2.out.mono ?_;rintro e w5 ⟨rfl,rfl⟩) | (go_at_call 22;refine HON.out.mono ?_;rintro e w6 ⟨hb6,r6',rfl,hres⟩))
       obtain ⟨wo,rfl⟩:∃ w',w'=w6:=⟨_,rfl⟩
       have HKO:=Lib.hid (HKR.out.below hb6 (by omega))
       have HBO:Hid (Below w.heap.size w wo):=Lib.hid (HBR.out.trans (hb6.mono (by have:=HRW.out;omega)))
       have HB6:=Lib.hid hb6
       cases R with
       | error y =>
        obtain ⟨y1,y2⟩:=y
        have HPE:Hid (parseS s.data.toList=.error (y1,y2)):=Lib.hid (by rw [HPG.out,HGE.out,HGO.out])
        have hy0:=(parseS_err HPE.out).1
        have q3:((y1:Int) != 0)=true:=by simp;omega
        obtain ⟨c',rv',pv',tv',lv',part',k',hbad⟩:=hres
        have x10:wo.cell? ⟨q,10,none⟩=some (.int .i64 y1):=(hbad.cell 10).trans rfl
        have x11:wo.cell? ⟨q,11,none⟩=some (.int .i64 y2):=(hbad.cell 11).trans rfl
        have hqo:=hbad.lt
        have nqr:q ≠ rb:=by have:=HQB.out;omega
        have nrq:rb ≠ q:=Ne.symm nqr
        have HKS:=Lib.hid (blk_twelve HKO.out (.int .i64 0) (.int .i64 0) (.int .i64 0) (.int .i64 0) (.bool false) (.int .i64 0) (.slice none 0 0) (.slice none 0 0) (.slice none 0 0) (.slice none 0 0) (.int .i64 y1) (.int .i64 y2))
        have HBS:=Lib.hid (below_twelve HBO.out HRW.out (.int .i64 0) (.int .i64 0) (.int .i64 0) (.int .i64 0) (.bool false) (.int .i64 0) (.slice none 0 0) (.slice none 0 0) (.slice none 0 0) (.slice none 0 0) (.int .i64 y1) (.int .i64 y2))
        have r0:=(HKO.out.cell 0).trans (show _=some (.int .i64 0) from rfl)
        have r1:=(HKO.out.cell 1).trans (show _=some (.int .i64 0) from rfl)
        have r2:=(HKO.out.cell 2).trans (show _=some (.int .i64 0) from rfl)
        have r3:=(HKO.out.cell 3).trans (show _=some (.int .i64 0) from rfl)
        have r4:=(HKO.out.cell 4).trans (show _=some (.bool false) from rfl)
        have r5:=(HKO.out.cell 5).trans (show _=some (.int .i64 0) from rfl)
        have r6:=(HKO.out.cell 6).trans (show _=some (.slice none 0 0) from rfl)
        have r7:=(HKO.out.cell 7).trans (show _=some (.slice none 0 0) from rfl)
        have r8:=(HKO.out.cell 8).trans (show _=some (.slice none 0 0) from rfl)
        have r9:=(HKO.out.cell 9).trans (show _=some (.slice none 0 0) from rfl)
        have r10:=(HKO.out.cell 10).trans (show _=some (.int .i64 0) from rfl)
        have r11:=(HKO.out.cell 11).trans (show _=some (.int .i64 0) from rfl)
        have f0:=HKO.out.frozen 0
        have f1:=HKO.out.frozen 1
        have f2:=HKO.out.frozen 2
        have f3:=HKO.out.frozen 3
        have f4:=HKO.out.frozen 4
        have f5:=HKO.out.frozen 5
        have f6:=HKO.out.frozen 6
        have f7:=HKO.out.frozen 7
        have f8:=HKO.out.frozen 8
        have f9:=HKO.out.frozen 9
        have f10:=HKO.out.frozen 10
        have f11:=HKO.out.frozen 11
        have hrl:=HKO.out.lt
        clear hb6 hbad hy0
        go_upto_region 15 with fail
        go_region
        all_goals go_wp2
        all_goals first | (refine bodyPost_ret (results_told rfl _ _ rfl HKS.out.drew) rfl ?_;refine ⟨HBS.out.drew,?_⟩;rw [HPE.out];rfl) | (refine bodyPost_ret (results_told rfl _ _ rfl HKS.out) rfl ?_;refine ⟨HBS.out,?_⟩;rw [HPE.out];rfl)
       | ok z =>
        obtain ⟨x',p',n'⟩:=z
        obtain ⟨rfl,hgood'⟩:=hres
        obtain ⟨hr',hnn⟩:=HNX.out x' p' n' rfl
        have HRD:=Lib.hid hr'
        have HGD:=Lib.hid hgood'
        have HGE2:Hid (G=goL n' p' x' (s.data.toList.drop n')):=Lib.hid (by rw [HGE.out,HGO.out])
        obtain ⟨rv',pv',tv',lv',T',L',hbk,_⟩:=hgood'
        have x10:wo.cell? ⟨q,10,none⟩=some (.int .i64 0):=(hbk.cell 10).trans rfl
        have hqo:=hbk.lt
        have hle':=hr'.le
        clear hb6 hbk hr'
        go_wp2
        go_roundg (s.size - n')
        case measure=>have:=HG.out;omega
        case rel=>exact ⟨n',p',x',rfl,by omega,HRD,HGD.out,HBW.out.trans (HB6.out.mono (by omega)),HGE2⟩
      ·have HLN2:=Lib.hid (rline_miss hs hnle hno wr)
       have HPE:Hid (parseS s.data.toList=.error (9,n)):=Lib.hid (by rw [HPG.out,HGE.out,goL_none hns hno])
       have r0:=(HKR.out.cell 0).trans (show _=some (.int .i64 0) from rfl)
       have r1:=(HKR.out.cell 1).trans (show _=some (.int .i64 0) from rfl)
       have r2:=(HKR.out.cell 2).trans (show _=some (.int .i64 0) from rfl)
       have r3:=(HKR.out.cell 3).trans (show _=some (.int .i64 0) from rfl)
       have r4:=(HKR.out.cell 4).trans (show _=some (.bool false) from rfl)
       have r5:=(HKR.out.cell 5).trans (show _=some (.int .i64 0) from rfl)
       have r6:=(HKR.out.cell 6).trans (show _=some (.slice none 0 0) from rfl)
       have r7:=(HKR.out.cell 7).trans (show _=some (.slice none 0 0) from rfl)
       have r8:=(HKR.out.cell 8).trans (show _=some (.slice none 0 0) from rfl)
       have r9:=(HKR.out.cell 9).trans (show _=some (.slice none 0 0) from rfl)
       have r10:=(HKR.out.cell 10).trans (show _=some (.int .i64 0) from rfl)
       have r11:=(HKR.out.cell 11).trans (show _=some (.int .i64 0) from rfl)
       have f0:=HKR.out.frozen 0
       have f1:=HKR.out.frozen 1
       have f2:=HKR.out.frozen 2
       have f3:=HKR.out.frozen 3
       have f4:=HKR.out.frozen 4
       have f5:=HKR.out.frozen 5
       have f6:=HKR.out.frozen 6
       have f7:=HKR.out.frozen 7
       have f8:=HKR.out.frozen 8
       have f9:=HKR.out.frozen 9
       have f10:=HKR.out.frozen 10
       have f11:=HKR.out.frozen 11
       have hrl:=HKR.out.lt
       clear hno hgood
       go_wp2_with (go_at_call 20;refine HLN2.out.mono ?_;rintro e w5 ⟨rfl,rfl⟩)
       refine bodyPost_ret (results_told rfl _ _ rfl (blk_twelve HKR.out _ _ _ _ _ _ _ _ _ _ _ _)) rfl ?_
       refine ⟨below_twelve HBR.out HRW.out _ _ _ _ _ _ _ _ _ _ _ _,?_⟩
       rw [HPE.out]
       rfl
     ·have e1:decide ((n:Int) < (s.size:Int))=false:=decide_eq_false (by omega)
      have e2:decide (n < s.size)=false:=decide_eq_false hns
      have HGX:Hid (parseS s.data.toList=if cfgOk x.set.cfg x.set.regs then .ok x else .error (13,0)):=Lib.hid (by rw [HPG.out,HGE.out,goL_last (by omega)])
      obtain ⟨rv',pv',tv',lv',T',L',hbk,hS'⟩:=hgood
      obtain ⟨Rr,cr,rfl,_,hRr⟩:=own_shapes hS'.regs
      have HCK:=Lib.hid (rcheck_any x.set.cfg x.set.regs Rr x.set.regs.length cr wr wr.heap.size rfl (by have:=HRN.out.regs;omega) (Nat.le_refl _) hRr)
      have x0:=(hbk.cell 0).trans (show _=some (Value.int .i64 x.set.cfg.raw) from rfl)
      have x1:=(hbk.cell 1).trans (show _=some (Value.int .i64 x.set.cfg.ring) from rfl)
      have x2:=(hbk.cell 2).trans (show _=some (Value.int .i64 x.set.cfg.writes) from rfl)
      have x3:=(hbk.cell 3).trans (show _=some (Value.int .i64 x.set.cfg.stamps) from rfl)
      have x4:=(hbk.cell 4).trans (show _=some (Value.bool x.set.cfg.multi) from rfl)
      have x5:=(hbk.cell 5).trans (show _=some (Value.int .i64 x.set.cfg.tries) from rfl)
      have x6:=(hbk.cell 6).trans (show _=some (Value.slice Rr x.set.regs.length cr) from rfl)
      have hqo:=hbk.lt
      have HBK:=Lib.hid hbk
      have HSS:=Lib.hid hS'
      clear hbk hS' hRr
      by_cases hcf:cfgOk x.set.cfg x.set.regs
      ·have HPE:Hid (parseS s.data.toList=.ok x):=Lib.hid (by rw [HGX.out,if_pos hcf])
       rw [checkF_yes hcf] at HCK
       go_upto_region 17 with (go_at_call 23;refine HCK.out.mono ?_;rintro e w5 ⟨rfl,hb5⟩)
       obtain ⟨Rp,cp,rfl,_,_⟩:=own_shapes HSS.out.progs
       obtain ⟨Rt,ct,rfl,_,_⟩:=own_shapes HSS.out.thr
       obtain ⟨Rl,cl,rfl,_,_⟩:=own_shapes HSS.out.lines
       have hb5':Below (rb + 1) wr w5:=hb5.mono hZr
       have HK5:=Lib.hid (HKR.out.below hb5' (by omega))
       have HB5:Hid (Below w.heap.size w w5):=Lib.hid (HBR.out.trans (hb5'.mono (by have:=HRW.out;omega)))
       have hbk:=HBK.out.below hb5 hqo
       have HS5:=Lib.hid (HSS.out.below hb5)
       clear x0 x1 x2 x3 x4 x5 x6
       have x0:=(hbk.cell 0).trans (show _=some (Value.int .i64 x.set.cfg.raw) from rfl)
       have x1:=(hbk.cell 1).trans (show _=some (Value.int .i64 x.set.cfg.ring) from rfl)
       have x2:=(hbk.cell 2).trans (show _=some (Value.int .i64 x.set.cfg.writes) from rfl)
       have x3:=(hbk.cell 3).trans (show _=some (Value.int .i64 x.set.cfg.stamps) from rfl)
       have x4:=(hbk.cell 4).trans (show _=some (Value.bool x.set.cfg.multi) from rfl)
       have x5:=(hbk.cell 5).trans (show _=some (Value.int .i64 x.set.cfg.tries) from rfl)
       have x6:=(hbk.cell 6).trans (show _=some (Value.slice Rr x.set.regs.length cr) from rfl)
       have x7:=(hbk.cell 7).trans (show _=some (Value.slice Rp x.set.progs.length cp) from rfl)
       have x8:=(hbk.cell 8).trans (show _=some (Value.slice Rt T'.length ct) from rfl)
       have x9:=(hbk.cell 9).trans (show _=some (Value.slice Rl L'.length cl) from rfl)
       have x10:=(hbk.cell 10).trans (show _=some (Value.int .i64 0) from rfl)
       have x11:=(hbk.cell 11).trans (show _=some (Value.int .i64 0) from rfl)
       have hq5:=hbk.lt
       have r0:=(HK5.out.cell 0).trans (show _=some (.int .i64 0) from rfl)
       have r1:=(HK5.out.cell 1).trans (show _=some (.int .i64 0) from rfl)
       have r2:=(HK5.out.cell 2).trans (show _=some (.int .i64 0) from rfl)
       have r3:=(HK5.out.cell 3).trans (show _=some (.int .i64 0) from rfl)
       have r4:=(HK5.out.cell 4).trans (show _=some (.bool false) from rfl)
       have r5:=(HK5.out.cell 5).trans (show _=some (.int .i64 0) from rfl)
       have r6:=(HK5.out.cell 6).trans (show _=some (.slice none 0 0) from rfl)
       have r7:=(HK5.out.cell 7).trans (show _=some (.slice none 0 0) from rfl)
       have r8:=(HK5.out.cell 8).trans (show _=some (.slice none 0 0) from rfl)
       have r9:=(HK5.out.cell 9).trans (show _=some (.slice none 0 0) from rfl)
       have r10:=(HK5.out.cell 10).trans (show _=some (.int .i64 0) from rfl)
       have r11:=(HK5.out.cell 11).trans (show _=some (.int .i64 0) from rfl)
       have f0:=HK5.out.frozen 0
       have f1:=HK5.out.frozen 1
       have f2:=HK5.out.frozen 2
       have f3:=HK5.out.frozen 3
       have f4:=HK5.out.frozen 4
       have f5:=HK5.out.frozen 5
       have f6:=HK5.out.frozen 6
       have f7:=HK5.out.frozen 7
       have f8:=HK5.out.frozen 8
       have f9:=HK5.out.frozen 9
       have f10:=HK5.out.frozen 10
       have f11:=HK5.out.frozen 11
       have hrl:=HK5.out.lt
       have HKS:=Lib.hid (blk_twelve HK5.out (.int .i64 x.set.cfg.raw) (.int .i64 x.set.cfg.ring) (.int .i64 x.set.cfg.writes) (.int .i64 x.set.cfg.stamps) (.bool x.set.cfg.multi) (.int .i64 x.set.cfg.tries) (.slice Rr x.set.regs.length cr) (.slice Rp x.set.progs.length cp) (.slice Rt T'.length ct) (.slice Rl L'.length cl) (.int .i64 0) (.int .i64 0))
       have HBS:=Lib.hid (below_twelve HB5.out HRW.out (.int .i64 x.set.cfg.raw) (.int .i64 x.set.cfg.ring) (.int .i64 x.set.cfg.writes) (.int .i64 x.set.cfg.stamps) (.bool x.set.cfg.multi) (.int .i64 x.set.cfg.tries) (.slice Rr x.set.regs.length cr) (.slice Rp x.set.progs.length cp) (.slice Rt T'.length ct) (.slice Rl L'.length cl) (.int .i64 0) (.int .i64 0))
       have HSX:Hid (SetAt w.heap.size _ x _ _ _ _ T' L'):=Lib.hid ((HS5.out.frm HK5.out oth_told (frm_twelve w5 rb (.int .i64 x.set.cfg.raw) (.int .i64 x.set.cfg.ring) (.int .i64 x.set.cfg.writes) (.int .i64 x.set.cfg.stamps) (.bool x.set.cfg.multi) (.int .i64 x.set.cfg.tries) (.slice Rr x.set.regs.length cr) (.slice Rp x.set.progs.length cp) (.slice Rt T'.length ct) (.slice Rl L'.length cl) (.int .i64 0) (.int .i64 0))).lower (by have:=HRW.out;omega))
       clear hbk hcf hb5 hb5'
       go_wp2
       refine bodyPost_ret (results_told rfl _ _ rfl HKS.out) rfl ?_
       refine ⟨HBS.out,?_⟩
       rw [HPE.out]
       exact ⟨_,_,_,_,T',L',rfl,HSX.out⟩
      ·have HPE:Hid (parseS s.data.toList=.error (13,0)):=Lib.hid (by rw [HGX.out,if_neg hcf])
       rw [checkF_no hcf] at HCK
       go_upto_region 17 with (go_at_call 23;refine HCK.out.mono ?_;rintro e w5 ⟨rfl,hb5⟩)
       have hb5':Below (rb + 1) wr w5:=hb5.mono hZr
       have HK5:=Lib.hid (HKR.out.below hb5' (by omega))
       have HB5:Hid (Below w.heap.size w w5):=Lib.hid (HBR.out.trans (hb5'.mono (by have:=HRW.out;omega)))
       have r0:=(HK5.out.cell 0).trans (show _=some (.int .i64 0) from rfl)
       have r1:=(HK5.out.cell 1).trans (show _=some (.int .i64 0) from rfl)
       have r2:=(HK5.out.cell 2).trans (show _=some (.int .i64 0) from rfl)
       have r3:=(HK5.out.cell 3).trans (show _=some (.int .i64 0) from rfl)
       have r4:=(HK5.out.cell 4).trans (show _=some (.bool false) from rfl)
       have r5:=(HK5.out.cell 5).trans (show _=some (.int .i64 0) from rfl)
       have r6:=(HK5.out.cell 6).trans (show _=some (.slice none 0 0) from rfl)
       have r7:=(HK5.out.cell 7).trans (show _=some (.slice none 0 0) from rfl)
       have r8:=(HK5.out.cell 8).trans (show _=some (.slice none 0 0) from rfl)
       have r9:=(HK5.out.cell 9).trans (show _=some (.slice none 0 0) from rfl)
       have r10:=(HK5.out.cell 10).trans (show _=some (.int .i64 0) from rfl)
       have r11:=(HK5.out.cell 11).trans (show _=some (.int .i64 0) from rfl)
       have f0:=HK5.out.frozen 0
       have f1:=HK5.out.frozen 1
       have f2:=HK5.out.frozen 2
       have f3:=HK5.out.frozen 3
       have f4:=HK5.out.frozen 4
       have f5:=HK5.out.frozen 5
       have f6:=HK5.out.frozen 6
       have f7:=HK5.out.frozen 7
       have f8:=HK5.out.frozen 8
       have f9:=HK5.out.frozen 9
       have f10:=HK5.out.frozen 10
       have f11:=HK5.out.frozen 11
       have hrl:=HK5.out.lt
       clear hcf hb5 hb5' x0 x1 x2 x3 x4 x5 x6
       go_wp2
       refine bodyPost_ret (results_told rfl _ _ rfl (blk_twelve HK5.out _ _ _ _ _ _ _ _ _ _ _ _)) rfl ?_
       refine ⟨below_twelve HB5.out HRW.out _ _ _ _ _ _ _ _ _ _ _ _,?_⟩
       rw [HPE.out]
       rfl
  ·have HLN:=Lib.hid (rline_miss hs (Nat.zero_le _) hno w1)
   have HE:Hid (parseS s.data.toList=.error (9,0)):=Lib.hid (by
    have hz:s.data.toList.length=s.size:=Array.length_toList
    have h0:nextL s.data.toList=none:=nextL_no s 0 hno
    rw [parseS_eq,if_neg (by omega),h0])
   have HCF:Hid (Calls Tryz.prog 21 #[.string ⟨#[]⟩] w1 fun e w'=>Below w1.heap.size w1 w'∧∃ (c:Cfg) (b:Bool),e=.returned (.tuple #[.agg #[.int .i64 c.raw,.int .i64 c.ring,.int .i64 c.writes,.int .i64 c.stamps,.bool c.multi,.int .i64 c.tries,.slice none 0 0],.bool b])):=Lib.hid ((rconfig_any ⟨#[]⟩ (by decide) w1).mono fun e w' h=>⟨h.1,h.2.imp fun c hc=>hc.imp fun b hb=>hb.1⟩)
   clear hno
   go_upto_region 5 with (go_at_call 20;refine HLN.out.mono ?_;rintro e w2 ⟨rfl,rfl⟩)
   go_upto_region 6 with (go_at_call 21;refine HCF.out.mono ?_;rintro e w2 ⟨hb2,c,b,rfl⟩;have HB2:=Lib.hid hb2;clear hb2)
   obtain ⟨w3,hw3⟩:∃ w3,w3=w2.alloc (.cells #[.int .i64 c.raw,.int .i64 c.ring,.int .i64 c.writes,.int .i64 c.stamps,.bool c.multi,.int .i64 c.tries,.slice none 0 0] 25):=⟨_,rfl⟩
   rw [← hw3]
   have hb13:Below w1.heap.size w1 w3:=HB2.out.trans (hw3 ▸ ((Below.refl _ _).alloc HB2.out.size _))
   have HK3:=Lib.hid (HK1.out.below hb13 HK1.out.lt)
   have HB3:Hid (Below w.heap.size w w3):=Lib.hid (HB1.out.trans (hb13.mono HB1.out.size))
   clear hw3 hb13
   have r0:=(HK3.out.cell 0).trans (show _=some (.int .i64 0) from rfl)
   have r1:=(HK3.out.cell 1).trans (show _=some (.int .i64 0) from rfl)
   have r2:=(HK3.out.cell 2).trans (show _=some (.int .i64 0) from rfl)
   have r3:=(HK3.out.cell 3).trans (show _=some (.int .i64 0) from rfl)
   have r4:=(HK3.out.cell 4).trans (show _=some (.bool false) from rfl)
   have r5:=(HK3.out.cell 5).trans (show _=some (.int .i64 0) from rfl)
   have r6:=(HK3.out.cell 6).trans (show _=some (.slice none 0 0) from rfl)
   have r7:=(HK3.out.cell 7).trans (show _=some (.slice none 0 0) from rfl)
   have r8:=(HK3.out.cell 8).trans (show _=some (.slice none 0 0) from rfl)
   have r9:=(HK3.out.cell 9).trans (show _=some (.slice none 0 0) from rfl)
   have r10:=(HK3.out.cell 10).trans (show _=some (.int .i64 0) from rfl)
   have r11:=(HK3.out.cell 11).trans (show _=some (.int .i64 0) from rfl)
   have f0:=HK3.out.frozen 0
   have f1:=HK3.out.frozen 1
   have f2:=HK3.out.frozen 2
   have f3:=HK3.out.frozen 3
   have f4:=HK3.out.frozen 4
   have f5:=HK3.out.frozen 5
   have f6:=HK3.out.frozen 6
   have f7:=HK3.out.frozen 7
   have f8:=HK3.out.frozen 8
   have f9:=HK3.out.frozen 9
   have f10:=HK3.out.frozen 10
   have f11:=HK3.out.frozen 11
   have hrl:=HK3.out.lt
   go_wp2
   refine bodyPost_ret (results_told rfl _ _ rfl (blk_twelve HK3.out _ _ _ _ _ _ _ _ _ _ _ _)) rfl ?_
   refine ⟨below_twelve HB3.out HRW.out _ _ _ _ _ _ _ _ _ _ _ _,?_⟩
   rw [HE.out]
   rfl
end Go.Proofs.YtiheggkkgbfndaaGreatDoor
