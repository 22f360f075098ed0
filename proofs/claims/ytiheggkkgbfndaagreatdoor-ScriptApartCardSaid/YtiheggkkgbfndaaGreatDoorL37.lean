/- script.Parse. -/
import Derived.Test.YtiheggkkgbfndaaGreatDoorL33
import Derived.Test.YtiheggkkgbfndaaGreatDoorL36
import Derived.Test.YtiheggkkgbfndaaGreatDoorL15
namespace Go.Proofs.YtiheggkkgbfndaaGreatDoor
open Go.RowKit Go.Joins Go.ChangeShapes Go.WideShapes Go.Deep
set_option linter.unusedVariables false
set_option linter.unusedSimpArgs false
set_option maxRecDepth 100000
def setupC (c:Cfg) (rv pv tv:Value):Array Value:=#[.int .i64 c.raw,.int .i64 c.ring,.int .i64 c.writes,.int .i64 c.stamps,.bool c.multi,.int .i64 c.tries,rv,pv,tv]
def PParsePost (s:ByteArray) (w:World) (e:Ending) (w':World):Prop:=Below w.heap.size w w'∧match parseS s.data.toList with
 | .error y=>e=.returned (.tuple #[.agg (setupC noCfg nilC nilC nilC),nilC,.int .i64 y.1,.int .i64 y.2])
 | .ok x=>∃ rv pv tv lv T L,e=.returned (.tuple #[.agg (setupC x.set.cfg rv pv tv),lv,.int .i64 0,.int .i64 0])∧SetAt w.heap.size w' x rv pv tv lv T L
theorem below_nine {B:Nat} {w w1:World} {rb:Nat} (h:Below B w w1) (hB:B ≤ rb) (va vb vc vd ve vf vg vh vi:Value):Below B w (((((((((w1.setCell ⟨rb,0,none⟩ va).setCell ⟨rb,1,none⟩ vb).setCell ⟨rb,2,none⟩ vc).setCell ⟨rb,3,none⟩ vd).setCell ⟨rb,4,none⟩ ve).setCell ⟨rb,5,none⟩ vf).setCell ⟨rb,6,none⟩ vg).setCell ⟨rb,7,none⟩ vh).setCell ⟨rb,8,none⟩ vi) :=
 (((((((((h.setCell hB _).setCell hB _).setCell hB _).setCell hB _).setCell hB _).setCell hB _).setCell hB _).setCell hB _).setCell hB _)
theorem blk_nine {w1:World} {rb:Nat} {x0 x1 x2 x3 x4 x5 x6 x7 x8:Value} {t:TypeId} (h:Blk w1 rb t #[x0,x1,x2,x3,x4,x5,x6,x7,x8]) (va vb vc vd ve vf vg vh vi:Value):Blk (((((((((w1.setCell ⟨rb,0,none⟩ va).setCell ⟨rb,1,none⟩ vb).setCell ⟨rb,2,none⟩ vc).setCell ⟨rb,3,none⟩ vd).setCell ⟨rb,4,none⟩ ve).setCell ⟨rb,5,none⟩ vf).setCell ⟨rb,6,none⟩ vg).setCell ⟨rb,7,none⟩ vh).setCell ⟨rb,8,none⟩ vi) rb t #[va,vb,vc,vd,ve,vf,vg,vh,vi]:=by
 have h0:Blk _ rb t #[va,x1,x2,x3,x4,x5,x6,x7,x8]:=h.set_ 0 va
 have h1:Blk _ rb t #[va,vb,x2,x3,x4,x5,x6,x7,x8]:=h0.set_ 1 vb
 have h2:Blk _ rb t #[va,vb,vc,x3,x4,x5,x6,x7,x8]:=h1.set_ 2 vc
 have h3:Blk _ rb t #[va,vb,vc,vd,x4,x5,x6,x7,x8]:=h2.set_ 3 vd
 have h4:Blk _ rb t #[va,vb,vc,vd,ve,x5,x6,x7,x8]:=h3.set_ 4 ve
 have h5:Blk _ rb t #[va,vb,vc,vd,ve,vf,x6,x7,x8]:=h4.set_ 5 vf
 have h6:Blk _ rb t #[va,vb,vc,vd,ve,vf,vg,x7,x8]:=h5.set_ 6 vg
 have h7:Blk _ rb t #[va,vb,vc,vd,ve,vf,vg,vh,x8]:=h6.set_ 7 vh
 exact h7.set_ 8 vi
theorem frm_nine (w1:World) (rb:Nat) (va vb vc vd ve vf vg vh vi:Value):Frm w1 (((((((((w1.setCell ⟨rb,0,none⟩ va).setCell ⟨rb,1,none⟩ vb).setCell ⟨rb,2,none⟩ vc).setCell ⟨rb,3,none⟩ vd).setCell ⟨rb,4,none⟩ ve).setCell ⟨rb,5,none⟩ vf).setCell ⟨rb,6,none⟩ vg).setCell ⟨rb,7,none⟩ vh).setCell ⟨rb,8,none⟩ vi) (fun z=>z=rb) :=
 ((((((((((Frm.refl w1 (fun z=>z=rb)).set rb 0 _ (.inl rfl)).set rb 1 _ (.inl rfl)).set rb 2 _ (.inl rfl)).set rb 3 _ (.inl rfl)).set rb 4 _ (.inl rfl)).set rb 5 _ (.inl rfl)).set rb 6 _ (.inl rfl)).set rb 7 _ (.inl rfl)).set rb 8 _ (.inl rfl))
theorem results_setup {fn:Func} (h:fn.results=#[.cell 2 29,.tmp 3,.tmp 4,.tmp 5]) (tmps:Array Value) (w:World) {rb:Nat} {x0 x1 x2 x3 x4 x5 x6 x7 x8 y3 y4 y5:Value} (h2:tmps.getD 2 undef=.pointer (some ⟨rb,0,none⟩)) (h3:tmps.getD 3 undef=y3) (h4:tmps.getD 4 undef=y4) (h5:tmps.getD 5 undef=y5)
  (hK:Blk w rb 29 #[x0,x1,x2,x3,x4,x5,x6,x7,x8]):(results fn tmps).run Tryz.prog w=.ok (.tuple #[.agg #[x0,x1,x2,x3,x4,x5,x6,x7,x8],y3,y4,y5]) w:=by
 have r0:w.cell? ⟨rb,0,none⟩=some x0:=(hK.cell 0).trans rfl
 have r1:w.cell? ⟨rb,1,none⟩=some x1:=(hK.cell 1).trans rfl
 have r2:w.cell? ⟨rb,2,none⟩=some x2:=(hK.cell 2).trans rfl
 have r3:w.cell? ⟨rb,3,none⟩=some x3:=(hK.cell 3).trans rfl
 have r4:w.cell? ⟨rb,4,none⟩=some x4:=(hK.cell 4).trans rfl
 have r5:w.cell? ⟨rb,5,none⟩=some x5:=(hK.cell 5).trans rfl
 have r6:w.cell? ⟨rb,6,none⟩=some x6:=(hK.cell 6).trans rfl
 have r7:w.cell? ⟨rb,7,none⟩=some x7:=(hK.cell 7).trans rfl
 have r8:w.cell? ⟨rb,8,none⟩=some x8:=(hK.cell 8).trans rfl
 have hl:=hK.lt
 simp only [Array.getD_eq_getD_getElem?] at h2 h3 h4 h5
 simp [results,h,h2,h3,h4,h5,go_sem,r0,r1,r2,r3,r4,r5,r6,r7,r8]
theorem own_len {w:World} {base e size n:Nat} {v:Value} {xs:List Value} (h:w.ownsRow base e size v n xs):n ≤ 9223372036854775807:=by
 rcases h.2 with ⟨_,rfl⟩ | ⟨g,cap,cur,_,_,_,hnc,hcm,_⟩
 ·omega
 ·unfold maxLen at hcm;omega
theorem oth_setup:Oth 29:=⟨by decide,by decide,by decide,by decide,by decide,by decide,by decide⟩
set_option maxHeartbeats 8000000 in
theorem pparse_any {C:Nat} (s:ByteArray) (w:World) (hE:EnvP C w):Calls Tryz.prog 9 #[.string s] w (PParsePost s w):=by
 have hCw:=hE.size
 obtain ⟨w0,hw0⟩:∃ w0,w0=w.alloc (.cells (setupC noCfg nilC nilC nilC) 29):=⟨_,rfl⟩
 obtain ⟨rb,hrb⟩:∃ rb,rb=w.heap.size:=⟨_,rfl⟩
 have HK0:Hid (Blk w0 rb 29 (setupC noCfg nilC nilC nilC)):=Lib.hid (by rw [hw0,hrb];exact Blk.new _ _ _)
 have HB0:Hid (Below w.heap.size w w0):=Lib.hid (hw0 ▸ (Below.refl _ _).alloc (Nat.le_refl _) _)
 have HRB:Hid (rb=w.heap.size):=Lib.hid hrb
 have HEW:=Lib.hid hE
 clear hE
 by_cases hbig:65535 < s.size
 ·have q1:decide ((65535:Int) < (s.size:Int))=true:=decide_eq_true (by omega)
  have q2:decide (65535 < s.size)=true:=decide_eq_true hbig
  have HE:Hid (parseS s.data.toList=.error (9,65535)):=Lib.hid (by
   have hz:s.data.toList.length=s.size:=Array.length_toList
   rw [parseS_eq,if_pos (by omega)])
  have r0:=(HK0.out.cell 0).trans (show _=some (Value.int .i64 0) from rfl)
  have r1:=(HK0.out.cell 1).trans (show _=some (Value.int .i64 0) from rfl)
  have r2:=(HK0.out.cell 2).trans (show _=some (Value.int .i64 0) from rfl)
  have r3:=(HK0.out.cell 3).trans (show _=some (Value.int .i64 0) from rfl)
  have r4:=(HK0.out.cell 4).trans (show _=some (Value.bool false) from rfl)
  have r5:=(HK0.out.cell 5).trans (show _=some (Value.int .i64 0) from rfl)
  have r6:=(HK0.out.cell 6).trans (show _=some (Value.slice none 0 0) from rfl)
  have r7:=(HK0.out.cell 7).trans (show _=some (Value.slice none 0 0) from rfl)
  have r8:=(HK0.out.cell 8).trans (show _=some (Value.slice none 0 0) from rfl)
  have f0:=HK0.out.frozen 0
  have f1:=HK0.out.frozen 1
  have f2:=HK0.out.frozen 2
  have f3:=HK0.out.frozen 3
  have f4:=HK0.out.frozen 4
  have f5:=HK0.out.frozen 5
  have f6:=HK0.out.frozen 6
  have f7:=HK0.out.frozen 7
  have f8:=HK0.out.frozen 8
  have hrl:=HK0.out.lt
  go_enter Tryz.func9,Tryz.ntmps9
  go_upto_region 1 with fail
  change Code.wp _ _ _ _ (w.alloc (.cells (setupC noCfg nilC nilC nilC) 29))
  rw [← hw0,← hrb]
  clear hw0 hrb hbig
  go_wp2
  refine bodyPost_ret (results_setup rfl _ _ rfl rfl rfl rfl (blk_nine HK0.out _ _ _ _ _ _ _ _ _)) rfl ?_
  refine ⟨below_nine HB0.out (by have:=HRB.out;omega) _ _ _ _ _ _ _ _ _,?_⟩
  rw [HE.out]
  rfl
 ·have q1:decide ((65535:Int) < (s.size:Int))=false:=decide_eq_false (by omega)
  have q2:decide (65535 < s.size)=false:=decide_eq_false hbig
  have hs:s.size ≤ 65535:=by omega
  clear hbig
  go_enter Tryz.func9,Tryz.ntmps9
  go_upto_region 1 with fail
  change Code.wp _ _ _ _ (w.alloc (.cells (setupC noCfg nilC nilC nilC) 29))
  rw [← hw0,← hrb]
  clear hw0 hrb
  go_upto_region 4 with fail
  obtain ⟨w1,hw1⟩:∃ w1,w1=w0.alloc (.cells (RdV s 0 0 noCfg nilC nilC nilC nilC 0 0 0) 56):=⟨_,rfl⟩
  obtain ⟨p,hp⟩:∃ p,p=w0.heap.size:=⟨_,rfl⟩
  change Code.wp _ _ _ _ (w0.alloc (.cells (RdV s 0 0 noCfg nilC nilC nilC nilC 0 0 0) 56))
  rw [← hw1,← hp]
  have HQ1:Hid (Blk w1 p 56 (RdV s 0 0 noCfg nilC nilC nilC nilC 0 0 0)):=Lib.hid (by rw [hw1,hp];exact Blk.new _ _ _)
  have HB1:Hid (Below w.heap.size w w1):=Lib.hid (HB0.out.trans (hw1 ▸ ((Below.refl _ _).alloc HB0.out.size _)))
  have HK1:Hid (Blk w1 rb 29 (setupC noCfg nilC nilC nilC)):=Lib.hid (hw1 ▸ HK0.out.alloc _)
  have HPB:Hid (rb + 1 ≤ p):=Lib.hid (by have:=HK0.out.lt;omega)
  have HRW:Hid (w.heap.size ≤ rb):=Lib.hid (by have:=HRB.out;omega)
  have HZ1:Hid (rb + 1 ≤ w1.heap.size):=Lib.hid (by have:=HK1.out.lt;omega)
  have HCB:Hid (C ≤ rb + 1):=Lib.hid (by have:=HRB.out;omega)
  have HE1:=Lib.hid (HEW.out.below (HB1.out.mono hCw))
  clear hw1 hp
  rcases ends_or s 0 with ⟨i,he⟩ | hno
  ·have HCF:=Lib.hid (pconfig_line (rb + 1) p i s hs w1 HE1.out HCB.out HQ1.out HZ1.out HPB.out he)
   obtain ⟨l,hl⟩:∃ l,l=s.extract 0 i:=⟨_,rfl⟩
   rw [← hl] at HCF
   unfold PCfgPost at HCF
   have HPS:Hid (parseS s.data.toList=match configL l.data.toList with
     | none=>.error (9,0)
     | some c=>match goL (i + 1) 1 ⟨⟨c,[],[],[]⟩,[],0⟩ (s.data.toList.drop (i + 1)) with
      | .error e=>.error e
      | .ok x=>if cfgOk x.set.cfg x.set.regs then .ok x else .error (13,0)):=Lib.hid (by
    have hz:s.data.toList.length=s.size:=Array.length_toList
    have hsi:=he.2.1
    have hll:(s.extract 0 i).data.toList.length=i:=by
     rw [Array.length_toList]
     show (s.extract 0 i).size=_
     rw [ByteArray.size_extract]
     omega
    have h0:nextL s.data.toList=some ((s.extract 0 i).data.toList,s.data.toList.drop (i + 1)):=nextL_of s 0 i he.1 he.2.1 he.2.2.1 he.2.2.2
    rw [parseS_eq,if_neg (by omega),h0,hl]
    simp only
    rw [hll]
    cases configL (s.extract 0 i).data.toList with
    | none=>rfl
    | some c =>
     simp only
     cases goL (i + 1) 1 ⟨⟨c,[],[],[]⟩,[],0⟩ (s.data.toList.drop (i + 1)) <;> rfl)
   have hsi:=he.2.1
   clear hl he
   obtain ⟨oc,hoc⟩:∃ oc,oc=configL l.data.toList:=⟨_,rfl⟩
   rw [← hoc] at HCF HPS
   clear hoc
   cases oc with
   | none =>
    have HPE:Hid (parseS s.data.toList=.error (9,0)):=Lib.hid HPS.out
    go_upto_region 5 with (go_at_call 16;refine HCF.out.mono ?_;rintro e w2 ⟨hb2,rfl,hpc⟩)
    obtain ⟨a2,n2,hbk⟩:=hpc
    have HFA:=Lib.hid (fails_any s p a2 n2 noCfg nilC nilC nilC nilC 0 0 9 0 w2 hbk)
    have HB2:=Lib.hid hb2
    have hB2s:rb + 1 ≤ w2.heap.size:=Nat.le_trans HZ1.out hb2.size
    clear hbk hb2
    go_upto_region 7 with (go_at_call 17;refine HFA.out.mono ?_;rintro e w3 ⟨rfl,hF,hB3⟩;have HF3:=Lib.hid hF;have HB3:=Lib.hid hB3;clear hF hB3)
    have hb13:Below (rb + 1) w1 w3:=HB2.out.trans (below_of_frm HF3.out hB2s HPB.out)
    have HKX:=Lib.hid (HK1.out.below hb13 (by omega))
    have HBX:Hid (Below w.heap.size w w3):=Lib.hid (HB1.out.trans (hb13.mono (by have:=HRW.out;omega)))
    have HBD:Hid (PBad w3 p 9 0):=Lib.hid ⟨_,_,_,_,_,_,_,_,_,HB3.out⟩
    clear hb13
    obtain ⟨s',a',n',c',rv',pv',tv',lv',k',hbd⟩:=HBD.out
    have x14:(w3).cell? ⟨p,14,none⟩=some (.int .i64 9):=(hbd.cell 14).trans rfl
    have x15:(w3).cell? ⟨p,15,none⟩=some (.int .i64 0):=(hbd.cell 15).trans rfl
    have hplx:=hbd.lt
    have npr:p ≠ rb:=by have:=HPB.out;omega
    have nrp:rb ≠ p:=Ne.symm npr
    have qe1:(((9:Nat):Int) == 0)=false:=by first | (simp;done) | (simp;omega)
    have qe2:(((9:Nat):Int) != 0)=true:=by first | (simp;done) | (simp;omega)
    have HKS:=Lib.hid (blk_nine HKX.out (.int .i64 0) (.int .i64 0) (.int .i64 0) (.int .i64 0) (.bool false) (.int .i64 0) (.slice none 0 0) (.slice none 0 0) (.slice none 0 0))
    have HBS:=Lib.hid (below_nine HBX.out HRW.out (.int .i64 0) (.int .i64 0) (.int .i64 0) (.int .i64 0) (.bool false) (.int .i64 0) (.slice none 0 0) (.slice none 0 0) (.slice none 0 0))
    have r0:=(HKX.out.cell 0).trans (show _=some (Value.int .i64 0) from rfl)
    have r1:=(HKX.out.cell 1).trans (show _=some (Value.int .i64 0) from rfl)
    have r2:=(HKX.out.cell 2).trans (show _=some (Value.int .i64 0) from rfl)
    have r3:=(HKX.out.cell 3).trans (show _=some (Value.int .i64 0) from rfl)
    have r4:=(HKX.out.cell 4).trans (show _=some (Value.bool false) from rfl)
    have r5:=(HKX.out.cell 5).trans (show _=some (Value.int .i64 0) from rfl)
    have r6:=(HKX.out.cell 6).trans (show _=some (Value.slice none 0 0) from rfl)
    have r7:=(HKX.out.cell 7).trans (show _=some (Value.slice none 0 0) from rfl)
    have r8:=(HKX.out.cell 8).trans (show _=some (Value.slice none 0 0) from rfl)
    have f0:=HKX.out.frozen 0
    have f1:=HKX.out.frozen 1
    have f2:=HKX.out.frozen 2
    have f3:=HKX.out.frozen 3
    have f4:=HKX.out.frozen 4
    have f5:=HKX.out.frozen 5
    have f6:=HKX.out.frozen 6
    have f7:=HKX.out.frozen 7
    have f8:=HKX.out.frozen 8
    have hrl:=HKX.out.lt
    clear hbd
    go_upto_region 10 with fail
    go_region
    all_goals go_wp2
    all_goals first | (refine bodyPost_ret (results_setup rfl _ _ rfl rfl rfl rfl HKS.out.drew) rfl ?_;refine ⟨HBS.out.drew,?_⟩;rw [HPE.out];rfl) | (refine bodyPost_ret (results_setup rfl _ _ rfl rfl rfl rfl HKS.out) rfl ?_;refine ⟨HBS.out,?_⟩;rw [HPE.out];rfl)
   | some c =>
    have HPG:Hid (parseS s.data.toList=match goL (i + 1) 1 ⟨⟨c,[],[],[]⟩,[],0⟩ (s.data.toList.drop (i + 1)) with
      | .error e=>.error e
      | .ok x=>if cfgOk x.set.cfg x.set.regs then .ok x else .error (13,0)):=Lib.hid HPS.out
    go_upto_region 6 with (go_at_call 16;refine HCF.out.mono ?_;rintro e w2 ⟨hb2,rfl,hpc⟩;have HB2:=Lib.hid hb2;have HPC:=Lib.hid hpc;clear hb2 hpc)
    have hB2s:rb + 1 ≤ w2.heap.size:=Nat.le_trans HZ1.out HB2.out.size
    have HRS:=Lib.hid (prest_any (rb + 1) p 0 (i + 1) s hs ⟨⟨c,[],[],[]⟩,[],0⟩ w2 (HE1.out.below (HB2.out.mono HCB.out)) HCB.out ⟨_,_,_,_,_,_,HPC.out,SetAt.start _ _ _⟩ hB2s HPB.out (Rnd.start (by omega)))
    obtain ⟨G,hG⟩:∃ G,G=goL (i + 1) 1 ⟨⟨c,[],[],[]⟩,[],0⟩ (s.data.toList.drop (i + 1)):=⟨_,rfl⟩
    rw [← hG] at HPG HRS
    have HGG:=Lib.hid hG
    clear hG
    go_upto_region 7 with (go_at_call 18;refine HRS.out.mono ?_;rintro e w3 ⟨rfl,hb3,hres⟩)
    have hb13:Below (rb + 1) w1 w3:=HB2.out.trans hb3
    have HKX:=Lib.hid (HK1.out.below hb13 (by omega))
    have HBX:Hid (Below w.heap.size w w3):=Lib.hid (HB1.out.trans (hb13.mono (by have:=HRW.out;omega)))
    have hB3s:rb + 1 ≤ w3.heap.size:=Nat.le_trans hB2s hb3.size
    cases G with
    | error y =>
     obtain ⟨y1,y2⟩:=y
     have hy0:=goL_err0 HGG.out.symm
     have HPE:Hid (parseS s.data.toList=.error (y1,y2)):=Lib.hid HPG.out
     have HBD:Hid (PBad w3 p y1 y2):=Lib.hid hres
     clear hb13 hb3 hres
     have hy1:y1 ≠ 0:=hy0
     clear hy0
     obtain ⟨s',a',n',c',rv',pv',tv',lv',k',hbd⟩:=HBD.out
     have x14:(w3).cell? ⟨p,14,none⟩=some (.int .i64 y1):=(hbd.cell 14).trans rfl
     have x15:(w3).cell? ⟨p,15,none⟩=some (.int .i64 y2):=(hbd.cell 15).trans rfl
     have hplx:=hbd.lt
     have npr:p ≠ rb:=by have:=HPB.out;omega
     have nrp:rb ≠ p:=Ne.symm npr
     have qe1:(((y1:Nat):Int) == 0)=false:=by first | (simp;done) | (simp;omega)
     have qe2:(((y1:Nat):Int) != 0)=true:=by first | (simp;done) | (simp;omega)
     have HKS:=Lib.hid (blk_nine HKX.out (.int .i64 0) (.int .i64 0) (.int .i64 0) (.int .i64 0) (.bool false) (.int .i64 0) (.slice none 0 0) (.slice none 0 0) (.slice none 0 0))
     have HBS:=Lib.hid (below_nine HBX.out HRW.out (.int .i64 0) (.int .i64 0) (.int .i64 0) (.int .i64 0) (.bool false) (.int .i64 0) (.slice none 0 0) (.slice none 0 0) (.slice none 0 0))
     have r0:=(HKX.out.cell 0).trans (show _=some (Value.int .i64 0) from rfl)
     have r1:=(HKX.out.cell 1).trans (show _=some (Value.int .i64 0) from rfl)
     have r2:=(HKX.out.cell 2).trans (show _=some (Value.int .i64 0) from rfl)
     have r3:=(HKX.out.cell 3).trans (show _=some (Value.int .i64 0) from rfl)
     have r4:=(HKX.out.cell 4).trans (show _=some (Value.bool false) from rfl)
     have r5:=(HKX.out.cell 5).trans (show _=some (Value.int .i64 0) from rfl)
     have r6:=(HKX.out.cell 6).trans (show _=some (Value.slice none 0 0) from rfl)
     have r7:=(HKX.out.cell 7).trans (show _=some (Value.slice none 0 0) from rfl)
     have r8:=(HKX.out.cell 8).trans (show _=some (Value.slice none 0 0) from rfl)
     have f0:=HKX.out.frozen 0
     have f1:=HKX.out.frozen 1
     have f2:=HKX.out.frozen 2
     have f3:=HKX.out.frozen 3
     have f4:=HKX.out.frozen 4
     have f5:=HKX.out.frozen 5
     have f6:=HKX.out.frozen 6
     have f7:=HKX.out.frozen 7
     have f8:=HKX.out.frozen 8
     have hrl:=HKX.out.lt
     clear hbd
     go_upto_region 10 with fail
     go_region
     all_goals go_wp2
     all_goals first | (refine bodyPost_ret (results_setup rfl _ _ rfl rfl rfl rfl HKS.out.drew) rfl ?_;refine ⟨HBS.out.drew,?_⟩;rw [HPE.out];rfl) | (refine bodyPost_ret (results_setup rfl _ _ rfl rfl rfl rfl HKS.out) rfl ?_;refine ⟨HBS.out,?_⟩;rw [HPE.out];rfl)
    | ok x =>
     obtain ⟨a3,n3,rv3,pv3,tv3,lv3,T,L,hbk,hS⟩:=hres
     obtain ⟨Rr,cr,rfl,_,hRr⟩:=own_shapes hS.regs
     have hrl3:x.set.regs.length ≤ 9223372036854775807:=own_len hS.regs
     have HCK:=Lib.hid (pcheck_any x.set.cfg x.set.regs Rr x.set.regs.length cr w3 w3.heap.size rfl hrl3 (Nat.le_refl _) hRr)
     have x14:w3.cell? ⟨p,14,none⟩=some (.int .i64 0):=(hbk.cell 14).trans rfl
     have x3:=(hbk.cell 3).trans (show _=some (Value.int .i64 x.set.cfg.raw) from rfl)
     have x4:=(hbk.cell 4).trans (show _=some (Value.int .i64 x.set.cfg.ring) from rfl)
     have x5:=(hbk.cell 5).trans (show _=some (Value.int .i64 x.set.cfg.writes) from rfl)
     have x6:=(hbk.cell 6).trans (show _=some (Value.int .i64 x.set.cfg.stamps) from rfl)
     have x7:=(hbk.cell 7).trans (show _=some (Value.bool x.set.cfg.multi) from rfl)
     have x8:=(hbk.cell 8).trans (show _=some (Value.int .i64 x.set.cfg.tries) from rfl)
     have x9:=(hbk.cell 9).trans (show _=some (Value.slice Rr x.set.regs.length cr) from rfl)
     have hpl3:=hbk.lt
     have HBK:=Lib.hid hbk
     have HSS:=Lib.hid hS
     clear hbk hS hRr hb13 hb3
     by_cases hcf:cfgOk x.set.cfg x.set.regs
     ·have HPE:Hid (parseS s.data.toList=.ok x):=Lib.hid (by rw [HPG.out];simp only;rw [if_pos hcf])
      rw [checkF_yes hcf] at HCK
      clear hcf
      go_upto_region 9 with (go_at_call 19;refine HCK.out.mono ?_;rintro e w5 ⟨rfl,hb5⟩;have HB5:=Lib.hid hb5;have hbk5:=HBK.out.below hb5 hpl3;have z14:w5.cell? ⟨p,14,none⟩=some (.int .i64 0):=(hbk5.cell 14).trans rfl;have hpl5:=hbk5.lt;clear hb5)
      obtain ⟨Rp,cp,rfl,_,_⟩:=own_shapes HSS.out.progs
      obtain ⟨Rt,ct,rfl,_,_⟩:=own_shapes HSS.out.thr
      obtain ⟨Rl,cl,rfl,_,_⟩:=own_shapes HSS.out.lines
      have HS5:=Lib.hid (HSS.out.below HB5.out)
      have hb35:Below (rb + 1) w3 w5:=HB5.out.mono hB3s
      have HK5:=Lib.hid (HKX.out.below hb35 (by omega))
      have HBX5:Hid (Below w.heap.size w w5):=Lib.hid (HBX.out.trans (hb35.mono (by have:=HRW.out;omega)))
      clear x3 x4 x5 x6 x7 x8 x9 x14 hb35
      have x3:=(hbk5.cell 3).trans (show _=some (Value.int .i64 x.set.cfg.raw) from rfl)
      have x4:=(hbk5.cell 4).trans (show _=some (Value.int .i64 x.set.cfg.ring) from rfl)
      have x5:=(hbk5.cell 5).trans (show _=some (Value.int .i64 x.set.cfg.writes) from rfl)
      have x6:=(hbk5.cell 6).trans (show _=some (Value.int .i64 x.set.cfg.stamps) from rfl)
      have x7:=(hbk5.cell 7).trans (show _=some (Value.bool x.set.cfg.multi) from rfl)
      have x8:=(hbk5.cell 8).trans (show _=some (Value.int .i64 x.set.cfg.tries) from rfl)
      have x9:=(hbk5.cell 9).trans (show _=some (Value.slice Rr x.set.regs.length cr) from rfl)
      have x10:=(hbk5.cell 10).trans (show _=some (Value.slice Rp x.set.progs.length cp) from rfl)
      have x11:=(hbk5.cell 11).trans (show _=some (Value.slice Rt T.length ct) from rfl)
      have x12:=(hbk5.cell 12).trans (show _=some (Value.slice Rl L.length cl) from rfl)
      have npr:p ≠ rb:=by have:=HPB.out;omega
      have nrp:rb ≠ p:=Ne.symm npr
      have r0:=(HK5.out.cell 0).trans (show _=some (Value.int .i64 0) from rfl)
      have r1:=(HK5.out.cell 1).trans (show _=some (Value.int .i64 0) from rfl)
      have r2:=(HK5.out.cell 2).trans (show _=some (Value.int .i64 0) from rfl)
      have r3:=(HK5.out.cell 3).trans (show _=some (Value.int .i64 0) from rfl)
      have r4:=(HK5.out.cell 4).trans (show _=some (Value.bool false) from rfl)
      have r5:=(HK5.out.cell 5).trans (show _=some (Value.int .i64 0) from rfl)
      have r6:=(HK5.out.cell 6).trans (show _=some (Value.slice none 0 0) from rfl)
      have r7:=(HK5.out.cell 7).trans (show _=some (Value.slice none 0 0) from rfl)
      have r8:=(HK5.out.cell 8).trans (show _=some (Value.slice none 0 0) from rfl)
      have f0:=HK5.out.frozen 0
      have f1:=HK5.out.frozen 1
      have f2:=HK5.out.frozen 2
      have f3:=HK5.out.frozen 3
      have f4:=HK5.out.frozen 4
      have f5:=HK5.out.frozen 5
      have f6:=HK5.out.frozen 6
      have f7:=HK5.out.frozen 7
      have f8:=HK5.out.frozen 8
      have hrl:=HK5.out.lt
      have HKS:=Lib.hid (blk_nine HK5.out (.int .i64 x.set.cfg.raw) (.int .i64 x.set.cfg.ring) (.int .i64 x.set.cfg.writes) (.int .i64 x.set.cfg.stamps) (.bool x.set.cfg.multi) (.int .i64 x.set.cfg.tries) (.slice Rr x.set.regs.length cr) (.slice Rp x.set.progs.length cp) (.slice Rt T.length ct))
      have HBS:=Lib.hid (below_nine HBX5.out HRW.out (.int .i64 x.set.cfg.raw) (.int .i64 x.set.cfg.ring) (.int .i64 x.set.cfg.writes) (.int .i64 x.set.cfg.stamps) (.bool x.set.cfg.multi) (.int .i64 x.set.cfg.tries) (.slice Rr x.set.regs.length cr) (.slice Rp x.set.progs.length cp) (.slice Rt T.length ct))
      have HSX:Hid (SetAt w.heap.size _ x _ _ _ _ T L):=Lib.hid ((HS5.out.frm HK5.out oth_setup (frm_nine w5 rb (.int .i64 x.set.cfg.raw) (.int .i64 x.set.cfg.ring) (.int .i64 x.set.cfg.writes) (.int .i64 x.set.cfg.stamps) (.bool x.set.cfg.multi) (.int .i64 x.set.cfg.tries) (.slice Rr x.set.regs.length cr) (.slice Rp x.set.progs.length cp) (.slice Rt T.length ct))).lower (by have:=HRW.out;omega))
      clear hbk5
      go_upto_region 11 with fail
      go_region
      all_goals go_wp2
      all_goals first | (refine bodyPost_ret (results_setup rfl _ _ rfl rfl rfl rfl HKS.out.drew) rfl ?_;refine ⟨HBS.out.drew,?_⟩;rw [HPE.out];exact ⟨_,_,_,_,T,L,rfl,HSX.out.drew⟩) | (refine bodyPost_ret (results_setup rfl _ _ rfl rfl rfl rfl HKS.out) rfl ?_;refine ⟨HBS.out,?_⟩;rw [HPE.out];exact ⟨_,_,_,_,T,L,rfl,HSX.out⟩)
     ·have HPE:Hid (parseS s.data.toList=.error (13,0)):=Lib.hid (by rw [HPG.out];simp only;rw [if_neg hcf])
      rw [checkF_no hcf] at HCK
      clear hcf
      go_upto_region 8 with (go_at_call 19;refine HCK.out.mono ?_;rintro e w5 ⟨rfl,hb5⟩;have HB5:=Lib.hid hb5;clear hb5)
      have hbk5:=HBK.out.below HB5.out hpl3
      have HFA:=Lib.hid (fails_any s p a3 n3 x.set.cfg _ pv3 tv3 lv3 x.steps 0 13 0 w5 hbk5)
      have hB5s:rb + 1 ≤ w5.heap.size:=Nat.le_trans hB3s HB5.out.size
      clear hbk5
      go_upto_region 9 with (go_at_call 17;refine HFA.out.mono ?_;rintro e w6 ⟨rfl,hF,hB6⟩;have HF6:=Lib.hid hF;have HB6:=Lib.hid hB6;clear hF hB6)
      have hb36:Below (rb + 1) w3 w6:=(HB5.out.mono hB3s).trans (below_of_frm HF6.out hB5s HPB.out)
      have HKX0:=HKX
      have HBX0:=HBX
      clear HKX HBX
      have HKX:=Lib.hid (HKX0.out.below hb36 (by omega))
      have HBX:Hid (Below w.heap.size w w6):=Lib.hid (HBX0.out.trans (hb36.mono (by have:=HRW.out;omega)))
      have HBD:Hid (PBad w6 p 13 0):=Lib.hid ⟨_,_,_,_,_,_,_,_,_,HB6.out⟩
      clear hb36 x3 x4 x5 x6 x7 x8 x9 x14
      obtain ⟨s',a',n',c',rv',pv',tv',lv',k',hbd⟩:=HBD.out
      have x14:(w6).cell? ⟨p,14,none⟩=some (.int .i64 13):=(hbd.cell 14).trans rfl
      have x15:(w6).cell? ⟨p,15,none⟩=some (.int .i64 0):=(hbd.cell 15).trans rfl
      have hplx:=hbd.lt
      have npr:p ≠ rb:=by have:=HPB.out;omega
      have nrp:rb ≠ p:=Ne.symm npr
      have qe1:(((13:Nat):Int) == 0)=false:=by first | (simp;done) | (simp;omega)
      have qe2:(((13:Nat):Int) != 0)=true:=by first | (simp;done) | (simp;omega)
      have HKS:=Lib.hid (blk_nine HKX.out (.int .i64 0) (.int .i64 0) (.int .i64 0) (.int .i64 0) (.bool false) (.int .i64 0) (.slice none 0 0) (.slice none 0 0) (.slice none 0 0))
      have HBS:=Lib.hid (below_nine HBX.out HRW.out (.int .i64 0) (.int .i64 0) (.int .i64 0) (.int .i64 0) (.bool false) (.int .i64 0) (.slice none 0 0) (.slice none 0 0) (.slice none 0 0))
      have r0:=(HKX.out.cell 0).trans (show _=some (Value.int .i64 0) from rfl)
      have r1:=(HKX.out.cell 1).trans (show _=some (Value.int .i64 0) from rfl)
      have r2:=(HKX.out.cell 2).trans (show _=some (Value.int .i64 0) from rfl)
      have r3:=(HKX.out.cell 3).trans (show _=some (Value.int .i64 0) from rfl)
      have r4:=(HKX.out.cell 4).trans (show _=some (Value.bool false) from rfl)
      have r5:=(HKX.out.cell 5).trans (show _=some (Value.int .i64 0) from rfl)
      have r6:=(HKX.out.cell 6).trans (show _=some (Value.slice none 0 0) from rfl)
      have r7:=(HKX.out.cell 7).trans (show _=some (Value.slice none 0 0) from rfl)
      have r8:=(HKX.out.cell 8).trans (show _=some (Value.slice none 0 0) from rfl)
      have f0:=HKX.out.frozen 0
      have f1:=HKX.out.frozen 1
      have f2:=HKX.out.frozen 2
      have f3:=HKX.out.frozen 3
      have f4:=HKX.out.frozen 4
      have f5:=HKX.out.frozen 5
      have f6:=HKX.out.frozen 6
      have f7:=HKX.out.frozen 7
      have f8:=HKX.out.frozen 8
      have hrl:=HKX.out.lt
      clear hbd
      go_upto_region 10 with fail
      go_region
      all_goals go_wp2
      all_goals first | (refine bodyPost_ret (results_setup rfl _ _ rfl rfl rfl rfl HKS.out.drew) rfl ?_;refine ⟨HBS.out.drew,?_⟩;rw [HPE.out];rfl) | (refine bodyPost_ret (results_setup rfl _ _ rfl rfl rfl rfl HKS.out) rfl ?_;refine ⟨HBS.out,?_⟩;rw [HPE.out];rfl)
  ·have HCF:=Lib.hid (pconfig_none (rb + 1) p s hs w1 HE1.out HCB.out HQ1.out HZ1.out HPB.out hno)
   unfold PCfgPost at HCF
   have HPE:Hid (parseS s.data.toList=.error (9,0)):=Lib.hid (by
    have hz:s.data.toList.length=s.size:=Array.length_toList
    have h0:nextL s.data.toList=none:=nextL_no s 0 hno
    rw [parseS_eq,if_neg (by omega),h0])
   clear hno
   go_upto_region 5 with (go_at_call 16;refine HCF.out.mono ?_;rintro e w2 ⟨hb2,rfl,hpc⟩)
   obtain ⟨a2,n2,hbk⟩:=hpc
   have HFA:=Lib.hid (fails_any s p a2 n2 noCfg nilC nilC nilC nilC 0 0 9 0 w2 hbk)
   have HB2:=Lib.hid hb2
   have hB2s:rb + 1 ≤ w2.heap.size:=Nat.le_trans HZ1.out hb2.size
   clear hbk hb2
   go_upto_region 7 with (go_at_call 17;refine HFA.out.mono ?_;rintro e w3 ⟨rfl,hF,hB3⟩;have HF3:=Lib.hid hF;have HB3:=Lib.hid hB3;clear hF hB3)
   have hb13:Below (rb + 1) w1 w3:=HB2.out.trans (below_of_frm HF3.out hB2s HPB.out)
   have HKX:=Lib.hid (HK1.out.below hb13 (by omega))
   have HBX:Hid (Below w.heap.size w w3):=Lib.hid (HB1.out.trans (hb13.mono (by have:=HRW.out;omega)))
   have HBD:Hid (PBad w3 p 9 0):=Lib.hid ⟨_,_,_,_,_,_,_,_,_,HB3.out⟩
   clear hb13
   obtain ⟨s',a',n',c',rv',pv',tv',lv',k',hbd⟩:=HBD.out
   have x14:(w3).cell? ⟨p,14,none⟩=some (.int .i64 9):=(hbd.cell 14).trans rfl
   have x15:(w3).cell? ⟨p,15,none⟩=some (.int .i64 0):=(hbd.cell 15).trans rfl
   have hplx:=hbd.lt
   have npr:p ≠ rb:=by have:=HPB.out;omega
   have nrp:rb ≠ p:=Ne.symm npr
   have qe1:(((9:Nat):Int) == 0)=false:=by first | (simp;done) | (simp;omega)
   have qe2:(((9:Nat):Int) != 0)=true:=by first | (simp;done) | (simp;omega)
   have HKS:=Lib.hid (blk_nine HKX.out (.int .i64 0) (.int .i64 0) (.int .i64 0) (.int .i64 0) (.bool false) (.int .i64 0) (.slice none 0 0) (.slice none 0 0) (.slice none 0 0))
   have HBS:=Lib.hid (below_nine HBX.out HRW.out (.int .i64 0) (.int .i64 0) (.int .i64 0) (.int .i64 0) (.bool false) (.int .i64 0) (.slice none 0 0) (.slice none 0 0) (.slice none 0 0))
   have r0:=(HKX.out.cell 0).trans (show _=some (Value.int .i64 0) from rfl)
   have r1:=(HKX.out.cell 1).trans (show _=some (Value.int .i64 0) from rfl)
   have r2:=(HKX.out.cell 2).trans (show _=some (Value.int .i64 0) from rfl)
   have r3:=(HKX.out.cell 3).trans (show _=some (Value.int .i64 0) from rfl)
   have r4:=(HKX.out.cell 4).trans (show _=some (Value.bool false) from rfl)
   have r5:=(HKX.out.cell 5).trans (show _=some (Value.int .i64 0) from rfl)
   have r6:=(HKX.out.cell 6).trans (show _=some (Value.slice none 0 0) from rfl)
   have r7:=(HKX.out.cell 7).trans (show _=some (Value.slice none 0 0) from rfl)
   have r8:=(HKX.out.cell 8).trans (show _=some (Value.slice none 0 0) from rfl)
   have f0:=HKX.out.frozen 0
   have f1:=HKX.out.frozen 1
   have f2:=HKX.out.frozen 2
   have f3:=HKX.out.frozen 3
   have f4:=HKX.out.frozen 4
   have f5:=HKX.out.frozen 5
   have f6:=HKX.out.frozen 6
   have f7:=HKX.out.frozen 7
   have f8:=HKX.out.frozen 8
   have hrl:=HKX.out.lt
   clear hbd
   go_upto_region 10 with fail
   go_region
   all_goals go_wp2
   all_goals first | (refine bodyPost_ret (results_setup rfl _ _ rfl rfl rfl rfl HKS.out.drew) rfl ?_;refine ⟨HBS.out.drew,?_⟩;rw [HPE.out];rfl) | (refine bodyPost_ret (results_setup rfl _ _ rfl rfl rfl rfl HKS.out) rfl ?_;refine ⟨HBS.out,?_⟩;rw [HPE.out];rfl)
def ThrRd (W:World) (C:Nat) (l:List PJob) (v:Value):Prop:=∃ R c av,v=.slice R l.length c∧l.length ≤ 9223372036854775807∧av.length=l.length∧Reads W C 2 R l.length (rows jbC (l.zip av))∧∀ (j:Nat) x a,l[j]?=some x→av[j]?=some a→ListRd W C i64C x.args a
structure SetRd (W:World) (C:Nat) (s:PSet) (rv pv tv:Value):Prop where
 regs:∃ R c,rv=.slice R s.regs.length c∧s.regs.length ≤ 9223372036854775807∧Reads W C 2 R s.regs.length (rows rgC s.regs)
 progs:ListRd W C stC s.progs pv
 thr:∃ R c vs,tv=.slice R s.thr.length c∧s.thr.length ≤ 9223372036854775807∧vs.length=s.thr.length∧Reads W C 1 R s.thr.length (rows valC vs)∧∀ (i:Nat) l v,s.thr[i]?=some l→vs[i]?=some v→ThrRd W C l v
theorem ThrRd.below {W W':World} {C:Nat} {l:List PJob} {v:Value} (h:ThrRd W C l v) (hb:Below C W W'):ThrRd W' C l v:=by
 obtain ⟨R,c,av,h1,h2,h3,h4,h5⟩:=h
 exact ⟨R,c,av,h1,h2,h3,h4.below hb,fun j x a hx ha=>(h5 j x a hx ha).below hb⟩
theorem ThrRd.more {W:World} {C C':Nat} {l:List PJob} {v:Value} (h:ThrRd W C l v) (hC:C ≤ C'):ThrRd W C' l v:=by
 obtain ⟨R,c,av,h1,h2,h3,h4,h5⟩:=h
 exact ⟨R,c,av,h1,h2,h3,h4.more hC,fun j x a hx ha=>(h5 j x a hx ha).more hC⟩
theorem SetRd.below {W W':World} {C:Nat} {s:PSet} {rv pv tv:Value} (h:SetRd W C s rv pv tv) (hb:Below C W W'):SetRd W' C s rv pv tv:=by
 obtain ⟨⟨R,c,a1,a2,a3⟩,b,⟨R',c',vs,d1,d2,d3,d4,d5⟩⟩:=h
 exact ⟨⟨R,c,a1,a2,a3.below hb⟩,b.below hb,⟨R',c',vs,d1,d2,d3,d4.below hb,fun i l v hl hv=>(d5 i l v hl hv).below hb⟩⟩
theorem SetRd.more {W:World} {C C':Nat} {s:PSet} {rv pv tv:Value} (h:SetRd W C s rv pv tv) (hC:C ≤ C'):SetRd W C' s rv pv tv:=by
 obtain ⟨⟨R,c,a1,a2,a3⟩,b,⟨R',c',vs,d1,d2,d3,d4,d5⟩⟩:=h
 exact ⟨⟨R,c,a1,a2,a3.more hC⟩,b.more hC,⟨R',c',vs,d1,d2,d3,d4.more hC,fun i l v hl hv=>(d5 i l v hl hv).more hC⟩⟩
theorem jbC_len (x:PJob × Value):(jbC x).length=2:=rfl
theorem SetAt.set_rd {B:Nat} {w:World} {x:SSt} {rv pv tv lv:Value} {T:List (Value × List (PJob × Value))} {L:List (PLine × Value)} (h:SetAt B w x rv pv tv lv T L):SetRd w w.heap.size x.set rv pv tv:=by
 refine ⟨?_,ListRd.of_own h.progs,?_⟩
 ·obtain ⟨R,c,rfl,_,hR⟩:=own_shapes h.regs
  exact ⟨R,c,rfl,own_maxlen h.regs,hR⟩
 ·obtain ⟨R,c,rfl,_,hR⟩:=own_shapes h.thr
  have hl:T.length=x.set.thr.length:=h.lens.1
  refine ⟨R,c,T.map (·.1),by rw [hl],by rw [← hl];exact own_maxlen h.thr,by rw [List.length_map,hl],by rw [← hl];exact hR,fun i l v hi hv=>?_⟩
  rw [← h.thrEq,List.getElem?_map] at hi
  rw [List.getElem?_map] at hv
  cases hT:T[i]? with
  | none=>rw [hT] at hi;cases hi
  | some z =>
   rw [hT] at hi hv
   injection hi with hi
   injection hv with hv
   subst hi hv
   have hm:=List.mem_of_getElem? hT
   have ho:=h.jobs.own z hm
   obtain ⟨R',c',hz,_,hR'⟩:=own_shapes ho
   refine ⟨R',c',z.2.map (·.2),by rw [List.length_map];exact hz,by rw [List.length_map];exact own_maxlen ho,by rw [List.length_map,List.length_map],by rw [zip_maps,List.length_map];exact hR',fun j y a hy ha=>?_⟩
   rw [List.getElem?_map] at hy ha
   cases hJ:z.2[j]? with
   | none=>rw [hJ] at hy;cases hy
   | some u =>
    rw [hJ] at hy ha
    injection hy with hy
    injection ha with ha
    subst hy ha
    exact ListRd.of_own (h.args.own (u.2,u.1.args) (List.mem_flatMap.2 ⟨z,hm,List.mem_map.2 ⟨u,List.mem_of_getElem? hJ,rfl⟩⟩))
theorem reg_cells' {W:World} {C n:Nat} {R:Option Addr} {l:List Reg} (h:Reads W C 2 R n (rows rgC l)) (hl:l.length=n) (hn:0 < n) :
  ∃ b off,R=some ⟨b,off,none⟩∧b < C∧∀ (i:Nat) x,l[i]?=some x→W.cell? ⟨b,off + i * 2,none⟩=some (.int .i64 x.kind)∧W.cell? ⟨b,off + i * 2 + 1,none⟩=some (.int .i64 x.cap):=by
 obtain ⟨b,off,rfl,hb,hc⟩:=reads_flat h hn (by omega)
 refine ⟨b,off,rfl,hb,fun i x hx=>?_⟩
 have hi:i < l.length:=(List.getElem?_eq_some_iff.1 hx).1
 have hze:l[i]=x:=(List.getElem?_eq_some_iff.1 hx).2
 have h0:=rows_at rgC 2 (fun _=>rfl) l i 0 hi (by omega)
 have h1:=rows_at rgC 2 (fun _=>rfl) l i 1 hi (by omega)
 rw [hze] at h0 h1
 exact ⟨by have:=hc (i * 2 + 0) _ h0;simpa using this,by have:=hc (i * 2 + 1) _ h1;simpa [Nat.add_assoc] using this⟩
theorem job_cells {W:World} {C n:Nat} {R:Option Addr} {l:List PJob} {vs:List Value} (h:Reads W C 2 R n (rows jbC (l.zip vs))) (hv:vs.length=l.length) (hl:l.length=n) (hn:0 < n) :
  ∃ b off,R=some ⟨b,off,none⟩∧b < C∧∀ (i:Nat) x v,l[i]?=some x→vs[i]?=some v→W.cell? ⟨b,off + i * 2,none⟩=some (.int .i64 (x.prog:Int))∧W.cell? ⟨b,off + i * 2 + 1,none⟩=some v:=by
 obtain ⟨b,off,rfl,hb,hc⟩:=reads_flat h hn (by omega)
 refine ⟨b,off,rfl,hb,fun i x v hx hvx=>?_⟩
 have hzi:(l.zip vs)[i]?=some (x,v):=by
  rw [List.getElem?_zip_eq_some]
  exact ⟨hx,hvx⟩
 have hil:i < (l.zip vs).length:=(List.getElem?_eq_some_iff.1 hzi).1
 have hze:(l.zip vs)[i]=(x,v):=(List.getElem?_eq_some_iff.1 hzi).2
 have h0:=rows_at jbC 2 jbC_len (l.zip vs) i 0 hil (by omega)
 have h1:=rows_at jbC 2 jbC_len (l.zip vs) i 1 hil (by omega)
 rw [hze] at h0 h1
 exact ⟨by have:=hc (i * 2 + 0) _ h0;simpa using this,by have:=hc (i * 2 + 1) _ h1;simpa [Nat.add_assoc] using this⟩
theorem list_cells {α:Type} {W:World} {C n:Nat} {R:Option Addr} {enc:α→List Value} {l:List α} {f:α→Value} (h:Reads W C 1 R n (rows enc l)) (he:∀ x,enc x=[f x]) (hl:l.length=n) (hn:0 < n) :
  ∃ b off,R=some ⟨b,off,none⟩∧b < C∧∀ (i:Nat) x,l[i]?=some x→W.cell? ⟨b,off + i,none⟩=some (f x):=by
 obtain ⟨b,off,rfl,hb,hc⟩:=h.flat hn
 refine ⟨b,off,rfl,hb,fun i x hx=>hc i _ ?_⟩
 have:rows enc l=l.map f:=by
  unfold rows
  clear hc h hl hx
  induction l with
  | nil=>rfl
  | cons a r ih=>rw [List.flatMap_cons,ih,he];rfl
 rw [this,List.getElem?_map,hx]
 rfl
end Go.Proofs.YtiheggkkgbfndaaGreatDoor
