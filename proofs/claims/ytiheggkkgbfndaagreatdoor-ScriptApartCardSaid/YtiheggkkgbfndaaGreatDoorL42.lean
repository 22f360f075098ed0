/- script.Print of what may be (under way: does not build yet). -/
import Derived.Test.YtiheggkkgbfndaaGreatDoorL41
namespace Go.Proofs.YtiheggkkgbfndaaGreatDoor
open Go.RowKit Go.Joins Go.ChangeShapes Go.WideShapes Go.Deep
set_option linter.unusedVariables false
set_option linter.unusedSimpArgs false
set_option maxRecDepth 100000

theorem looks_fact {W w1:World} (h:w1=W.alloc (.cells lookV 9)) (i:Nat):w1.cell? ⟨W.heap.size,i,none⟩=lookV[i]?:=by
 rw [h]
 exact (Blk.new _ _ _).cell i
theorem looks_lt {W w1:World} (h:w1=W.alloc (.cells lookV 9)):W.heap.size < w1.heap.size:=by
 rw [h]
 simp
theorem looks_on {w W w1:World} (h:w1=W.alloc (.cells lookV 9)) (hb:Below w.heap.size w W):Below w.heap.size w w1:=h ▸ hb.alloc hb.size _
theorem looks_blk {W w1:World} (h:w1=W.alloc (.cells lookV 9)) {g:Nat} {t:TypeId} {cs:Array Value} (hk:Blk W g t cs):Blk w1 g t cs:=h ▸ hk.alloc _
theorem looks_bld {W w1:World} (h:w1=W.alloc (.cells lookV 9)) {b:Nat} {l:List UInt8} (hk:Bld b l W):Bld b l w1:=hk.keep (h ▸ (Below.refl _ _).alloc (Nat.le_refl _) _)
theorem thr_many {l:List RLine} {i:Nat} {x:RLine} (h:l[i]?=some x) (hl:linedR l):x.thr.length ≤ 20000:=by
 have h1:=many_take l i x h
 have h2:=many_le l (i + 1)
 have h3:=hl.2
 omega
def PrintE (s:RSet) (l:List RLine) (e:Ending):Prop:=(∃ ps,s.progs.map progText=ps.map some∧(((textR s ps l).length ≤ 65535∧e=.returned (.tuple #[.string ⟨(textR s ps l).toArray⟩,.int .i64 0])) ∨ (65535 < (textR s ps l).length∧e=.returned (.tuple #[.string ⟨#[]⟩,.int .i64 2])))) ∨ ((∃ p ∈ s.progs,progText p=none)∧e=.returned (.tuple #[.string ⟨#[]⟩,.int .i64 1]))
set_option maxHeartbeats 4000000 in
theorem sprint_any {B:Nat} (s:RSet) (l:List RLine) (C:Nat) (rv pv tv lv:Value) (w:World) (hC:C ≤ w.heap.size) (hS:RSetRd w C s rv pv tv) (hL:RLinesRd w C l lv) (hm:manyR l ≤ 9223372036854775807) (hE:EnvIn B w) (hmay:mayR s) (hlin:linedR l) (hpl:∀ p ∈ s.progs,p.length ≤ 4611686018427387904) (h64:∀ t ∈ s.thr,∀ j ∈ t,∀ v ∈ j.prog :: j.args,i64ok v) (hln:l.length ≤ 1000000000000) :
  Calls Tryz.prog 13 #[.agg (setupC s.cfg rv pv tv),lv] w fun e w'=>PrintE s l e∧Below w.heap.size w w':=by
 obtain ⟨⟨a0,a1,a2,a3,a4,a5⟩,hcf⟩:∃ c,c=s.cfg:=⟨_,rfl⟩
 have HMAY0:∀ W,Below w.heap.size w W→Calls Tryz.prog 26 #[.agg (setupC s.cfg rv pv tv)] W fun e w'=>e=.returned (.bool (decide (mayR s)))∧Below W.heap.size W w':=fun W hW=>may_any s w.heap.size rv pv tv W hW.size ((hS.more hC).below hW)
 have HLIN0:∀ W,Below w.heap.size w W→Calls Tryz.prog 27 #[lv] W fun e w'=>e=.returned (.bool (decide (linedR l)))∧Below W.heap.size W w':=fun W hW=>lined_any l w.heap.size lv W hW.size hm ((hL.more hC).below hW)
 rw [← hcf] at HMAY0 ⊢
 simp only [setupC] at HMAY0 ⊢
 have HMAY:=Lib.hid HMAY0
 have HLIN:=Lib.hid HLIN0
 obtain ⟨w1,hw1⟩:∃ w1,w1=w.alloc (.cells #[.int .i64 a0,.int .i64 a1,.int .i64 a2,.int .i64 a3,.bool a4,.int .i64 a5,rv,pv,tv] 29):=⟨_,rfl⟩
 obtain ⟨b1,hb1⟩:∃ b1,b1=w.heap.size:=⟨_,rfl⟩
 have HK1:Hid (Blk w1 b1 29 #[.int .i64 a0,.int .i64 a1,.int .i64 a2,.int .i64 a3,.bool a4,.int .i64 a5,rv,pv,tv]):=Lib.hid (by rw [hw1,hb1];exact Blk.new _ _ _)
 have HB1:Hid (Below w.heap.size w w1):=Lib.hid (hw1 ▸ (Below.refl _ _).alloc (Nat.le_refl _) _)
 obtain ⟨Rr,nr,cr,hrv⟩:∃ R n c,rv=.slice R n c:=by obtain ⟨⟨R,c,h,_⟩,_⟩:=hS;exact ⟨R,_,c,h⟩
 obtain ⟨Rp,np,cp,hpv⟩:∃ R n c,pv=.slice R n c:=by obtain ⟨_,⟨R,c,h,_⟩,_⟩:=hS;exact ⟨R,_,c,h⟩
 obtain ⟨Rt,nt,ct,htv⟩:∃ R n c,tv=.slice R n c:=by obtain ⟨_,_,⟨R,c,_,h,_⟩⟩:=hS;exact ⟨R,_,c,h⟩
 obtain ⟨Rl,nl,cl,hlv⟩:∃ R n c,lv=.slice R n c:=by obtain ⟨_,R,c,_,h,_⟩:=hL;exact ⟨R,_,c,h⟩
 subst hrv hpv htv hlv
 have HHEAD0:∀ W,Below w.heap.size w W→Calls Tryz.prog 29 #[.agg #[.int .i64 a0,.int .i64 a1,.int .i64 a2,.int .i64 a3,.bool a4,.int .i64 a5,.slice Rr nr cr]] W fun e w'=>e=.returned (.string ⟨(configT s.cfg ++ s.regs.flatMap regionT).toArray⟩)∧Below W.heap.size W w':=fun W hW=>by
  obtain ⟨⟨R,c,h1,_,h3⟩,_⟩:=(hS.more hC).below hW
  injection h1 with h1 h2 h4
  subst h1 h2 h4
  have:=headed_head s.cfg s.regs Rr s.regs.length cr W (hE.below hW hE.1) hmay.1 rfl (h3.more hW.size)
  rw [← hcf] at this ⊢
  exact this
 obtain ⟨hd,hhd⟩:∃ x:ByteArray,x=⟨(configT s.cfg ++ s.regs.flatMap regionT).toArray⟩:=⟨_,rfl⟩
 have HHD:Hid (hd.data.toList=configT s.cfg ++ s.regs.flatMap regionT):=Lib.hid (by rw [hhd])
 have HHZ:Hid (hd.size ≤ 600):=Lib.hid (by rw [size_list,HHD.out];exact head_len hmay.1)
 rw [← hhd] at HHEAD0
 have HHEAD:=Lib.hid HHEAD0
 clear hhd
 have HMY:=Lib.hid hmay
 have HLN:=Lib.hid hlin
 have HE:=Lib.hid hE
 have HSR:=Lib.hid (hS.more hC)
 have HLR:=Lib.hid (hL.more hC)
 have HCF:=Lib.hid hcf
 have HPLE:=Lib.hid hpl
 have HNP:Hid (np=s.progs.length∧np ≤ 16):=Lib.hid (by obtain ⟨_,⟨R,c,h,_⟩,_⟩:=hS;injection h with _ h _;exact ⟨h,h ▸ hmay.2.2.1⟩)
 have HPC:Hid (∀ i,i < np→∃ (b off:Nat) (p:List UInt8),Rp=some ⟨b,off,none⟩∧b < w.heap.size∧s.progs[i]?=some p∧∀ W,Below w.heap.size w W→W.cell? ⟨b,off + i,none⟩=some (.string ⟨p.toArray⟩)):=Lib.hid fun i hi=>by
  obtain ⟨_,⟨R,c,h,_,h3⟩,_⟩:=hS.more hC
  injection h with h1 h2 _
  subst h1
  obtain ⟨b,off,g1,g2,g3⟩:=list_cells (α:=List UInt8) (enc:=stC) (l:=s.progs) (f:=fun x=>.string ⟨x.toArray⟩) h3 (fun _=>rfl) rfl (by omega)
  obtain ⟨p,hp⟩:∃ x,s.progs[i]?=some x:=⟨_,List.getElem?_eq_getElem (by omega)⟩
  exact ⟨b,off,p,g1,g2,hp,fun W hW=>(hW.cell g2).trans (g3 i p hp)⟩
 have HTC:Hid (nt=s.thr.length∧nt ≤ 8∧ThrCells w Rt s.thr nt):=Lib.hid (by
  obtain ⟨R,c,h,hT⟩:=thr_all (Nat.le_refl _) (hS.more hC)
  injection h with h1 h2 _
  subst h1
  rw [h2]
  exact ⟨rfl,hmay.2.1,hT⟩)
 have HLC:Hid (nl=l.length∧nl ≤ 1000000000000∧LineCells w Rl l nl):=Lib.hid (by
  have hnl:nl=l.length:=by obtain ⟨_,R,c,_,h,_⟩:=hL;injection h
  exact ⟨hnl,hnl ▸ hln,line_all (Nat.le_refl _) (hL.more hC) hnl.symm⟩)
 have H64:=Lib.hid h64
 clear hpl h64 hln
 clear hS hL hm hcf HMAY0 HLIN0 hC hE HHEAD0
 go_enter Tryz.func13,Tryz.ntmps13
 go_upto_region 1 with fail
 rw [← hw1,← hb1]
 clear hw1 hb1
 have p0:=(HK1.out.cell 0).trans (show _=some (Value.int .i64 a0) from rfl)
 have p1:=(HK1.out.cell 1).trans (show _=some (Value.int .i64 a1) from rfl)
 have p2:=(HK1.out.cell 2).trans (show _=some (Value.int .i64 a2) from rfl)
 have p3:=(HK1.out.cell 3).trans (show _=some (Value.int .i64 a3) from rfl)
 have p4:=(HK1.out.cell 4).trans (show _=some (Value.bool a4) from rfl)
 have p5:=(HK1.out.cell 5).trans (show _=some (Value.int .i64 a5) from rfl)
 have p6:=(HK1.out.cell 6).trans (show _=some (Value.slice Rr nr cr) from rfl)
 have p7:=(HK1.out.cell 7).trans (show _=some (Value.slice Rp np cp) from rfl)
 have p8:=(HK1.out.cell 8).trans (show _=some (Value.slice Rt nt ct) from rfl)
 have pl:=HK1.out.lt
 rw [show decide (mayR s)=true from decide_eq_true hmay] at HMAY
 rw [show decide (linedR l)=true from decide_eq_true hlin] at HLIN
 clear hmay hlin
 go_upto_region 3 with (first | (go_at_call 26;refine (HMAY.out _ HB1.out).mono ?_;rintro e w2 ⟨rfl,hb2⟩;have HB2:=Lib.hid (HB1.out.trans (hb2.mono HB1.out.size));have HW2:=Lib.hid (HK1.out.below hb2 HK1.out.lt);clear hb2) | (go_at_call 27;refine (HLIN.out _ HB2.out).mono ?_;rintro e w3 ⟨rfl,hb3⟩;have HB3:=Lib.hid (HB2.out.trans (hb3.mono HB2.out.size));have HW3:=Lib.hid (HW2.out.below hb3 HW2.out.lt);clear hb3))
 clear p0 p1 p2 p3 p4 p5 p6 p7 p8 pl
 obtain ⟨w4,hw4⟩:∃ W,W=w3.alloc (.cells #[.pointer none,.slice none 0 0] 75):=⟨_,rfl⟩
 obtain ⟨bb,hbb⟩:∃ b,b=w3.heap.size:=⟨_,rfl⟩
 have HBD:Hid (Bld bb [] w4):=Lib.hid (by rw [hw4,hbb];exact Bld.new _)
 have HB4:Hid (Below w.heap.size w w4):=Lib.hid (hw4 ▸ HB3.out.alloc HB3.out.size _)
 have HW4:Hid (Blk w4 b1 29 #[.int .i64 a0,.int .i64 a1,.int .i64 a2,.int .i64 a3,.bool a4,.int .i64 a5,.slice Rr nr cr,.slice Rp np cp,.slice Rt nt ct]):=Lib.hid (hw4 ▸ HW3.out.alloc _)
 have HBW:Hid (w.heap.size ≤ bb):=Lib.hid (by rw [hbb];exact HB3.out.size)
 have HNE0:Hid (b1 ≠ bb):=Lib.hid (by have:=HW3.out.lt;omega)
 go_upto_region 4 with fail
 rw [← hw4,← hbb]
 clear hw4 hbb
 have p0:=(HW4.out.cell 0).trans (show _=some (Value.int .i64 a0) from rfl)
 have p1:=(HW4.out.cell 1).trans (show _=some (Value.int .i64 a1) from rfl)
 have p2:=(HW4.out.cell 2).trans (show _=some (Value.int .i64 a2) from rfl)
 have p3:=(HW4.out.cell 3).trans (show _=some (Value.int .i64 a3) from rfl)
 have p4:=(HW4.out.cell 4).trans (show _=some (Value.bool a4) from rfl)
 have p5:=(HW4.out.cell 5).trans (show _=some (Value.int .i64 a5) from rfl)
 have p6:=(HW4.out.cell 6).trans (show _=some (Value.slice Rr nr cr) from rfl)
 have pl:=HW4.out.lt
 have HBBW:Hid (w.heap.size ≤ bb):=Lib.hid HBW.out
 have HNE:Hid (b1 ≠ bb):=Lib.hid HNE0.out
 go_upto_region 5 with (first
  | (go_at_call 29;refine (HHEAD.out _ HB4.out).mono ?_;rintro e w5 ⟨rfl,hb5⟩;have HBD5:=Lib.hid (HBD.out.keep hb5);have HB5:=Lib.hid (HB4.out.trans (hb5.mono HB4.out.size));have HW5:=Lib.hid (HW4.out.below hb5 HW4.out.lt);clear hb5)
  | (go_at_call 28;refine (writeString_any bb [] hd _ HBD5.out (by have h:=HHZ.out;simp only [List.length_nil];omega)).mono ?_;rintro e w6 hp6;obtain ⟨rfl,_,_⟩:=id hp6;have HP6:=Lib.hid hp6;clear hp6))
 clear p0 p1 p2 p3 p4 p5 p6 pl
 have HBD6:Hid (Bld bb (configT s.cfg ++ s.regs.flatMap regionT) w6):=Lib.hid (by have h:=HP6.out.2.1;rw [List.nil_append,HHD.out] at h;exact h)
 have HB6:Hid (Below w.heap.size w w6):=Lib.hid (HB5.out.trans (bld_below HP6.out HBBW.out HB5.out.size))
 have HW6:=Lib.hid (bld_blk HP6.out HW5.out HNE.out (by decide))
 clear HP6 HBD5 HBD HHEAD HMAY HLIN
 have p7:=(HW6.out.cell 7).trans (show _=some (Value.slice Rp np cp) from rfl)
 have pl:=HW6.out.lt
 go_upto_region 6 with fail
 clear p7 pl
 have hnp16:=HNP.out.2
 go_loopg [32] np (fun gk iv W=>∃ (i:Nat) (ps:List (List UInt8)),iv=.int .i64 i∧i ≤ np∧gk + i=np∧Hid ((s.progs.take i).map progText=ps.map some)∧Hid (Bld bb (configT s.cfg ++ s.regs.flatMap regionT ++ ps.flatMap progT) W)∧Hid ((configT s.cfg ++ s.regs.flatMap regionT ++ ps.flatMap progT).length ≤ 600 + 100100 * i)∧Hid (Below w.heap.size w W)∧Hid (Blk W b1 29 #[.int .i64 a0,.int .i64 a1,.int .i64 a2,.int .i64 a3,.bool a4,.int .i64 a5,.slice Rr nr cr,.slice Rp np cp,.slice Rt nt ct]))
 case atStart=>exact ⟨0,[],rfl,Nat.zero_le _,rfl,Lib.hid rfl,Lib.hid (by simpa using HBD6.out),Lib.hid (by have h:=head_len HMY.out.1;simpa using h),HB6,HW6⟩
 case round =>
  obtain ⟨i,ps,rfl,hi,hgk,HPS,HBD,HLEN,HB,HW⟩:=hrel
  have HG:=Lib.hid hgk
  clear hgk
  by_cases hil:i < np
  ·have e1:decide ((i:Int) < (np:Int))=true:=decide_eq_true (by omega)
   have e2:decide (i < np)=true:=decide_eq_true hil
   have e3:(i:Int) < (np:Int):=by omega
   have zw:IntKind.i64.wrap ((i:Int) + 1)=(i:Int) + 1:=by rw [IntKind.wrap_i64];omega
   obtain ⟨b,off,p,rfl,hb,hp,hc⟩:=HPC.out i hil
   have c1:=hc wr HB.out
   have hbr:b < wr.heap.size:=Nat.lt_of_lt_of_le hb HB.out.size
   have HP:=Lib.hid hp
   have HASM:=Lib.hid (asm_any p wr (HE.out.below HB.out HE.out.1) (HPLE.out p (List.mem_of_getElem? hp)))
   clear hc hp hb
   go_upto_region 8 with fail
   go_upto_region 9 with (go_at_call 30;refine (HASM.out).mono ?_;rintro e w2 ⟨hb2,hpost⟩;rcases hpost with ⟨t,ht,h5,rfl⟩ | ⟨ht,z,hz,rfl⟩)
   ·have HTS:=Lib.hid ht
    have HB2:Hid (Below w.heap.size w w2):=Lib.hid (HB.out.trans (hb2.mono HB.out.size))
    have HBD2:=Lib.hid (HBD.out.keep hb2)
    have HW2':=Lib.hid (HW.out.below hb2 HW.out.lt)
    have htl:=progText_len ht
    have htz:(⟨t.toArray⟩:ByteArray).size=t.length:=by rw [size_list]
    obtain ⟨tb,htb⟩:∃ tb:ByteArray,tb=⟨t.toArray⟩:=⟨_,rfl⟩
    rw [← htb] at htz ⊢
    have hq1:(⟨#[112,114,111,103,114,97,109,10]⟩:ByteArray).size=8:=rfl
    have hq2:(⟨#[101,110,100,10]⟩:ByteArray).size=4:=rfl
    obtain ⟨u1,hu1,g1⟩:=sum_text ⟨#[112,114,111,103,114,97,109,10]⟩ tb (by omega)
    have hv1:u1.size=8 + tb.size:=by rw [size_list u1,hu1,List.length_append,← size_list,← size_list,hq1]
    obtain ⟨u2,hu2,g2⟩:=sum_text u1 ⟨#[101,110,100,10]⟩ (by omega)
    have hv2:u2.size=u1.size + 4:=by rw [size_list u2,hu2,List.length_append,← size_list,← size_list,hq2]
    have HU:Hid (u2.data.toList=progT t):=Lib.hid (by rw [hu2,hu1,htb];simp [progT,wProgram,wEnd])
    have HUZ:Hid (u2.size ≤ 100100):=Lib.hid (by omega)
    have d1:decide ((512:Int) < (p.length:Int))=false:=decide_eq_false (by omega)
    have d2:decide (512 < p.length)=false:=decide_eq_false (by omega)
    have HLE:=HLEN
    clear ht hb2 htl htz htb hq1 hq2 hu1 hv1 hu2 hv2
    go_upto_region 12 with (go_at_call 28;refine (writeString_any bb _ u2 _ HBD2.out (by have h1:=HLE.out;have h2:=HUZ.out;omega)).mono ?_;rintro e w6 hp6;obtain ⟨rfl,_,_⟩:=id hp6;have HP6:=Lib.hid hp6;clear hp6)
    have HB6':Hid (Below w.heap.size w w6):=Lib.hid (HB2.out.trans (bld_below HP6.out HBBW.out HB2.out.size))
    have HW6':=Lib.hid (bld_blk HP6.out HW2'.out HNE.out (by decide))
    go_wp2
    go_roundg (np - (i + 1))
    case measure=>have:=HG.out;omega
    case rel=>exact ⟨i + 1,ps ++ [t],by simp,by omega,by omega,Lib.hid (progs_step HPS.out HP.out HTS.out),Lib.hid (by have h:=HP6.out.2.1;rw [HU.out] at h;simpa [List.append_assoc] using h),Lib.hid (by have h1:=HLE.out;have h2:=progT_len HTS.out;simp only [List.flatMap_append,List.length_append,List.flatMap_cons,List.flatMap_nil,List.length_nil] at h1 ⊢;omega),HB6',HW6'⟩
   ·have HTN:=Lib.hid ht
    have HB2:Hid (Below w.heap.size w w2):=Lib.hid (HB.out.trans (hb2.mono HB.out.size))
    have z1:(z != 0)=true:=by simp [hz]
    clear ht hb2
    go_wp2
    go_ret2
    exact ⟨.inr ⟨⟨p,List.mem_of_getElem? HP.out,HTN.out⟩,rfl⟩,HB2.out⟩
  ·have e1:decide ((i:Int) < (np:Int))=false:=decide_eq_false (by omega)
   have e2:decide (i < np)=false:=decide_eq_false hil
   have hie:i=np:=by omega
   have HPA:Hid (s.progs.map progText=ps.map some):=Lib.hid (by have h:=HPS.out;rw [hie,take_len (Nat.le_of_eq HNP.out.1.symm)] at h;exact h)
   obtain ⟨T0,hT0⟩:∃ T,T=configT s.cfg ++ s.regs.flatMap regionT ++ ps.flatMap progT:=⟨_,rfl⟩
   rw [← hT0] at HBD HLEN
   have HT0:=Lib.hid hT0
   have HL0:Hid (T0.length ≤ 1602200):=Lib.hid (by have:=HLEN.out;omega)
   have p8:=(HW.out.cell 8).trans (show _=some (Value.slice Rt nt ct) from rfl)
   have pl:=HW.out.lt
   have HBS:=HB
   have HBD0:=HBD
   have hnt8:=HTC.out.2.1
   clear hT0 hie HG HPS HLEN HBD hnp16
   go_upto_region 14 with fail
   clear p8 pl e1 e2 hi hil HPC HPLE
   go_loopg [56] nt (fun gk iv W=>∃ i:Nat,iv=.int .i64 i∧i ≤ nt∧gk + i=nt∧Hid (Bld bb (T0 ++ (s.thr.take i).flatMap threadTR) W)∧Hid (Below w.heap.size w W))
   case atStart=>exact ⟨0,rfl,Nat.zero_le _,rfl,Lib.hid (by simpa using HBD0.out),HBS⟩
   case round =>
    clear HBS HBD0
    obtain ⟨i,rfl,hi,hgk,HBD,HB⟩:=hrel
    have HG:=Lib.hid hgk
    clear hgk
    by_cases hil:i < nt
    ·have e1:decide ((i:Int) < (nt:Int))=true:=decide_eq_true (by omega)
     have e2:decide (i < nt)=true:=decide_eq_true hil
     have e3:(i:Int) < (nt:Int):=by omega
     have zw:IntKind.i64.wrap ((i:Int) + 1)=(i:Int) + 1:=by rw [IntKind.wrap_i64];omega
     obtain ⟨b,off,t,Q,m,q,rfl,hb,ht,htl,hm9,hc,hj⟩:=HTC.out.2.2 i hil
     have c1:=hc wr HB.out
     have hbr:b < wr.heap.size:=Nat.lt_of_lt_of_le hb HB.out.size
     have HX:=Lib.hid ht
     have HXL:=Lib.hid htl
     have HJ:=Lib.hid hj
     have HTR:Hid (thrR s.progs.length t):=Lib.hid (HMY.out.2.2.2 t (List.mem_of_getElem? ht))
     have HT64:Hid (∀ j ∈ t,∀ v ∈ j.prog :: j.args,i64ok v):=Lib.hid (H64.out t (List.mem_of_getElem? ht))
     have hm32:m ≤ 32:=by rw [← htl];exact HTR.out.1
     obtain ⟨T1,hT1⟩:∃ T,T=T0 ++ (s.thr.take i).flatMap threadTR:=⟨_,rfl⟩
     rw [← hT1] at HBD
     have HT1:=Lib.hid hT1
     have HL1:Hid (T1.length ≤ 1631440):=Lib.hid (by
      have h1:=flat_len threadTR 3655 (s.thr.take i) fun t ht=>thread_len (HMY.out.2.2.2 t (List.mem_of_mem_take ht)) (H64.out t (List.mem_of_mem_take ht))
      have h2:=HL0.out
      rw [hT1,List.length_append]
      rw [List.length_take] at h1
      omega)
     clear hc hj ht htl hb hT1
     go_upto_region 16 with fail
     clear c1 hbr
     go_upto_region 17 with (go_at_call 28;refine (writeString_any bb _ ⟨#[116,104,114,101,97,100,10]⟩ _ HBD.out (by have h1:=HL1.out;have h2:(⟨#[116,104,114,101,97,100,10]⟩:ByteArray).size=7:=rfl;omega)).mono ?_;rintro e w6 hp6;obtain ⟨rfl,_,_⟩:=id hp6;have HP6:=Lib.hid hp6;clear hp6)
     have HB6:Hid (Below w.heap.size w w6):=Lib.hid (HB.out.trans (bld_below HP6.out HBBW.out HB.out.size))
     have HBD6:Hid (Bld bb (T1 ++ wThread ++ [10]) w6):=Lib.hid (by have h:=HP6.out.2.1;rw [List.append_assoc];exact h)
     clear HP6 HBD HB
     go_upto_region 18 with fail
     go_loopg [63] m (fun gk iv W=>∃ j:Nat,iv=.int .i64 j∧j ≤ m∧gk + j=m∧Hid (Bld bb (T1 ++ wThread ++ [10] ++ (t.take j).flatMap jobTR) W)∧Hid (Below w.heap.size w W))
     case atStart=>exact ⟨0,rfl,Nat.zero_le _,rfl,Lib.hid (by simpa using HBD6.out),HB6⟩
     case round =>
      clear HBD6 HB6
      obtain ⟨j,rfl,hj,hgj,HBD,HB⟩:=hrel
      have HGJ:=Lib.hid hgj
      clear hgj
      by_cases hjl:j < m
      ·have f1:decide ((j:Int) < (m:Int))=true:=decide_eq_true (by omega)
       have f2:decide (j < m)=true:=decide_eq_true hjl
       have f3:(j:Int) < (m:Int):=by omega
       have zj:IntKind.i64.wrap ((j:Int) + 1)=(j:Int) + 1:=by rw [IntKind.wrap_i64];omega
       obtain ⟨d,o,⟨pr,args⟩,A,ma,ca,rfl,hd,hx,hxl,hma9,hAr,hcd⟩:=HJ.out j hjl
       simp only at hxl hcd hAr
       have c1:=(hcd wr HB.out).1
       have c2:=(hcd wr HB.out).2
       have hdr:d < wr.heap.size:=Nat.lt_of_lt_of_le hd HB.out.size
       have HXJ:=Lib.hid hx
       have HJL:Hid (args.length=ma):=Lib.hid hxl
       have hj4:ma ≤ 4:=by rw [← hxl];exact (HTR.out.2 _ (List.mem_of_getElem? hx)).2.2
       have HAR:=Lib.hid hAr
       have HJ64:Hid (∀ v ∈ pr :: args,i64ok v):=Lib.hid (HT64.out _ (List.mem_of_getElem? hx))
       obtain ⟨T2,hT2⟩:∃ T,T=T1 ++ wThread ++ [10] ++ (t.take j).flatMap jobTR:=⟨_,rfl⟩
       rw [← hT2] at HBD
       have HT2:=Lib.hid hT2
       have HL2:Hid (T2.length ≤ 1635200):=Lib.hid (by
        have h1:=flat_len jobTR 114 (t.take j) fun x hx=>job_len (HTR.out.2 x (List.mem_of_mem_take hx)) (HT64.out x (List.mem_of_mem_take hx))
        have h2:=HL1.out
        rw [hT2,List.length_append,List.length_append,List.length_append]
        rw [List.length_take] at h1
        simp only [wThread,List.length_cons,List.length_nil]
        omega)
       obtain ⟨w5,hw5⟩:∃ w5,w5=wr.alloc (.cells #[.int .i64 pr,.slice A ma ca] 53):=⟨_,rfl⟩
       obtain ⟨b5,hb5⟩:∃ b5,b5=wr.heap.size:=⟨_,rfl⟩
       have HK5:Hid (Blk w5 b5 53 #[.int .i64 pr,.slice A ma ca]):=Lib.hid (by rw [hw5,hb5];exact Blk.new _ _ _)
       have HB5:Hid (Below w.heap.size w w5):=Lib.hid (HB.out.trans (hw5 ▸ (Below.refl _ _).alloc HB.out.size _))
       have HBD5:Hid (Bld bb T2 w5):=Lib.hid (HBD.out.keep (hw5 ▸ (Below.refl _ _).alloc (Nat.le_refl _) _))
       clear hcd hx hxl hd hAr hT2
       go_upto_region 20 with fail
       rw [← hw5,← hb5]
       clear hw5 hb5 c1 c2 hdr
       have p0:=(HK5.out.cell 0).trans (show _=some (Value.int .i64 pr) from rfl)
       have p1:=(HK5.out.cell 1).trans (show _=some (Value.slice A ma ca) from rfl)
       have pl:=HK5.out.lt
       obtain ⟨i0,hi0,hz0,hz1,hz2⟩:=info_parts info_i64
       have HB6:Hid (Below w.heap.size w (w5.alloc (.cells #[.int .i64 pr] 2))):=Lib.hid (HB5.out.trans ((Below.refl _ _).alloc HB5.out.size _))
       have HAR6:Hid (Reads (w5.alloc (.cells #[.int .i64 pr] 2)) w.heap.size 1 A ma (rows i64C args)):=Lib.hid (HAR.out.below HB6.out)
       have HOWN6:=Lib.hid (World.ownsRow_lit (base:=w5.heap.size) (size:=1) (e:=2) w5 #[.int .i64 pr] 1 (Nat.le_refl _) (by decide) rfl)
       have HONE:Hid (∀ u ∈ rows i64C args,u.oneCell'=true):=Lib.hid (by
        intro u hu
        obtain ⟨a,_,ha⟩:=List.mem_flatMap.1 hu
        rw [List.mem_singleton.1 ha]
        rfl)
       have hla:1 + ma ≤ maxLen:=by simp only [maxLen];omega
       have hlb:(1 + ma) * 8 ≤ 140737488355328:=by omega
       have hlc:w5.heap.size ≤ (w5.alloc (.cells #[.int .i64 pr] 2)).heap.size:=by simp
       obtain ⟨sr,hsr⟩:∃ sr:ByteArray,sr=⟨(rowT wJob (pr :: args)).toArray⟩:=⟨_,rfl⟩
       have HSRT:Hid (sr.data.toList=jobTR ⟨pr,args⟩):=Lib.hid (by rw [hsr];rfl)
       have HSRZ:Hid (sr.size ≤ 114):=Lib.hid (by rw [size_list,HSRT.out];exact job_len (HTR.out.2 _ (List.mem_of_getElem? HXJ.out)) HJ64.out)
       have HROW:Hid (∀ W (R:Option Addr) (cR:Nat),EnvIn B W→Reads W W.heap.size 1 R (1 + ma) (rows i64C (pr :: args))→Calls Tryz.prog 31 #[.string ⟨#[106,111,98]⟩,.slice R (1 + ma) cR] W fun e w'=>e=.returned (.string sr)∧Below W.heap.size W w'):=Lib.hid fun W R cR hEW hRW=>by
        rw [hsr]
        exact row_any ⟨#[106,111,98]⟩ (pr :: args) (1 + ma) cR W.heap.size R W hEW (by have:=HJL.out;simp only [List.length_cons];omega) (by have:(⟨#[106,111,98]⟩:ByteArray).size=3:=rfl;omega) (Nat.le_refl _) HJ64.out hRW
       clear hsr
       go_upto_region 21 with (first
        | (at_builtin;go_must (refine wpList_append_any _ rfl _ _ 51 rfl w5.heap.size 2 i0 (.int .i64 0) 1 8 Tryz.underlying51 hi0 hz0 hz1 hz2 rfl (by decide) (.slice (some ⟨w5.heap.size,0,none⟩) 1 1) 1 [.int .i64 pr] rfl HOWN6.out w.heap.size A ma ca (rows i64C args) rfl HAR6.out HONE.out hla hlb hlc ?_;intro v' w7 hown hgrow _;obtain ⟨R,cR,rfl,_,hRd⟩:=own_shapes hown;have HB57:Hid (Below w5.heap.size w5 w7):=Lib.hid (((Below.refl _ _).alloc (Nat.le_refl _) _).trans (below_grown HOWN6.out hgrow hlc));have HRD:Hid (Reads w7 w7.heap.size 1 R (1 + ma) (rows i64C (pr :: args))):=Lib.hid (by rw [job_rows];exact hRd);have HB7:Hid (Below w.heap.size w w7):=Lib.hid (HB5.out.trans (HB57.out.mono HB5.out.size));have HBD7:=Lib.hid (HBD5.out.keep HB57.out);clear hown hgrow hRd))
        | (go_at_call 31;refine (HROW.out w7 _ _ (HE.out.below HB7.out HE.out.1) HRD.out).mono ?_;rintro e w8 ⟨rfl,hb8⟩;have HB8:=Lib.hid (HB7.out.trans (hb8.mono HB7.out.size));have HBD8:=Lib.hid (HBD7.out.keep hb8);clear hb8)
        | (go_at_call 28;refine (writeString_any bb _ sr _ HBD8.out (by have h1:=HL2.out;have h2:=HSRZ.out;omega)).mono ?_;rintro e w9 hp9;obtain ⟨rfl,_,_⟩:=id hp9;have HP9:=Lib.hid hp9;clear hp9))
       have HB9:Hid (Below w.heap.size w w9):=Lib.hid (HB8.out.trans (bld_below HP9.out HBBW.out HB8.out.size))
       have HBD9:Hid (Bld bb (T1 ++ wThread ++ [10] ++ (t.take (j + 1)).flatMap jobTR) w9):=Lib.hid (by
        have h:=HP9.out.2.1
        rw [HSRT.out,HT2.out] at h
        rw [flat_take jobTR t j _ HXJ.out]
        simpa only [List.append_assoc] using h)
       go_wp2
       go_roundg (m - (j + 1))
       case measure=>have:=HGJ.out;omega
       case rel=>exact ⟨j + 1,by simp,by omega,by omega,HBD9,HB9⟩
      ·have f1:decide ((j:Int) < (m:Int))=false:=decide_eq_false (by omega)
       have f2:decide (j < m)=false:=decide_eq_false hjl
       have HBD7:Hid (Bld bb (T0 ++ (s.thr.take (i + 1)).flatMap threadTR) wr):=Lib.hid (by
        have h:=HBD.out
        rw [take_len (by rw [HXL.out];omega),HT1.out] at h
        rw [flat_take threadTR s.thr i t HX.out]
        unfold threadTR at h ⊢
        simpa only [List.append_assoc] using h)
       go_wp2
       go_roundg (nt - (i + 1))
       case measure=>have:=HG.out;omega
       case rel=>exact ⟨i + 1,by simp,by omega,by omega,HBD7,HB⟩
    ·have e1:decide ((i:Int) < (nt:Int))=false:=decide_eq_false (by omega)
     have e2:decide (i < nt)=false:=decide_eq_false hil
     obtain ⟨T3,hT3⟩:∃ T,T=T0 ++ s.thr.flatMap threadTR:=⟨_,rfl⟩
     have HT3:=Lib.hid hT3
     have HBD3:Hid (Bld bb T3 wr):=Lib.hid (by
      have h:=HBD.out
      rw [take_len (by rw [← HTC.out.1];omega)] at h
      rw [hT3]
      exact h)
     have HL3:Hid (T3.length ≤ 1631440):=Lib.hid (by
      have h1:=flat_len threadTR 3655 s.thr fun t ht=>thread_len (HMY.out.2.2.2 t ht) (H64.out t ht)
      have h2:=HL0.out
      have h3:=HTC.out.1
      rw [hT3,List.length_append]
      omega)
     have HB3:=HB
     have hnl:=HLC.out.2.1
     clear hT3 HBD HB HG
     go_upto_region 24 with fail
     clear e1 e2 hil hi hnt8
     go_loopg [79] nl (fun gk iv W=>∃ i:Nat,iv=.int .i64 i∧i ≤ nl∧gk + i=nl∧Hid (Bld bb (T3 ++ (l.take i).flatMap lineTR) W)∧Hid (Below w.heap.size w W))
     case atStart=>exact ⟨0,rfl,Nat.zero_le _,rfl,Lib.hid (by simpa using HBD3.out),HB3⟩
     case round =>
      clear HBD3 HB3
      obtain ⟨i,rfl,hi,hgk,HBD,HB⟩:=hrel
      have HG:=Lib.hid hgk
      clear hgk
      by_cases hil:i < nl
      ·have e1:decide ((i:Int) < (nl:Int))=true:=decide_eq_true (by omega)
       have e2:decide (i < nl)=true:=decide_eq_true hil
       have e3:(i:Int) < (nl:Int):=by omega
       have zw:IntKind.i64.wrap ((i:Int) + 1)=(i:Int) + 1:=by rw [IntKind.wrap_i64];omega
       obtain ⟨b,off,⟨kd,thr⟩,Q,m,q,rfl,hb,hx,hxl,hm9,hQ,hc,hj⟩:=HLC.out.2.2 i hil
       simp only at hxl hc hj hQ
       have c1:=(hc wr HB.out).1
       have c2:=(hc wr HB.out).2
       have hbr:b < wr.heap.size:=Nat.lt_of_lt_of_le hb HB.out.size
       have HX:=Lib.hid hx
       have HXL:=Lib.hid hxl
       have HQ:=Lib.hid hQ
       have HLR1:Hid (lineR ⟨kd,thr⟩):=Lib.hid (HLN.out.1 _ (List.mem_of_getElem? hx))
       have hm2:m ≤ 20000:=by rw [← hxl];exact thr_many hx HLN.out
       obtain ⟨T4,hT4⟩:∃ T,T=T3 ++ (l.take i).flatMap lineTR:=⟨_,rfl⟩
       rw [← hT4] at HBD
       have HT4:=Lib.hid hT4
       have HL4:Hid (T4.length ≤ 9000000000000):=Lib.hid (by
        have h1:=rlines_len HLN.out i
        have h2:=HL3.out
        have h3:=HLN.out.2
        have h4:=many_le l i
        rw [hT4,List.length_append]
        omega)
       obtain ⟨w5,hw5⟩:∃ w5,w5=wr.alloc (.cells #[.int .i64 kd,.slice Q m q] 49):=⟨_,rfl⟩
       obtain ⟨b5,hb5⟩:∃ b5,b5=wr.heap.size:=⟨_,rfl⟩
       have HK5:Hid (Blk w5 b5 49 #[.int .i64 kd,.slice Q m q]):=Lib.hid (by rw [hw5,hb5];exact Blk.new _ _ _)
       have HB5:Hid (Below w.heap.size w w5):=Lib.hid (HB.out.trans (hw5 ▸ (Below.refl _ _).alloc HB.out.size _))
       have HBD5:Hid (Bld bb T4 w5):=Lib.hid (HBD.out.keep (hw5 ▸ (Below.refl _ _).alloc (Nat.le_refl _) _))
       clear hc hj hx hxl hQ hb hT4
       go_upto_region 26 with fail
       rw [← hw5,← hb5]
       clear hw5 hb5 c1 c2 hbr
       have p0:=(HK5.out.cell 0).trans (show _=some (Value.int .i64 kd) from rfl)
       have p1:=(HK5.out.cell 1).trans (show _=some (Value.slice Q m q) from rfl)
       have pl:=HK5.out.lt
       have HN:Hid (∀ w9 (st:ByteArray),st.data.toList=lineTR ⟨kd,thr⟩→Bld bb (T4 ++ st.data.toList) w9→Bld bb (T3 ++ (l.take (i + 1)).flatMap lineTR) w9):=Lib.hid fun w9 st hst h=>by
        rw [hst,HT4.out] at h
        rw [flat_take lineTR l i _ HX.out]
        simpa only [List.append_assoc] using h
       by_cases hk1:kd=1
       ·have d1:decide (kd=1)=true:=decide_eq_true hk1
        have d2:(kd == 1)=true:=by simp [hk1]
        obtain ⟨sr,hsr⟩:∃ sr:ByteArray,sr=⟨(stepsT (thr.map Int.toNat)).toArray⟩:=⟨_,rfl⟩
        have HSRT:Hid (sr.data.toList=lineTR ⟨kd,thr⟩):=Lib.hid (by rw [hsr,line_steps (x:=⟨kd,thr⟩) hk1])
        have HSRZ:Hid (sr.size ≤ 1000000):=Lib.hid (by
         have h:=line_len HLR1.out (by have:=HXL.out;simp only;omega)
         have h2:=HXL.out
         rw [size_list,HSRT.out]
         simp only at h
         omega)
        have HIT:Hid (Calls Tryz.prog 32 #[.slice Q m q] w5 fun e w'=>e=.returned (.string sr)∧Below w5.heap.size w5 w'):=Lib.hid (by
         have h:=thr_nat HLR1.out
         rw [hsr]
         exact items_any (thr.map Int.toNat) m q w.heap.size Q w5 (HE.out.below HB5.out HE.out.1) (by rw [List.length_map];exact HXL.out) (by omega) h.1 HB5.out.size (by
          have h2:=HQ.out.below HB5.out
          have h3:thr=(thr.map Int.toNat).map fun (t:Nat)=>(t:Int):=h.2
          rw [← h3]
          exact h2))
        clear hsr hk1
        go_wp2_with (first
         | (go_at_call 32;refine (HIT.out).mono ?_;rintro e w8 ⟨rfl,hb8⟩;have HB8:=Lib.hid (HB5.out.trans (hb8.mono HB5.out.size));have HBD8:=Lib.hid (HBD5.out.keep hb8);clear hb8)
         | (go_at_call 28;refine (writeString_any bb _ sr _ HBD8.out (by have h1:=HL4.out;have h2:=HSRZ.out;omega)).mono ?_;rintro e w9 hp9;obtain ⟨rfl,_,_⟩:=id hp9;have HP9:=Lib.hid hp9;clear hp9))
        go_roundg (nl - (i + 1))
        case measure=>have:=HG.out;omega
        case rel=>exact ⟨i + 1,by simp,by omega,by omega,Lib.hid (HN.out _ sr HSRT.out HP9.out.2.1),Lib.hid (HB8.out.trans (bld_below HP9.out HBBW.out HB8.out.size))⟩
       ·have d1:decide (kd=1)=false:=decide_eq_false hk1
        have d2:(kd == 1)=false:=by simp [hk1]
        obtain ⟨k,hk⟩:∃ k:Nat,k=kd.toNat - 2:=⟨_,rfl⟩
        have hkk:kd=(k:Int) + 2:=by have h1:=HLR1.out.1;have h2:=HLR1.out.2.1;simp only at h1 h2;omega
        have hk6:k < 6:=by have h2:=HLR1.out.2.1;simp only at h2;omega
        have zk:IntKind.i64.wrap (kd - 2)=(k:Int):=by rw [IntKind.wrap_i64];omega
        obtain ⟨lk,hlk⟩:∃ lk:ByteArray,lk=⟨(looksL.getD k []).toArray⟩:=⟨_,rfl⟩
        have HLV:Hid (lookV[k]?=some (.string lk)):=Lib.hid (by rw [hlk];exact lookV_at hk6)
        have hlz:lk.size ≤ 6:=by rw [hlk,size_list];exact looks_len k hk6
        obtain ⟨sr,hsr,gs⟩:=sum_text lk ⟨#[10]⟩ (by have:(⟨#[10]⟩:ByteArray).size=1:=rfl;omega)
        have HSRT:Hid (sr.data.toList=lineTR ⟨kd,thr⟩):=Lib.hid (by rw [hsr,line_look (x:=⟨kd,thr⟩) hk1,hlk];simp only;rw [hk])
        have HSRZ:Hid (sr.size ≤ 10):=Lib.hid (by rw [size_list,hsr,List.length_append,← size_list];simp only [List.length_cons,List.length_nil];omega)
        have i1:(k:Int) < 6:=by omega
        have i2:decide ((k:Int) < 6)=true:=decide_eq_true i1
        have i3:decide (k < 6)=true:=decide_eq_true hk6
        clear hk hkk hlk hlz hsr hk1
        go_upto_region 28 with fail
        go_region_with (first
         | (go_at_call 33;refine (looks_any _).mono ?_;rintro e w6 ⟨rfl,hw6⟩;have KF:=Lib.hid (looks_fact hw6 k);have KL:=Lib.hid (looks_lt hw6);have HB6:=Lib.hid (looks_on hw6 (by first | exact HB5.out | exact HB5.out.drew));have HBD6:Hid (Bld bb T4 w6):=Lib.hid (looks_bld hw6 (by exact HBD5.out));have HK6:=Lib.hid (looks_blk hw6 (by exact HK5.out));have m0:=(HK6.out.cell 0).trans (show _=some (Value.int .i64 kd) from rfl);have ml:=HK6.out.lt;clear hw6;have kf:w6.cell? ⟨w5.heap.size,k,none⟩=some (Value.string lk):=KF.out.trans HLV.out;have kfl:w5.heap.size < w6.heap.size:=KL.out)
         | (go_at_call 28;refine (writeString_any bb _ sr _ HBD6.out (by have h1:=HL4.out;have h2:=HSRZ.out;omega)).mono ?_;rintro e w9 hp9;obtain ⟨rfl,_,_⟩:=id hp9;have HP9:=Lib.hid hp9;clear hp9))
        all_goals (
         go_wp2_with fail
         go_roundg (nl - (i + 1))
         case measure=>have:=HG.out;omega
         case rel=>exact ⟨i + 1,by simp,by omega,by omega,Lib.hid (HN.out _ sr HSRT.out HP9.out.2.1),Lib.hid (HB6.out.trans (bld_below HP9.out HBBW.out HB6.out.size))⟩)
      ·have e1:decide ((i:Int) < (nl:Int))=false:=decide_eq_false (by omega)
       have e2:decide (i < nl)=false:=decide_eq_false hil
       obtain ⟨T5,hT5⟩:∃ T,T=textR s ps l:=⟨_,rfl⟩
       have HBD5:Hid (Bld bb T5 wr):=Lib.hid (by
        have h:=HBD.out
        rw [take_len (by rw [← HLC.out.1];omega),HT3.out,HT0.out] at h
        rw [hT5]
        exact h)
       have HT5:=Lib.hid hT5
       have hbl:=HBD5.out.lt
       clear hT5 HBD HG
       by_cases h65:65535 < T5.length
       ·have d1:decide ((65535:Int) < (T5.length:Int))=true:=decide_eq_true (by omega)
        have d2:decide (65535 < T5.length)=true:=decide_eq_true h65
        have H65:=Lib.hid h65
        clear h65
        go_wp2_with (go_at_call 34;refine (blen_any bb T5 _ HBD5.out).mono ?_;rintro e w5 ⟨rfl,hw5⟩;obtain rfl:=hw5.symm;clear hw5)
        go_ret2
        exact ⟨.inl ⟨ps,HPA.out,.inr ⟨by rw [← HT5.out];exact H65.out,rfl⟩⟩,HB.out⟩
       ·have d1:decide ((65535:Int) < (T5.length:Int))=false:=decide_eq_false (by omega)
        have d2:decide (65535 < T5.length)=false:=decide_eq_false h65
        have H65:=Lib.hid h65
        clear h65
        go_wp2_with (first
         | (go_at_call 34;refine (blen_any bb T5 _ HBD5.out).mono ?_;rintro e w5 ⟨rfl,hw5⟩;obtain rfl:=hw5.symm;clear hw5)
         | (go_at_call 35;refine (Tryz.Builder_String_any bb bb T5 _ HBD5.out (Nat.le_of_lt hbl)).mono ?_;rintro e w5 ⟨rfl,hb5⟩))
        go_ret2
        exact ⟨.inl ⟨ps,HPA.out,.inl ⟨by rw [← HT5.out];have:=H65.out;omega,by rw [← HT5.out];rfl⟩⟩,HB.out.trans (hb5.mono HBBW.out)⟩
end Go.Proofs.YtiheggkkgbfndaaGreatDoor
