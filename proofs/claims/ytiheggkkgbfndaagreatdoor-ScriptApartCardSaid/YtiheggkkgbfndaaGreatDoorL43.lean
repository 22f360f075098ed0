/- Print of what was read: the readers of what was read as Print meets them; Print's answer. -/
import Derived.Test.YtiheggkkgbfndaaGreatDoorL42
import Derived.Test.YtiheggkkgbfndaaGreatDoorL38
import Derived.Test.YtiheggkkgbfndaaGreatDoorL27
import Derived.Test.YtiheggkkgbfndaaGreatDoorL37
import Derived.Test.YtiheggkkgbfndaaGreatDoorL36
namespace Go.Proofs.YtiheggkkgbfndaaGreatDoor
open Go.RowKit Go.Joins Go.ChangeShapes Go.WideShapes Go.Deep
set_option linter.unusedVariables false
set_option linter.unusedSimpArgs false
set_option maxRecDepth 100000
theorem rows_map {α β:Type} (enc:β→List Value) (f:α→β) (l:List α):rows enc (l.map f)=rows (fun x=>enc (f x)) l:=by
 unfold rows
 rw [List.flatMap_map]
theorem ListRd.raw {W:World} {C:Nat} {l:List Nat} {v:Value} (h:ListRd W C natC l v):ListRd W C i64C (l.map fun (t:Nat)=>(t:Int)) v:=by
 obtain ⟨R,c,h1,h2,h3⟩:=h
 refine ⟨R,c,by rw [List.length_map];exact h1,by rw [List.length_map];exact h2,?_⟩
 rw [rows_map,List.length_map]
 exact h3
theorem ThrRd.raw {W:World} {C:Nat} {l:List PJob} {v:Value} (h:ThrRd W C l v):RThrRd W C (l.map PJob.raw) v:=by
 obtain ⟨R,c,av,h1,h2,h3,h4,h5⟩:=h
 refine ⟨R,c,av,by rw [List.length_map];exact h1,by rw [List.length_map];exact h2,by rw [List.length_map];exact h3,?_,?_⟩
 ·rw [List.zip_map_left,rows_map,List.length_map]
  exact h4
 ·intro j x a hx ha
  rw [List.getElem?_map] at hx
  cases hj:l[j]? with
  | none=>rw [hj] at hx;cases hx
  | some y =>
   rw [hj] at hx
   injection hx with hx
   subst hx
   exact h5 j y a hj ha
theorem SetRd.raw {W:World} {C:Nat} {s:PSet} {rv pv tv:Value} (h:SetRd W C s rv pv tv):RSetRd W C s.raw rv pv tv:=by
 obtain ⟨⟨R,c,a1,a2,a3⟩,b,⟨R',c',vs,d1,d2,d3,d4,d5⟩⟩:=h
 refine ⟨⟨R,c,a1,a2,a3⟩,b,⟨R',c',vs,?_,?_,?_,?_,?_⟩⟩
 ·show tv=.slice R' (s.thr.map fun l=>l.map PJob.raw).length c'
  rw [List.length_map]
  exact d1
 ·show (s.thr.map fun l=>l.map PJob.raw).length ≤ _
  rw [List.length_map]
  exact d2
 ·show vs.length=(s.thr.map fun l=>l.map PJob.raw).length
  rw [List.length_map]
  exact d3
 ·show Reads W C 1 R' (s.thr.map fun l=>l.map PJob.raw).length _
  rw [List.length_map]
  exact d4
 ·intro i l v hl hv
  have hl:(s.thr.map fun l=>l.map PJob.raw)[i]?=some l:=hl
  rw [List.getElem?_map] at hl
  cases hj:s.thr[i]? with
  | none=>rw [hj] at hl;cases hl
  | some y =>
   rw [hj] at hl
   injection hl with hl
   subst hl
   exact (d5 i y v hj hv).raw
theorem LinesRd.raw {W:World} {C:Nat} {l:List PLine} {lv:Value} (h:LinesRd W C l lv):RLinesRd W C (l.map PLine.raw) lv:=by
 obtain ⟨h0,R,c,vs,h1,h2,h3,h4⟩:=h
 refine ⟨by rw [List.length_map];exact h0,R,c,vs,by rw [List.length_map];exact h1,by rw [List.length_map];exact h2,?_,?_⟩
 ·rw [List.zip_map_left,rows_map,List.length_map]
  exact h3
 ·intro j x a hx ha
  rw [List.getElem?_map] at hx
  cases hj:l[j]? with
  | none=>rw [hj] at hx;cases hx
  | some y =>
   rw [hj] at hx
   injection hx with hx
   subst hx
   exact (h4 j y a hj ha).raw
theorem progText_of {L:List AOp} (he:Enc L) (hs:sizeF L ≤ 512):progText (bytesOf L)=some (printF L):=by
 refine progText_some ?_ ?_
 ·rw [bytesOf_size];exact hs
 ·exact dec_all L he
theorem progTexts {ps:List (List AOp)} (h:∀ L ∈ ps,Enc L∧sizeF L ≤ 512):(ps.map bytesOf).map progText=(ps.map printF).map some:=by
 rw [List.map_map,List.map_map]
 exact List.map_congr_left fun L hL=>progText_of (h L hL).1 (h L hL).2
theorem some_inj {α:Type}:∀ {a b:List α},a.map some=b.map some→a=b
 | [],[],_=>rfl
 | [],_ :: _,h=>by simp at h
 | _ :: _,[],h=>by simp at h
 | x :: a,y :: b,h=>by
  simp only [List.map_cons,List.cons.injEq,Option.some.injEq] at h
  rw [h.1,some_inj h.2]
def TextE (t:List UInt8) (e:Ending):Prop:=(t.length ≤ 65535∧e=.returned (.tuple #[.string ⟨t.toArray⟩,.int .i64 0])) ∨ (65535 < t.length∧e=.returned (.tuple #[.string ⟨#[]⟩,.int .i64 2]))
theorem PrintE.text {s:PSet} {ps:List (List AOp)} {l:List PLine} {e:Ending} (h:SetOk s ps l) (he:PrintE s.raw (l.map PLine.raw) e):TextE (textS s (ps.map printF) l) e:=by
 have hp:s.raw.progs.map progText=(ps.map printF).map some:=by
  show s.progs.map progText=_
  rw [h.progs]
  exact progTexts h.enc
 rcases he with ⟨q,h1,h2⟩ | ⟨⟨p,h1,h2⟩,_⟩
 ·rw [hp] at h1
  obtain rfl:=(some_inj h1).symm
  rw [textR_raw] at h2
  exact h2
 ·have:progText p ∈ s.raw.progs.map progText:=List.mem_map.2 ⟨p,h1,rfl⟩
  rw [hp,h2] at this
  obtain ⟨x,_,hx⟩:=List.mem_map.1 this
  cases hx
theorem pprint_ok {B:Nat} {s:PSet} {ps:List (List AOp)} {l:List PLine} (h:SetOk s ps l) (hn:l.length ≤ 1000000000000) (C:Nat) (rv pv tv lv:Value) (w:World) (hC:C ≤ w.heap.size) (hS:SetRd w C s rv pv tv) (hL:LinesRd w C l lv) (hE:EnvIn B w) :
  Calls Tryz.prog 13 #[.agg (setupC s.cfg rv pv tv),lv] w fun e w'=>TextE (textS s (ps.map printF) l) e∧Below w.heap.size w w':=by
 obtain ⟨hm,hl⟩:=PSet.may h
 refine (sprint_any s.raw (l.map PLine.raw) C rv pv tv lv w hC hS.raw hL.raw (by have:=hl.2;omega) hE hm hl ?_ ?_ (by rw [List.length_map];exact hn)).mono fun e w' ⟨h1,h2⟩=>⟨h1.text h,h2⟩
 ·intro p hp
  have hp:p ∈ s.progs:=hp
  rw [h.progs] at hp
  obtain ⟨L,hL,rfl⟩:=List.mem_map.1 hp
  rw [bytesOf_size]
  have:=(h.enc L hL).2
  omega
 ·intro t ht j hj v hv
  obtain ⟨t',ht',rfl⟩:=List.mem_map.1 ht
  obtain ⟨j',hj',rfl⟩:=List.mem_map.1 hj
  have hjo:=(h.jobs t' ht').2 j' hj'
  have hpl:s.progs.length ≤ 16:=by rw [h.progs,List.length_map];exact h.many
  rcases List.mem_cons.1 hv with rfl | hv
  ·have:=hjo.1
   show i64ok ((j'.prog:Nat):Int)
   unfold i64ok
   omega
  ·exact hjo.2.2 v hv
end Go.Proofs.YtiheggkkgbfndaaGreatDoor
namespace Go.Proofs.YtiheggkkgbfndaaGreatDoor
open Go Go.Lib
set_option linter.unusedVariables false
set_option linter.unusedSimpArgs false
def exT:List UInt8:=[99,111,110,102,105,103,32,50,32,52,32,56,32,49,48,48,32,51,32,109,117,108,116,105,10,114,101,103,105,111,110,32,113,117,101,117,101,32,50,10,112,114,111,103,114,97,109,10,112,117,115,104,56,32,55,10,99,111,109,109,105,116,10,101,110,100,10,116,104,114,101,97,100,10,106,111,98,32,48,32,53,32,45,49,10,114,117,110,32,48,32,48,42,49,50,32,49,10,99,101,108,108,115,10]
def exTa:List UInt8:=[99,111,110,102,105,103,32,50,32,52,32,56,32,49,48,48,32,51,32,109,117,108,116,105,10,106,111,98,32,48,10]
deriving instance DecidableEq for Reg,Cfg,PJob,PSet,PLine,SSt
def exV:SSt:=⟨⟨⟨2,4,8,100,true,3⟩,[⟨2,2⟩],[bytesOf [⟨1,7⟩,⟨0,0⟩]],[[⟨0,[5,-1]⟩]]⟩,[⟨1,List.replicate 13 0 ++ [1]⟩,⟨2,[]⟩],14⟩
def sameR (a b:Except (Nat × Nat) SSt):Bool:=match a,b with
 | .ok x,.ok y=>decide (x=y)
 | .error x,.error y=>decide (x=y)
 | _,_=>false
theorem sameR_eq {a b:Except (Nat × Nat) SSt} (h:sameR a b=true):a=b:=by
 unfold sameR at h
 split at h
 ·rw [of_decide_eq_true h]
 ·rw [of_decide_eq_true h]
 ·cases h
theorem ex_one:parseS exT=.ok exV:=sameR_eq (by decide +kernel)
theorem ex_two:parseS exTa=.error (9,25):=sameR_eq (by decide +kernel)
end Go.Proofs.YtiheggkkgbfndaaGreatDoor
namespace Go.Proofs.YtiheggkkgbfndaaGreatDoor
open Go.RowKit Go.Joins Go.ChangeShapes Go.WideShapes Go.Deep
set_option linter.unusedVariables false
set_option linter.unusedSimpArgs false
set_option maxRecDepth 100000
abbrev exA:ByteArray:=⟨#[99,111,110,102,105,103,32,50,32,52,32,56,32,49,48,48,32,51,32,109,117,108,116,105,10,114,101,103,105,111,110,32,113,117,101,117,101,32,50,10,112,114,111,103,114,97,109,10,112,117,115,104,56,32,55,10,99,111,109,109,105,116,10,101,110,100,10,116,104,114,101,97,100,10,106,111,98,32,48,32,53,32,45,49,10,114,117,110,32,48,32,48,42,49,50,32,49,10,99,101,108,108,115,10]⟩
abbrev exB:ByteArray:=⟨#[99,111,110,102,105,103,32,50,32,52,32,56,32,49,48,48,32,51,32,109,117,108,116,105,10,106,111,98,32,48,10]⟩
theorem ex_set:∃ ps,SetOk exV.set ps exV.lines∧40 < (textS exV.set (ps.map printF) exV.lines).length∧(textS exV.set (ps.map printF) exV.lines).length ≤ 65535:=by
 obtain ⟨ps,h,_⟩:=parseS_ok ex_one
 have hp:ps=[[⟨1,7⟩,⟨0,0⟩]]:=by
  have h1:[bytesOf [⟨1,7⟩,⟨0,0⟩]]=ps.map bytesOf:=h.progs
  cases ps with
  | nil=>simp at h1
  | cons L r =>
   simp only [List.map_cons,List.cons.injEq] at h1
   obtain ⟨h1,h2⟩:=h1
   have hr:r=[]:=List.map_eq_nil_iff.1 h2.symm
   have he:=h.enc L (by simp)
   have e1:=dec_all L he.1
   have e2:=dec_all [⟨1,7⟩,⟨0,0⟩] (by
    intro o ho
    simp only [List.mem_cons,List.not_mem_nil,or_false] at ho
    rcases ho with rfl | rfl <;> exact ⟨by decide,by decide,by unfold i64ok;decide⟩)
   rw [h1] at e2
   rw [hr,(e1.det e2 (.inl (by rw [List.length_map];exact Nat.le_refl _)) (.inl (by rw [List.length_map];exact Nat.le_refl _))).1]
 refine ⟨ps,h,?_⟩
 rw [hp]
 decide +kernel
theorem EnvP.later {C:Nat} {w w':World} (h:EnvP C w) (hb:Below w.heap.size w w'):EnvP C w':=h.below (hb.mono h.size)
set_option maxHeartbeats 4000000 in
theorem shown_any {C:Nat} (w:World) (hE:EnvP C w):Calls Tryz.prog 8 #[] w fun e w'=>e=.returned (.bool true)∧Below w.heap.size w w':=by
 have HE:=Lib.hid hE
 have HP1:Hid (Calls Tryz.prog 9 #[.string exA] w fun e w'=>Below w.heap.size w w'∧∃ Rr cr Rp cp Rt ct Rl cl,e=.returned (.tuple #[.agg #[.int .i64 2,.int .i64 4,.int .i64 8,.int .i64 100,.bool true,.int .i64 3,.slice Rr 1 cr,.slice Rp 1 cp,.slice Rt 1 ct],.slice Rl 2 cl,.int .i64 0,.int .i64 0])∧SetRd w' w'.heap.size exV.set (.slice Rr 1 cr) (.slice Rp 1 cp) (.slice Rt 1 ct)∧LinesRd w' w'.heap.size exV.lines (.slice Rl 2 cl)):=Lib.hid (by
  refine (pparse_any exA w hE).mono ?_
  rintro e w' ⟨hb,h⟩
  have e1:parseS exA.data.toList=.ok exV:=ex_one
  rw [e1] at h
  obtain ⟨rv,pv,tv,lv,T,L,rfl,h⟩:=h
  have h1:=h.set_rd
  have h2:=h.lines_rd
  obtain ⟨⟨Rr,cr,rfl,_⟩,⟨Rp,cp,rfl,_⟩,⟨Rt,ct,_,rfl,_⟩⟩:=id h1
  obtain ⟨_,Rl,cl,_,rfl,_⟩:=id h2
  exact ⟨hb,Rr,cr,Rp,cp,Rt,ct,Rl,cl,rfl,h1,h2⟩)
 have HP2:Hid (∀ W,Below w.heap.size w W→Calls Tryz.prog 9 #[.string exB] W fun e w'=>Below W.heap.size W w'∧e=.returned (.tuple #[.agg #[.int .i64 0,.int .i64 0,.int .i64 0,.int .i64 0,.bool false,.int .i64 0,.slice none 0 0,.slice none 0 0,.slice none 0 0],.slice none 0 0,.int .i64 9,.int .i64 25])):=Lib.hid (by
  intro W hW
  refine (pparse_any exB W (HE.out.later hW)).mono ?_
  rintro e w' ⟨hb,h⟩
  have e1:parseS exB.data.toList=.error (9,25):=ex_two
  rw [e1] at h
  exact ⟨hb,h⟩)
 clear hE
 go_enter Tryz.func8,Tryz.ntmps8
 go_upto_region 2 with (go_at_call 9;refine (show Calls _ _ #[.string exA] _ _ from HP1.out).mono ?_;rintro e w1 ⟨hb1,Rr,cr,Rp,cp,Rt,ct,Rl,cl,rfl,hs1,hl1⟩;have HB1:=Lib.hid hb1;have HS1:=Lib.hid hs1;have HL1:=Lib.hid hl1;clear hb1 hs1 hl1)
 obtain ⟨w2,hw2⟩:∃ W,W=w1.alloc (.cells #[.int .i64 2,.int .i64 4,.int .i64 8,.int .i64 100,.bool true,.int .i64 3,.slice Rr 1 cr,.slice Rp 1 cp,.slice Rt 1 ct] 29):=⟨_,rfl⟩
 obtain ⟨b2,hb2⟩:∃ b,b=w1.heap.size:=⟨_,rfl⟩
 have HK2:Hid (Blk w2 b2 29 #[.int .i64 2,.int .i64 4,.int .i64 8,.int .i64 100,.bool true,.int .i64 3,.slice Rr 1 cr,.slice Rp 1 cp,.slice Rt 1 ct]):=Lib.hid (by rw [hw2,hb2];exact Blk.new _ _ _)
 have HB12:Hid (Below w1.heap.size w1 w2):=Lib.hid (hw2 ▸ (Below.refl _ _).alloc (Nat.le_refl _) _)
 rw [← hw2,← hb2]
 clear hw2 hb2
 go_upto_region 3 with (go_at_call 9;refine (show Calls _ _ #[.string exB] _ _ from HP2.out w2 (HB1.out.trans (HB12.out.mono HB1.out.size))).mono ?_;rintro e w3 ⟨hb3,rfl⟩;have HB23:=Lib.hid hb3;clear hb3)
 obtain ⟨w4,hw4⟩:∃ W,W=w3.alloc (.cells #[.int .i64 0,.int .i64 0,.int .i64 0,.int .i64 0,.bool false,.int .i64 0,.slice none 0 0,.slice none 0 0,.slice none 0 0] 29):=⟨_,rfl⟩
 have HB24:Hid (Below w2.heap.size w2 w4):=Lib.hid (hw4 ▸ HB23.out.alloc HB23.out.size _)
 have HB14:Hid (Below w1.heap.size w1 w4):=Lib.hid (HB12.out.trans (HB24.out.mono HB12.out.size))
 have HK4:Hid (Blk w4 b2 29 #[.int .i64 2,.int .i64 4,.int .i64 8,.int .i64 100,.bool true,.int .i64 3,.slice Rr 1 cr,.slice Rp 1 cp,.slice Rt 1 ct]):=Lib.hid (HK2.out.below HB24.out HK2.out.lt)
 rw [← hw4]
 clear hw4
 have p0:=(HK4.out.cell 0).trans (show _=some (Value.int .i64 2) from rfl)
 have p1:=(HK4.out.cell 1).trans (show _=some (Value.int .i64 4) from rfl)
 have p2:=(HK4.out.cell 2).trans (show _=some (Value.int .i64 8) from rfl)
 have p3:=(HK4.out.cell 3).trans (show _=some (Value.int .i64 100) from rfl)
 have p4:=(HK4.out.cell 4).trans (show _=some (Value.bool true) from rfl)
 have p5:=(HK4.out.cell 5).trans (show _=some (Value.int .i64 3) from rfl)
 have p6:=(HK4.out.cell 6).trans (show _=some (Value.slice Rr 1 cr) from rfl)
 have p7:=(HK4.out.cell 7).trans (show _=some (Value.slice Rp 1 cp) from rfl)
 have p8:=(HK4.out.cell 8).trans (show _=some (Value.slice Rt 1 ct) from rfl)
 have pl:=HK4.out.lt
 go_upto_region 5 with fail
 have HPR:Hid (Calls Tryz.prog 13 #[.agg #[.int .i64 2,.int .i64 4,.int .i64 8,.int .i64 100,.bool true,.int .i64 3,.slice Rr 1 cr,.slice Rp 1 cp,.slice Rt 1 ct],.slice Rl 2 cl] w4 fun e w'=>∃ t:ByteArray,40 < t.size∧e=.returned (.tuple #[.string t,.int .i64 0])∧Below w4.heap.size w4 w'):=Lib.hid (by
  obtain ⟨ps,h1,h2,h3⟩:=ex_set
  have h:=pprint_ok (B:=C) h1 (by decide) w1.heap.size _ _ _ _ w4 HB14.out.size (HS1.out.below HB14.out) (HL1.out.below HB14.out) ((HE.out.later (HB1.out.trans (HB14.out.mono HB1.out.size))).env)
  refine h.mono ?_
  rintro e w' ⟨h4,h5⟩
  rcases h4 with ⟨_,rfl⟩ | ⟨h6,_⟩
  ·exact ⟨_,by rw [size_list];exact h2,rfl,h5⟩
  ·omega)
 have HLC:=Lib.hid (line_all (Nat.le_refl _) HL1.out.raw rfl)
 obtain ⟨b,off,x0,Q0,m0,q0,rfl,hb,hx0,hl0,_,_,hc0,_⟩:=HLC.out 0 (by decide)
 obtain ⟨b',off',x1,Q1,m1,q1,he,_,hx1,hl1,_,_,hc1,_⟩:=HLC.out 1 (by decide)
 injection he with he
 injection he with he1 he2
 subst he1 he2
 obtain rfl:x0=PLine.raw ⟨1,List.replicate 13 0 ++ [1]⟩:=(Option.some.inj hx0).symm
 obtain rfl:x1=PLine.raw ⟨2,[]⟩:=(Option.some.inj hx1).symm
 have hm0:m0=14:=hl0.symm
 subst hm0
 have HB:=Lib.hid hb
 have HC0:=Lib.hid (fun W hW=>(hc0 W hW).2)
 have HC1:Hid (∀ W,Below w1.heap.size w1 W→W.cell? ⟨b,off + 1 * 2,none⟩=some (.int .i64 2)):=Lib.hid (fun W hW=>(hc1 W hW).1)
 clear hb hc0 hc1 hx0 hx1 hl0 hl1
 go_upto_region 6 with (go_at_call 13;refine HPR.out.mono ?_;rintro e w5 ⟨t,ht,rfl,hb5⟩;have HB5:=Lib.hid (HB14.out.trans (hb5.mono HB14.out.size));clear hb5)
 clear p0 p1 p2 p3 p4 p5 p6 p7 p8 pl
 have c0:=HC0.out w5 HB5.out
 have c1:=HC1.out w5 HB5.out
 have cl5:b < w5.heap.size:=Nat.lt_of_lt_of_le HB.out HB5.out.size
 have t1:decide ((40:Int) < (t.size:Int))=true:=decide_eq_true (by omega)
 have t2:decide (40 < t.size)=true:=decide_eq_true ht
 go_wp2
 go_ret
 exact ⟨rfl,HB1.out.trans (HB5.out.mono HB1.out.size)⟩
def toldS (r:Except (Nat × Nat) SSt):PSet × List PLine × Nat × Nat:=match r with
 | .error y=>(⟨noCfg,[],[],[]⟩,[],y.1,y.2)
 | .ok x=>(x.set,x.lines,0,0)
theorem set_none (W:World) (C:Nat):SetRd W C ⟨noCfg,[],[],[]⟩ nilC nilC nilC:=⟨⟨none,0,rfl,by decide,Reads.none_⟩,⟨none,0,rfl,by decide,Reads.none_⟩,⟨none,0,[],rfl,by decide,rfl,Reads.none_,fun i l v h=>by simp at h⟩⟩
theorem lines_none (W:World) (C:Nat):LinesRd W C [] nilC:=⟨by decide,none,0,[],rfl,rfl,Reads.none_,fun i l v h=>by simp at h⟩
theorem set_shape {W:World} {C:Nat} {s:PSet} {rv pv tv:Value} (h:SetRd W C s rv pv tv):∃ Rr cr Rp cp Rt ct,rv=.slice Rr s.regs.length cr∧pv=.slice Rp s.progs.length cp∧tv=.slice Rt s.thr.length ct:=by
 obtain ⟨⟨Rr,cr,h1,_⟩,⟨Rp,cp,h2,_⟩,⟨Rt,ct,_,h3,_⟩⟩:=h
 exact ⟨Rr,cr,Rp,cp,Rt,ct,h1,h2,h3⟩
theorem rreads_any (s:ByteArray) (w:World):Calls Tryz.prog 10 #[.string s] w fun e w'=>Below w.heap.size w w'∧∃ rv pv tv lv,e=.returned (.agg (toldC (toldS (parseS s.data.toList)).1.cfg rv pv tv lv (toldS (parseS s.data.toList)).2.2.1 (toldS (parseS s.data.toList)).2.2.2))∧SetRd w' w'.heap.size (toldS (parseS s.data.toList)).1 rv pv tv∧LinesRd w' w'.heap.size (toldS (parseS s.data.toList)).2.1 lv:=by
 refine (rparse_any s w).mono ?_
 rintro e w' ⟨hb,h⟩
 refine ⟨hb,?_⟩
 cases hp:parseS s.data.toList with
 | error y =>
  rw [hp] at h
  exact ⟨nilC,nilC,nilC,nilC,h,set_none _ _,lines_none _ _⟩
 | ok x =>
  rw [hp] at h
  obtain ⟨rv,pv,tv,lv,T,L,rfl,h⟩:=h
  exact ⟨rv,pv,tv,lv,rfl,h.set_rd,h.lines_rd⟩
end Go.Proofs.YtiheggkkgbfndaaGreatDoor
