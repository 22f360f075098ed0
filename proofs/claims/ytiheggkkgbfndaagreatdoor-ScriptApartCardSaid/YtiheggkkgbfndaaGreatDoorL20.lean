/- asm's reader: a line. -/
import Derived.Test.YtiheggkkgbfndaaGreatDoorL19
import Derived.StillTailTactics
import Derived.RangeFuncOwn
import Derived.Test.YtiheggkkgbfndaaGreatDoorL09
import Derived.Test.YtiheggkkgbfndaaGreatDoorL01
import Derived.Defers
import Derived.Recover
import Derived.Test.YtiheggkkgbfndaaGreatDoorL02
import Derived.Lib.Split
import Derived.Test.YtiheggkkgbfndaaGreatDoorL05
namespace Go.Proofs.YtiheggkkgbfndaaGreatDoor
open Go.RowKit Go.Joins Go.ChangeShapes Go.WideShapes Go.Deep Go.Maps
set_option linter.unusedVariables false
set_option linter.unusedSimpArgs false
set_option maxRecDepth 100000
theorem SMap.obj {w:World} {b n:Nat} {F:List UInt8→Option Nat} (h:SMap w b n F):∃ o:Obj,w.heap[b]?=some o∧o.isCells=false:=by
 obtain ⟨D,⟨es,cl,h1,_⟩,_⟩:=h
 exact ⟨_,h1,rfl⟩
theorem Reads.past {w w':World} {B size n b:Nat} {A:Option Addr} {xs:List Value} (h:Reads w B size A n xs) (hg:w.grownBy w' (some b)) (hm:∃ o:Obj,w.heap[b]?=some o∧o.isCells=false):Reads w' B size A n xs:=by
 refine ⟨h.1,fun hn=>?_⟩
 obtain ⟨ad,e1,e2,e3⟩:=h.2 hn
 exact ⟨ad,e1,e2,fun j u hu=>cell_kept (e3 j u hu) hg fun r hr=>by injection hr with hr;subst hr;exact hm⟩
theorem labF2_snoc (l:List (List UInt8 × Nat)) (nm:List UInt8) (k:Nat) (h:labF2 l nm=none) (j:List UInt8):labF2 (l ++ [(nm,k)]) j=if j=nm then some k else labF2 l j:=by
 unfold labF2 at h ⊢
 rw [List.find?_append]
 by_cases e:j=nm
 ·subst e
  rw [Option.map_eq_none_iff] at h
  rw [h,if_pos rfl]
  simp
 ·rw [if_neg e]
  have:([(nm,k)]:List (List UInt8 × Nat)).find? (fun p=>p.1 == j)=none:=by
   simp
   exact fun h=>e h.symm
  rw [this]
  simp
theorem RdIs.labelled {B:Nat} {w w2:World} {rb mc ml:Nat} {lv:Value} {r:RSt} {nm:List UInt8} (hR:RdIs B w rb mc ml lv r) (hg:w.grownBy w2 (some ml)) (hS:SMap w2 ml (r.labels.length + 1) (fun j=>if j=nm then some r.size else labF2 r.labels j)) (hn:labF2 r.labels nm=none) (hB:B ≤ w.heap.size) :
  Below B w w2∧RdIs B w2 rb mc ml lv ⟨r.labels ++ [(nm,r.size)],r.ins⟩:=by
 have hk:∀ q,q < w.heap.size→q ≠ ml→w2.heap[q]?=w.heap[q]?:=fun q hq hne=>hg.block q hq fun h=>hne (by injection h)
 refine ⟨⟨hg.os,hg.tape,hg.output,hg.size,fun q hq=>hk q (by omega) (by have:=hR.mlB;omega)⟩,?_⟩
 exact ⟨(hk rb hR.blk.lt (Ne.symm (hR.labs.ne_blk hR.blk))).trans hR.blk,hR.codes.kept (hk mc hR.codes.lt hR.ne),(by rw [List.length_append];exact hS.congr fun j=>(labF2_snoc _ _ _ hn j).symm),
  own_keep hR.own fun b hb=>hk b (hR.own.lt b hb).2 (fun e=>hR.labs.ne_own hR.own (e ▸ hb)),hR.rbB,hR.mcB,hR.mlB,hR.ne,hR.size,hR.len⟩
def labRest (r:RSt) (nm:List UInt8):List Tok→Except (Nat × Nat) RSt
 | []=>.ok ⟨r.labels ++ [(nm,r.size)],r.ins⟩
 | u :: rest'=>insL ⟨r.labels ++ [(nm,r.size)],r.ins⟩ u rest'
theorem lineL_lab (r:RSt) (u:Tok) (rest:List Tok) (h:(u.s.getLast? == some 58)=true):lineL r (u :: rest)=if nameF u.s.dropLast=false then .error (9,u.pos) else if (labF2 r.labels u.s.dropLast).isSome then .error (11,u.pos) else labRest r u.s.dropLast rest:=by
 unfold lineL
 simp only [h,if_true]
 cases rest <;> rfl
set_option maxHeartbeats 4000000 in
theorem line_asm {B:Nat} {w:World} (hE:EnvP B w) {rb mc ml:Nat} {lv:Value} {r:RSt} (hR:RdIs B w rb mc ml lv r) (l:List Tok) (A:Option Addr) (n c:Nat)
  (hT:Reads w w.heap.size 2 A n (rows tkc l)) (hc:n ≤ c) (hu:∀ t ∈ l,t.s.length ≤ 4294967296∧t.pos ≤ 4294967296) (hn:n ≤ 4294967296) (hlab:r.labels.length ≤ 4294967296) :
  Calls Tryz.prog 137 #[.pointer (some ⟨rb,0,none⟩),.slice A n c] w (insPost B w rb mc ml lv (lineL r l)):=by
 have hl:=hT.1
 rw [rows_length tkc 2 tkc_len] at hl
 cases l with
 | nil =>
  have hn0:n=0:=by simp at hl;omega
  have z1:((n:Int) == 0)=true:=by simp;omega
  have HR:=Lib.hid hR
  clear hl hn0
  go_enter Tryz.func137,Tryz.ntmps137
  go_wp2
  go_end0
  exact ⟨Below.refl _ _,rfl,lv,HR.out,Frm.refl _ _⟩
 | cons u rest =>
  have hnl:n=rest.length + 1:=by rw [List.length_cons] at hl;omega
  have z1:((n:Int) == 0)=false:=by simp;omega
  have z2:decide ((0:Int) < (n:Int))=true:=decide_eq_true (by omega)
  have z3:decide (0 < n)=true:=decide_eq_true (by omega)
  obtain ⟨A1,hsl,hT1,hc1⟩:=tok_tail hT hc
  have HI:=Lib.hid (instr_asm hE hR u rest A n c hT hc hu hn)
  obtain ⟨bt,off,rfl,hbt,hcell⟩:=reads_flat hT (by omega) (by omega)
  obtain ⟨s,hs⟩:∃ s:ByteArray,s=⟨u.s.toArray⟩:=⟨_,rfl⟩
  have c0:w.cell? ⟨bt,off,none⟩=some (.string s):=hs ▸ hcell 0 _ rfl
  have c1:w.cell? ⟨bt,off + 1,none⟩=some (.int .i64 u.pos):=hcell 1 _ rfl
  have hsl2:s.data.toList=u.s:=by rw [hs]
  have hu1:=hu u (List.mem_cons_self ..)
  have hss:s.size ≤ 4294967296:=by
   have:s.size=s.data.toList.length:=Array.length_toList.symm
   rw [this,hsl2];exact hu1.1
  have hcs0:=Tryz.strings_CutSuffix s ⟨#[58]⟩ w (by omega)
  have hsx:Go.Lib.hasSuffix s.data.toList (⟨#[58]⟩:ByteArray).data.toList=(u.s.getLast? == some 58):=by rw [hsl2];exact suffix_one 58 u.s
  rw [hsx] at hcs0
  have hn1:1 ≤ n:=by omega
  clear hcell hs hl
  cases hlast:(u.s.getLast? == some 58) with
  | false =>
   have HL:Hid (lineL r (u :: rest)=insL r u rest):=Lib.hid (by unfold lineL;simp only [hlast];rfl)
   rw [hlast] at hcs0
   obtain ⟨q,hq⟩:∃ q:ByteArray,q=⟨(Go.Lib.trimSuffix s.data.toList (⟨#[58]⟩:ByteArray).data.toList).toArray⟩:=⟨_,rfl⟩
   rw [← hq] at hcs0
   have HCS:=Lib.hid hcs0
   clear hcs0 hsx hlast hq hT hT1 hsl hnl hsl2 hR
   cases hx:insL r u rest with
   | error y =>
    have HIX:=Lib.hid (HI.out.mono (fun e w' h=>(by have h2:=h.2;rw [hx] at h2;exact ⟨h.1,h2⟩:Below B w w'∧e=.panicked [{ v:=faultV y.1 y.2,recovered:=false }])))
    have HXX:=Lib.hid (HL.out.trans hx)
    clear hx
    go_enter Tryz.func137,Tryz.ntmps137
    go_wp2_with (first | (go_at_call 160;refine HCS.out.mono ?_;rintro e w1 ⟨rfl,hw⟩;obtain rfl:=hw.symm) | (go_at_call 162;refine HIX.out.mono ?_;rintro e w3 ⟨hb3,rfl,hr3⟩) | (go_at_call 162;refine HIX.out.mono ?_;rintro e w3 ⟨hb3,rfl⟩))
    refine ⟨rfl,hb3,?_⟩
    rw [HXX.out]
   | ok r' =>
    have HIX:=Lib.hid (HI.out.mono (fun e w' h=>(by have h2:=h.2;rw [hx] at h2;exact ⟨h.1,h2.1,h2.2⟩:Below B w w'∧e=.returned (.tuple #[])∧∃ lv',RdIs B w' rb mc ml lv' r'∧Frm w w' (RdS rb ml lv))))
    have HXX:=Lib.hid (HL.out.trans hx)
    clear hx
    go_enter Tryz.func137,Tryz.ntmps137
    go_wp2_with (first | (go_at_call 160;refine HCS.out.mono ?_;rintro e w1 ⟨rfl,hw⟩;obtain rfl:=hw.symm) | (go_at_call 162;refine HIX.out.mono ?_;rintro e w3 ⟨hb3,rfl,hr3⟩) | (go_at_call 162;refine HIX.out.mono ?_;rintro e w3 ⟨hb3,rfl⟩))
    go_end0
    refine ⟨hb3,?_⟩
    rw [HXX.out]
    obtain ⟨lv3,hr4,hf4⟩:=hr3
    exact ⟨rfl,lv3,hr4,hf4⟩
  | true =>
   have htr:Go.Lib.trimSuffix s.data.toList (⟨#[58]⟩:ByteArray).data.toList=u.s.dropLast:=by rw [hsl2];exact trim_one 58 u.s (by rw [suffix_one,hlast])
   obtain ⟨nm,hnm⟩:∃ nm,nm=u.s.dropLast:=⟨_,rfl⟩
   rw [htr,hlast,← hnm] at hcs0
   obtain ⟨q,hq⟩:∃ q:ByteArray,q=⟨nm.toArray⟩:=⟨_,rfl⟩
   rw [← hq] at hcs0
   have hql:q.data.toList=nm:=by rw [hq]
   have hqs:q.size ≤ 4294967296:=by
    have e1:q.size=q.data.toList.length:=Array.length_toList.symm
    rw [e1,hql,hnm,List.length_dropLast];omega
   have HCS:=Lib.hid hcs0
   have HNM0:=Lib.hid (fun W=>named_any q (by omega) W)
   rw [hql] at HNM0
   have hline:=lineL_lab r u rest hlast
   rw [← hnm] at hline
   have r1:w.cell? ⟨rb,1,none⟩=some (.map (some ml)):=(hR.blk.cell 1).trans rfl
   have r3:w.cell? ⟨rb,3,none⟩=some (.int .i64 (r.size:Int)):=(hR.blk.cell 3).trans rfl
   have hrl:=hR.blk.lt
   have hlk:=hR.labs.look q (by unfold maxLen;omega)
   rw [hql] at hlk
   have HLK:=Lib.hid hlk
   have HQL:=Lib.hid hql
   have HNL:=Lib.hid hnl
   clear hcs0 hsx hlast htr hnm hq hlk hsl2 hql hnl
   cases hname:nameF nm with
   | false =>
    have HL:Hid (lineL r (u :: rest)=.error (9,u.pos)):=Lib.hid (hline.trans (if_pos hname))
    rw [hname] at HNM0
    have HNM:=Lib.hid HNM0.out
    clear HNM0 hname hline hT hT1 hsl HI HLK
    go_enter Tryz.func137,Tryz.ntmps137
    go_wp2_with (first | (go_at_call 160;refine HCS.out.mono ?_;rintro e w1 ⟨rfl,hw⟩;obtain rfl:=hw.symm) | (go_at_call 161;refine (HNM.out _).mono ?_;rintro e w1 ⟨rfl,hw⟩;obtain rfl:=hw.symm) | (go_at_call 139;refine (fail_any _ _ _).mono ?_;rintro e w1 ⟨rfl,hw⟩;obtain rfl:=hw.symm))
    refine ⟨rfl,Below.refl _ _,?_⟩
    rw [HL.out]
    rfl
   | true =>
    rw [hname] at HNM0
    have HNM:=Lib.hid HNM0.out
    rw [if_neg (by rw [hname];exact Bool.noConfusion)] at hline
    clear HNM0 hname
    cases hlab2:labF2 r.labels nm with
    | some k =>
     have HL:Hid (lineL r (u :: rest)=.error (11,u.pos)):=Lib.hid (hline.trans (if_pos (by rw [hlab2];rfl)))
     have hlk:=HLK.out
     simp only [hlab2] at hlk
     clear hline hT hT1 hsl HI HLK hlab2
     go_enter Tryz.func137,Tryz.ntmps137
     go_wp2_with (first | (go_at_call 160;refine HCS.out.mono ?_;rintro e w1 ⟨rfl,hw⟩;obtain rfl:=hw.symm) | (go_at_call 161;refine (HNM.out _).mono ?_;rintro e w1 ⟨rfl,hw⟩;obtain rfl:=hw.symm) | (go_at_call 139;refine (fail_any _ _ _).mono ?_;rintro e w1 ⟨rfl,hw⟩;obtain rfl:=hw.symm))
     refine ⟨rfl,Below.refl _ _,?_⟩
     rw [HL.out]
     rfl
    | none =>
     have HL:Hid (lineL r (u :: rest)=labRest r nm rest):=Lib.hid (hline.trans (if_neg (by rw [hlab2];exact Bool.noConfusion)))
     have hlk:=HLK.out
     simp only [hlab2] at hlk
     have HLN:=Lib.hid hlab2
     have HR:=Lib.hid hR
     have HT1:=Lib.hid hT1
     have hls:r.labels.length < maxLen:=by unfold maxLen;omega
     have hqm:q.size ≤ maxLen:=by unfold maxLen;omega
     have hsz:r.size ≤ 9223372036854775807:=by have:=hR.size;omega
     have hLM:=hR.labs
     clear hline hT hT1 HI HLK hlab2 hR
     go_enter Tryz.func137,Tryz.ntmps137
     go_upto_region 8 with (first | (go_at_call 160;refine HCS.out.mono ?_;rintro e w1 ⟨rfl,hw⟩;obtain rfl:=hw.symm) | (go_at_call 161;refine (HNM.out _).mono ?_;rintro e w1 ⟨rfl,hw⟩;obtain rfl:=hw.symm))
     refine wp_region_still_tail 9 (by kernel_rfl) (by kernel_rfl) ?_
     change wpStill _ _ (World.drew _) (fun a'=>wpList _ _ _ _ a' (World.drew _)) _ _
     simp only [List.take_succ_cons,List.take_zero,List.drop_succ_cons,List.drop_zero]
     repeat still_step
     refine wpStill_nil ?_
     go_upto_region 10 with (first | (refine wpList_smap_put _ rfl (.tmp 46) (.tmp 47) (.tmp 51) rfl ml r.labels.length (labF2 r.labels) rfl (hLM.drewN 1) hls q hqm r.size hsz rfl rfl ?_;intro w2 hm2 hg2) | (refine wpList_slice_g rfl 199 (.tmp 52) (some (.const (.int .i64 1))) none rfl rfl rfl rfl (hsl _) ?_))
     rw [HQL.out] at hm2
     have hg:w.grownBy w2 (some ml):=⟨hg2.os,hg2.tape,hg2.output,hg2.size,hg2.block⟩
     obtain ⟨hbw,hR2⟩:=HR.out.labelled hg hm2 HLN.out hE.size
     have HFL:Hid (Frm w w2 (RdS rb ml lv)):=Lib.hid ((Frm.refl w (RdS rb ml lv)).grown hg (fun q h=>by injection h with h;exact .inl (.inr (.inl h.symm))))
     have hE2:=hE.below hbw
     have hT2:Reads w2 w2.heap.size 2 A1 rest.length (rows tkc rest):=(HT1.out.past hg HR.out.labs.obj).more hg.size
     have HB2:=Lib.hid hbw
     have HR2:=Lib.hid hR2
     clear hg hg2 hm2 r1 r3 hrl c0 c1 hbw hlk
     cases rest with
     | nil =>
      go_wp2
      go_end0
      refine ⟨HB2.out,?_⟩
      rw [HL.out]
      exact ⟨rfl,lv,HR2.out,HFL.out⟩
     | cons u2 rest2 =>
      have HI:=Lib.hid (instr_asm hE2 HR2.out u2 rest2 A1 (u2 :: rest2).length (c - 1) hT2 hc1 (fun t ht=>hu t (List.mem_cons_of_mem _ ht)) (by have:=HNL.out;omega))
      have HTT:=Lib.hid hT2
      obtain ⟨nx,hnx⟩:∃ nx,nx=(u2 :: rest2).length:=⟨_,rfl⟩
      have g1:decide ((0:Int) < (nx:Int))=true:=decide_eq_true (by rw [hnx,List.length_cons];omega)
      have g2:decide (0 < nx)=true:=decide_eq_true (by rw [hnx,List.length_cons];omega)
      rw [← hnx] at HI ⊢
      clear hT2 hE2 hR2 hnx hsl
      cases hx:insL ⟨r.labels ++ [(nm,r.size)],r.ins⟩ u2 rest2 with
      | error y =>
       have HIX:=Lib.hid (HI.out.mono (fun e w' h=>(by have h2:=h.2;rw [hx] at h2;exact ⟨h.1,h2⟩:Below B w2 w'∧e=.panicked [{ v:=faultV y.1 y.2,recovered:=false }])))
       have HXX:=Lib.hid (HL.out.trans hx)
       clear hx
       go_wp2_with (first | (go_at_call 162;refine HIX.out.mono ?_;rintro e w3 ⟨hb3,rfl,hr3⟩) | (go_at_call 162;refine HIX.out.mono ?_;rintro e w3 ⟨hb3,rfl⟩))
       refine ⟨rfl,HB2.out.trans hb3,?_⟩
       rw [HXX.out]
      | ok r' =>
       have HIX:=Lib.hid (HI.out.mono (fun e w' h=>(by have h2:=h.2;rw [hx] at h2;exact ⟨h.1,h2.1,h2.2⟩:Below B w2 w'∧e=.returned (.tuple #[])∧∃ lv',RdIs B w' rb mc ml lv' r'∧Frm w2 w' (RdS rb ml lv))))
       have HXX:=Lib.hid (HL.out.trans hx)
       clear hx
       go_wp2_with (first | (go_at_call 162;refine HIX.out.mono ?_;rintro e w3 ⟨hb3,rfl,hr3⟩) | (go_at_call 162;refine HIX.out.mono ?_;rintro e w3 ⟨hb3,rfl⟩))
       go_end0
       refine ⟨HB2.out.trans hb3,?_⟩
       rw [HXX.out]
       obtain ⟨lv3,hr4,hf4⟩:=hr3
       exact ⟨rfl,lv3,hr4,HFL.out.trans hf4 (fun q h=>.inl h)⟩
end Go.Proofs.YtiheggkkgbfndaaGreatDoor
namespace Go.Proofs.YtiheggkkgbfndaaGreatDoor
open Go.RowKit Go.Joins Go.ChangeShapes Go.WideShapes Go.Deep
set_option linter.unusedVariables false
set_option linter.unusedSimpArgs false
set_option maxRecDepth 100000
set_option maxHeartbeats 2000000 in
theorem catch_idle (a b c:Nat) (w:World) :
  CallsD Tryz.prog 136 #[.pointer (some ⟨a,0,none⟩),.pointer (some ⟨b,0,none⟩),.pointer (some ⟨c,0,none⟩)] .returning w fun e u' w'=>e=.returned (.tuple #[])∧u'=.returning∧w'=w:=by
 refine callsD_of_wpS Tryz.func136 rfl fun c₀ cs hu=>?_
 apply wpS_seq
 apply wpS_region
 simp [wpOpsS,go_sem,recoverD,hu,Tryz.ntmps136,Exit.thenS]
 refine wpS_of_wp ?_
 change Code.wp _ _ _ { tmps:=#[.pointer (some ⟨a,0,none⟩),.pointer (some ⟨b,0,none⟩),.pointer (some ⟨c,0,none⟩),.nilIface,undef,undef,.nilIface,undef,undef,undef,undef,undef,undef,undef,undef,undef,undef,undef,undef,undef,undef],defers:=[] } w
 go_wp2
 cases c₀
 simp_all [bodyPostS,results,Tryz.results136]
set_option maxHeartbeats 2000000 in
theorem catch_fault (a b c:Nat) (x y:Int) (older:List PanicEntry) (w:World) (s0:ByteArray) (e0 p0:Int) (h0:w.cell? ⟨a,0,none⟩=some (.string s0)) (h1:w.cell? ⟨b,0,none⟩=some (.int .i64 e0)) (h2:w.cell? ⟨c,0,none⟩=some (.int .i64 p0))
  (f0:w.frozen? ⟨a,0,none⟩=false) (f1:w.frozen? ⟨b,0,none⟩=false) (f2:w.frozen? ⟨c,0,none⟩=false) (l0:a < w.heap.size) (l1:b < w.heap.size) (l2:c < w.heap.size) (n1:a ≠ b) (n2:a ≠ c) (n3:b ≠ c) :
  CallsD Tryz.prog 136 #[.pointer (some ⟨a,0,none⟩),.pointer (some ⟨b,0,none⟩),.pointer (some ⟨c,0,none⟩)] (.panicking ({ v:=faultV x y,recovered:=false } :: older)) w fun e u' w'=>e=.returned (.tuple #[])∧u'=.panicking ({ v:=faultV x y,recovered:=true } :: older) ∧
   Frm w w' (fun q=>q=a ∨ q=b ∨ q=c)∧w'.cell? ⟨a,0,none⟩=some (.string ⟨#[]⟩)∧w'.cell? ⟨b,0,none⟩=some (.int .i64 x)∧w'.cell? ⟨c,0,none⟩=some (.int .i64 y):=by
 refine callsD_of_wpS Tryz.func136 rfl fun c₀ cs hu=>?_
 apply wpS_seq
 apply wpS_region
 simp [wpOpsS,go_sem,recoverD,hu,Tryz.ntmps136,Exit.thenS]
 refine wpS_of_wp ?_
 change Code.wp _ _ _ { tmps:=#[.pointer (some ⟨a,0,none⟩),.pointer (some ⟨b,0,none⟩),.pointer (some ⟨c,0,none⟩),(.iface 191 (.agg #[.int .i64 x,.int .i64 y])),undef,undef,(.iface 191 (.agg #[.int .i64 x,.int .i64 y])),undef,undef,undef,undef,undef,undef,undef,undef,undef,undef,undef,undef,undef,undef],defers:=[] } w
 have hta:∀ W,(Instr.typeAssert (.iface 191 (.agg #[.int .i64 x,.int .i64 y])) 20 191 true).run Tryz.prog W=.ok (.tuple #[.agg #[.int .i64 x,.int .i64 y],.bool true]) W:=fun W=>by
  first | rfl | kernel_rfl | simp [Instr.typeAssert,go_sem]
 go_upto_region 5 with fail
 obtain ⟨W,hW⟩:∃ W,W=w.alloc (.cells #[.int .i64 x,.int .i64 y] 191):=⟨_,rfl⟩
 obtain ⟨fb,hfb⟩:∃ fb,fb=w.heap.size:=⟨_,rfl⟩
 rw [← hW,← hfb]
 have hb:Blk W fb 191 #[.int .i64 x,.int .i64 y]:=by rw [hW,hfb];exact Blk.new w _ _
 have hBW:Below w.heap.size w W:=hW ▸ (Below.refl _ _).alloc (Nat.le_refl _) _
 have y0:W.cell? ⟨fb,0,none⟩=some (.int .i64 x):=(hb.cell 0).trans rfl
 have y1:W.cell? ⟨fb,1,none⟩=some (.int .i64 y):=(hb.cell 1).trans rfl
 have h0:W.cell? ⟨a,0,none⟩=some (.string s0):=(hBW.cell (p:=⟨a,0,none⟩) l0).trans h0
 have h1:W.cell? ⟨b,0,none⟩=some (.int .i64 e0):=(hBW.cell (p:=⟨b,0,none⟩) l1).trans h1
 have h2:W.cell? ⟨c,0,none⟩=some (.int .i64 p0):=(hBW.cell (p:=⟨c,0,none⟩) l2).trans h2
 have f0:W.frozen? ⟨a,0,none⟩=false:=(hBW.frozen (p:=⟨a,0,none⟩) l0).trans f0
 have f1:W.frozen? ⟨b,0,none⟩=false:=(hBW.frozen (p:=⟨b,0,none⟩) l1).trans f1
 have f2:W.frozen? ⟨c,0,none⟩=false:=(hBW.frozen (p:=⟨c,0,none⟩) l2).trans f2
 have l0:a < W.heap.size:=Nat.lt_of_lt_of_le l0 hBW.size
 have l1:b < W.heap.size:=Nat.lt_of_lt_of_le l1 hBW.size
 have l2:c < W.heap.size:=Nat.lt_of_lt_of_le l2 hBW.size
 have m0:fb ≠ a:=by omega
 have m1:fb ≠ b:=by omega
 have m2:fb ≠ c:=by omega
 have lf:=hb.lt
 have HB:=Lib.hid hBW
 clear hW hfb hBW hta
 go_region
 obtain ⟨Wf,hWf⟩:∃ Wf,Wf=(((W.setCell ⟨a,0,none⟩ (.string ⟨#[]⟩)).setCell ⟨b,0,none⟩ (.int .i64 x)).setCell ⟨c,0,none⟩ (.int .i64 y)).drew:=⟨_,rfl⟩
 rw [← hWf]
 have hpost:Frm w Wf (fun q=>q=a ∨ q=b ∨ q=c)∧Wf.cell? ⟨a,0,none⟩=some (.string ⟨#[]⟩)∧Wf.cell? ⟨b,0,none⟩=some (.int .i64 x)∧Wf.cell? ⟨c,0,none⟩=some (.int .i64 y):=by
  rw [hWf]
  refine ⟨((((Frm.of_below (S:=fun q=>q=a ∨ q=b ∨ q=c) HB.out).set a 0 _ (.inl (.inl rfl))).set b 0 _ (.inl (.inr (.inl rfl)))).set c 0 _ (.inl (.inr (.inr rfl)))).drew,?_,?_,?_⟩
  ·simp [go_sem,h0,h1,h2,n1,n2,n3,Ne.symm n1,Ne.symm n2,Ne.symm n3]
  ·simp [go_sem,h0,h1,h2,n1,n2,n3,Ne.symm n1,Ne.symm n2,Ne.symm n3]
  ·simp [go_sem,h0,h1,h2,n1,n2,n3,Ne.symm n1,Ne.symm n2,Ne.symm n3]
 clear hWf h0 h1 h2 f0 f1 f2 y0 y1
 show bodyPostS _ _ _ _ _ _ _ _ _
 cases c₀
 simp_all [bodyPostS,results,Tryz.results136,faultV]
end Go.Proofs.YtiheggkkgbfndaaGreatDoor
namespace Go.Proofs.YtiheggkkgbfndaaGreatDoor
open Go Go.Lib
set_option linter.unusedVariables false
set_option linter.unusedSimpArgs false
theorem splitB_data (sep:ByteArray):∀ (k:Nat) (s:ByteArray),splitB sep 0 k s=(splitK sep.data.toList 0 k s.data.toList).map fun l=>(⟨l.toArray⟩:ByteArray)
 | 0,s=>by
  show [s]=[(⟨s.data.toList.toArray⟩:ByteArray)]
  rw [Array.toArray_toList]
 | k + 1,s=>by
  unfold splitB splitK
  have e1:indexB s sep=index s.data.toList sep.data.toList:=rfl
  rw [e1]
  by_cases h:(index s.data.toList sep.data.toList == -1)=true
  ·rw [if_pos h,if_pos h]
   show [s]=[(⟨s.data.toList.toArray⟩:ByteArray)]
   rw [Array.toArray_toList]
  ·rw [if_neg h,if_neg h,List.map_cons,splitB_data sep k]
   have h1:(s.extract ((index s.data.toList sep.data.toList).toNat + sep.size) s.size).data.toList=s.data.toList.drop ((index s.data.toList sep.data.toList).toNat + sep.data.toList.length):=by
    rw [extract_data,List.take_of_length_le (by rw [List.length_drop,Array.length_toList];exact Nat.le_refl _),Array.length_toList]
    rfl
   rw [h1]
   congr 1
   apply Go.WideShapes.bytes_inj
   rw [extract_data]
   simp
theorem split_lines (s:ByteArray):splitB ⟨#[10]⟩ 0 (countB s ⟨#[10]⟩) s=((splitF 10 s.data.toList).map fun l=>(⟨l.toArray⟩:ByteArray))∧countB s ⟨#[10]⟩ + 1=(splitF 10 s.data.toList).length:=by
 have hc:countB s ⟨#[10]⟩=s.data.toList.count 10:=countFrom_eq 10 _ _ (Nat.lt_succ_self _)
 refine ⟨?_,by rw [splitF_length,hc]⟩
 rw [splitB_data,hc]
 exact congrArg _ (splitK_eq 10 _ _ (Nat.le_refl _))
end Go.Proofs.YtiheggkkgbfndaaGreatDoor
namespace Go.Proofs.YtiheggkkgbfndaaGreatDoor
open Go.RowKit Go.Joins Go.ChangeShapes Go.WideShapes Go.Deep
set_option linter.unusedVariables false
set_option linter.unusedSimpArgs false
set_option maxRecDepth 100000
theorem invoke_door (a b c:Value) (w:World):(invoke (.fn (.func 136) #[a,b,c]) #[]).run Tryz.prog w=.ok (.enter 136 #[a,b,c]) w:=by
 simp [invoke,callFunc,go_sem]
 first | rfl | kernel_rfl
theorem door_idle {tmps:Array Value} {R:Ending→World→Prop} {ob:Nat} {w:World} {v0:ByteArray} {v1 v2:Int}
  (h2:tmps[2]?=some (.pointer (some ⟨ob,0,none⟩))) (h3:tmps[3]?=some (.pointer (some ⟨ob + 1,0,none⟩))) (h4:tmps[4]?=some (.pointer (some ⟨ob + 1 + 1,0,none⟩)))
  (c0:w.cell? ⟨ob,0,none⟩=some (.string v0)) (c1:w.cell? ⟨ob + 1,0,none⟩=some (.int .i64 v1)) (c2:w.cell? ⟨ob + 1 + 1,0,none⟩=some (.int .i64 v2))
  (hR:R (.returned (.tuple #[.string v0,.int .i64 v1,.int .i64 v2])) w) :
  Leaves Tryz.prog Tryz.f110 tmps R [{ target:=.fn (.func 136) #[.pointer (some ⟨ob,0,none⟩),.pointer (some ⟨ob + 1,0,none⟩),.pointer (some ⟨ob + 1 + 1,0,none⟩)],args:=#[] }] .returning w:=by
 refine leaves_cons (by simp) (invoke_door _ _ _ w) ((catch_idle ob (ob + 1) (ob + 1 + 1) w).mono ?_)
 rintro e u' w' ⟨rfl,rfl,rfl⟩
 simp [Leaves,settle,results,Tryz.results110,go_sem,h2,h3,h4,c0,c1,c2]
 exact hR
theorem door_fault {tmps:Array Value} {R:Ending→World→Prop} {ob:Nat} {w:World} {v0:ByteArray} {v1 v2 x y:Int}
  (h2:tmps[2]?=some (.pointer (some ⟨ob,0,none⟩))) (h3:tmps[3]?=some (.pointer (some ⟨ob + 1,0,none⟩))) (h4:tmps[4]?=some (.pointer (some ⟨ob + 1 + 1,0,none⟩)))
  (b0:Blk w ob 9 #[.string v0]) (b1:Blk w (ob + 1) 31 #[.int .i64 v1]) (b2:Blk w (ob + 1 + 1) 3 #[.int .i64 v2])
  (hR:∀ w',Frm w w' (fun q=>q=ob ∨ q=ob + 1 ∨ q=ob + 1 + 1)→R (.returned (.tuple #[.string ⟨#[]⟩,.int .i64 x,.int .i64 y])) w') :
  Leaves Tryz.prog Tryz.f110 tmps R [{ target:=.fn (.func 136) #[.pointer (some ⟨ob,0,none⟩),.pointer (some ⟨ob + 1,0,none⟩),.pointer (some ⟨ob + 1 + 1,0,none⟩)],args:=#[] }] (.panicking [{ v:=faultV x y,recovered:=false }]) w:=by
 refine leaves_cons (by simp) (invoke_door _ _ _ w) ((catch_fault ob (ob + 1) (ob + 1 + 1) x y [] w v0 v1 v2 ((b0.cell 0).trans rfl) ((b1.cell 0).trans rfl) ((b2.cell 0).trans rfl) (b0.frozen 0) (b1.frozen 0) (b2.frozen 0) b0.lt b1.lt b2.lt (by omega) (by omega) (by omega)).mono ?_)
 rintro e u' w' ⟨rfl,rfl,hF,c0,c1,c2⟩
 simp [Leaves,settle,results,Tryz.results110,go_sem,h2,h3,h4,c0,c1,c2]
 exact hR w' hF
end Go.Proofs.YtiheggkkgbfndaaGreatDoor
