/- carouselref24: a program's text, walked. -/
import Derived.Test.YtiheggkkgbfndaaGreatDoorL27
import Derived.Test.YtiheggkkgbfndaaGreatDoorL17
import Derived.Test.YtiheggkkgbfndaaGreatDoorL09
import Derived.Test.YtiheggkkgbfndaaGreatDoorL10
namespace Go.Proofs.YtiheggkkgbfndaaGreatDoor
open Go.RowKit Go.Joins Go.ChangeShapes Go.WideShapes Go.Deep
set_option linter.unusedVariables false
set_option linter.unusedSimpArgs false
set_option maxRecDepth 100000
set_option maxHeartbeats 4000000 in
theorem rprogram_any (B q part at_ f:Nat) (s:ByteArray) (hs:s.size ≤ 65535) (hf:f ≤ s.size) (x:SSt) (w:World) (hG:DGood B w q part x) (hBw:B ≤ w.heap.size) (hBq:B ≤ q) (hpl:x.set.progs.length ≤ 16) :
  Calls Tryz.prog 55 #[.pointer (some ⟨q,0,none⟩),.string s,.int .i64 at_,.int .i64 f] w (DPostP B q part (progR x s at_ f) w):=by
 obtain ⟨rv,pv,tv,lv,T,L,hb,hS⟩:=hG
 obtain ⟨Rp,cp,rfl,_,_⟩:=own_shapes hS.progs
 have x7:w.cell? ⟨q,7,none⟩=some (.slice Rp x.set.progs.length cp):=(hb.cell 7).trans rfl
 have hql:=hb.lt
 have HB:=Lib.hid hb
 have HS:=Lib.hid hS
 have HFB:Hid (∀ (y z:Nat) (W:World),Below w.heap.size w W→Calls Tryz.prog 56 #[.pointer (some ⟨q,0,none⟩),.int .i64 y,.int .i64 z] W fun r w'=>r=.returned (.tuple #[])∧(Below B w w'∧Frm W w' (fun z=>z=q))∧Blk w' q 61 (StV x.set.cfg rv (.slice Rp x.set.progs.length cp) tv lv y z part x.steps)):=Lib.hid fun y z W hW=>(rfails_any q x.set.cfg rv _ _ lv 0 0 part x.steps y z W (HB.out.below hW hql)).mono fun r w' ⟨h1,h2,h3⟩=>⟨h1,⟨(hW.mono hBw).trans (below_of_frm h2 (Nat.le_trans hBw hW.size) hBq),h2⟩,h3⟩
 clear hb hS
 by_cases h16:x.set.progs.length=16
 ·have q1:((x.set.progs.length:Int) == 16)=true:=by simp;omega
  have HR:Hid (progR x s at_ f=.error (2,at_)):=Lib.hid (by unfold progR;rw [if_pos h16])
  clear h16
  go_enter Tryz.func55,Tryz.ntmps55
  go_wp2_with (go_at_call 56;refine (HFB.out 2 at_ _ (Below.refl _ _)).mono ?_;rintro e w2 ⟨rfl,hF,hB⟩)
  go_ret
  rw [HR.out]
  exact ⟨hF.1,_,rfl,_,_,_,_,_,_,_,hB⟩
 ·have q1:((x.set.progs.length:Int) == 16)=false:=by simp;omega
  have HN16:=Lib.hid h16
  clear h16
  obtain ⟨p0,hp0⟩:∃ p0,p0=x.set.progs.length:=⟨_,rfl⟩
  go_enter Tryz.func55,Tryz.ntmps55
  go_upto_region 5 with fail
  go_loopg [9,10,11] (s.size - f) (fun gk tv' _ _ W=>∃ n:Nat,tv'=.int .i64 n∧f ≤ n∧n ≤ s.size∧gk + n=s.size∧Hid (Body s f n)∧W=w)
  case atStart=>exact ⟨f,rfl,Nat.le_refl _,hf,by omega,Lib.hid (Body.start s f),rfl⟩
  case round =>
   obtain ⟨n,rfl,hfn,hns,hgk,HBD,rfl⟩:=hrel
   obtain ⟨w,rfl⟩:∃ w0,w0=wr:=⟨_,rfl⟩
   have HG:=Lib.hid hgk
   clear hgk
   rcases ends_or s n with ⟨i,he⟩ | hno
   ·have HLN:=Lib.hid (rline_hit hs he w)
    have HE:=Lib.hid he
    have hi:=he.2.1
    have hni:=he.1
    have z0:decide ((i:Int) + 1 < 0)=false:=decide_eq_false (by omega)
    obtain ⟨l,hl⟩:∃ l,l=s.extract n i:=⟨_,rfl⟩
    rw [← hl] at HLN
    have HLL:=Lib.hid hl
    clear he hl
    by_cases hend:l.data.toList=[101,110,100]
    ·have q2:(l.toList == [101,110,100])=true:=str_yes hend
     have HDN:Hid (bodyG (s.data.toList.drop f)=some ((s.extract f n).data.toList,s.data.toList.drop (i + 1))):=Lib.hid (HBD.out.done HE.out.1 HE.out.2.1 HE.out.2.2.1 HE.out.2.2.2 (by rw [← HLL.out];exact hend))
     obtain ⟨t,ht⟩:∃ t,t=s.extract f n:=⟨_,rfl⟩
     have htz:t.size ≤ 67108864:=by rw [ht,ByteArray.size_extract];omega
     have HP:=Lib.hid (rparse_at t htz w)
     rw [← ht] at HDN
     have hrun:∀ W,(Instr.sliceAt 9 (.string s) (some (.int .i64 f)) (some (.int .i64 n)) none).run Tryz.prog W=.ok (.string t) W:=by
      intro W
      rw [ht]
      simp [go_sem,hfn,hns]
     clear hend
     obtain ⟨i0,hi',hz0,hz1,hz2⟩:=info_parts info_str
     have hc3:x.set.progs.length + 1 ≤ maxLen:=by unfold maxLen;omega
     have hc4:(x.set.progs.length + 1) * 16 ≤ 140737488355328:=by omega
     have htl:t.data.toList.length ≤ 65535:=by
      have h1:t.data.toList.length=t.size:=Array.length_toList
      rw [h1,ht,ByteArray.size_extract];omega
     clear ht htz
     cases hpf:parseF t.data.toList with
     | error y =>
      have hpl2:=parseF_place hpf
      have hy0:=parseF_err hpf
      have HR:Hid (progR x s at_ f=.error (y.1,f + y.2)):=Lib.hid (progR_bad HN16.out HDN.out hpf)
      rw [hpf] at HP
      have q3:(((y.1:Nat):Int) != 0)=true:=by simp;omega
      have zz:IntKind.i64.wrap ((f:Int) + (y.2:Int))=(f:Int) + (y.2:Int):=by rw [IntKind.wrap_i64];omega
      have HP':Hid (Calls Tryz.prog 87 #[.string t] w fun e w'=>e=.returned (.tuple #[.string ⟨#[]⟩,.int .i64 y.1,.int .i64 y.2])∧Below w.heap.size w w'):=Lib.hid HP.out
      have HFX:=Lib.hid (HFB.out y.1 (f + y.2))
      simp only [Int.natCast_add] at HFX
      clear hpf hpl2 hy0 HP HFB
      go_upto_region 13 with (first | (go_at_call 20;refine HLN.out.mono ?_;rintro e w1 ⟨rfl,rfl⟩) | (go_at_call 87;refine HP'.out.mono ?_;rintro e w1 ⟨rfl,hb1⟩) | (go_at_call 56;refine (HFX.out _ hb1).mono ?_;rintro e wf ⟨rfl,hF,hB⟩))
      have HS2:=Lib.hid ((HS.out.below hb1).frm (HB.out.below hb1 hql) oth_st hF.2)
      have HBL:=Lib.hid hB
      have HFF:=Lib.hid hF.1
      have hBf:B ≤ wf.heap.size:=Nat.le_trans hBw (Nat.le_trans hb1.size hF.2.size)
      have x7':wf.cell? ⟨q,7,none⟩=some (.slice Rp x.set.progs.length cp):=(hB.cell 7).trans rfl
      have hqf:=hB.lt
      have HA:Hid (Below wf.heap.size wf (wf.alloc (.cells #[.string ⟨#[]⟩] 9))):=Lib.hid ((Below.refl _ _).alloc (Nat.le_refl _) _)
      have hc2:∀ u ∈ ([.string ⟨#[]⟩]:List Value),u.oneCell'=true:=by intro u hu;simp at hu;subst hu;rfl
      have hc5:B ≤ (wf.alloc (.cells #[.string ⟨#[]⟩] 9)).heap.size:=by simp;omega
      clear hb1 hF hB
      go_wp2_with (at_builtin;go_must (refine wpList_append_lies _ rfl _ _ 26 rfl B 9 i0 (.string ⟨#[]⟩) 1 16 Tryz.underlying26 (by assumption) hz0 hz1 hz2 rfl (by decide) (.slice Rp x.set.progs.length cp) x.set.progs.length (rows stC x.set.progs) rfl (HS2.out.progs.alloc _) ⟨wf.heap.size,0,none⟩ 1 1 [.string ⟨#[]⟩] rfl rfl (World.news_of_block (cs:=#[.string ⟨#[]⟩]) (t:=9) (fr:=(0,0)) (by simpa using heap_alloc_new wf (.cells #[.string ⟨#[]⟩] 9))) hc2 (by omega) hc3 hc4 hc5 (wf.heap.size + 1) (by simp) ?_;intro gg c' w2 hown2 hg2 hat hlt2;have hR3:=blk_past HBL.out (HS2.out.progs) oth_st.b HA.out hg2;have m6:w2.cell? ⟨q,7,none⟩=some (.slice Rp x.set.progs.length cp):=(hR3.cell 7).trans rfl;have f6:w2.frozen? ⟨q,7,none⟩=false:=hR3.frozen 7;have hl3:=hR3.lt))
      go_ret
      rw [HR.out]
      obtain ⟨k1,k2,k3⟩:=HS2.out.put_program HBL.out oth_st hBf hBq HA.out hg2 [] hown2 7
      exact ⟨HFF.out.trans k3,_,rfl,_,_,_,_,_,_,_,k1⟩
     | ok L =>
      have HR:Hid (progR x s at_ f=.ok ({ x with set:={ x.set with progs:=x.set.progs ++ [bytesOf L] } },i + 1)):=Lib.hid (by
       rw [progR_ok HN16.out HDN.out hpf,List.length_drop,Array.length_toList]
       have:s.data.size=s.size:=rfl
       rw [show s.size - (s.data.size - (i + 1))=i + 1 by omega])
      rw [hpf] at HP
      obtain ⟨o,ho⟩:∃ o:ByteArray,o=⟨(bytesOf L).toArray⟩:=⟨_,rfl⟩
      have HP':Hid (Calls Tryz.prog 87 #[.string t] w fun e w'=>e=.returned (.tuple #[.string o,.int .i64 0,.int .i64 0])∧Below w.heap.size w w'):=Lib.hid (by rw [ho];exact HP.out)
      have HO:=Lib.hid ho
      clear hpf HP HFB ho
      go_upto_region 13 with (first | (go_at_call 20;refine HLN.out.mono ?_;rintro e w1 ⟨rfl,rfl⟩) | (go_at_call 87;refine HP'.out.mono ?_;rintro e wf ⟨rfl,hb1⟩))
      have HS2:=Lib.hid (HS.out.below hb1)
      have hB:=HB.out.below hb1 hql
      have HBL:=Lib.hid hB
      have HFF:=Lib.hid (hb1.mono hBw)
      have hBf:B ≤ wf.heap.size:=Nat.le_trans hBw hb1.size
      have x7':wf.cell? ⟨q,7,none⟩=some (.slice Rp x.set.progs.length cp):=(hB.cell 7).trans rfl
      have hqf:=hB.lt
      have HA:Hid (Below wf.heap.size wf (wf.alloc (.cells #[.string o] 9))):=Lib.hid ((Below.refl _ _).alloc (Nat.le_refl _) _)
      have hc2:∀ u ∈ ([.string o]:List Value),u.oneCell'=true:=by intro u hu;simp at hu;subst hu;rfl
      have hc5:B ≤ (wf.alloc (.cells #[.string o] 9)).heap.size:=by simp;omega
      clear hb1 hB
      go_wp2_with (at_builtin;go_must (refine wpList_append_lies _ rfl _ _ 26 rfl B 9 i0 (.string ⟨#[]⟩) 1 16 Tryz.underlying26 (by assumption) hz0 hz1 hz2 rfl (by decide) (.slice Rp x.set.progs.length cp) x.set.progs.length (rows stC x.set.progs) rfl (HS2.out.progs.alloc _) ⟨wf.heap.size,0,none⟩ 1 1 [.string o] rfl rfl (World.news_of_block (cs:=#[.string o]) (t:=9) (fr:=(0,0)) (by simpa using heap_alloc_new wf (.cells #[.string o] 9))) hc2 (by omega) hc3 hc4 hc5 (wf.heap.size + 1) (by simp) ?_;intro gg c' w2 hown2 hg2 hat hlt2;have hR3:=blk_past HBL.out (HS2.out.progs) oth_st.b HA.out hg2;have m6:w2.cell? ⟨q,7,none⟩=some (.slice Rp x.set.progs.length cp):=(hR3.cell 7).trans rfl;have f6:w2.frozen? ⟨q,7,none⟩=false:=hR3.frozen 7;have hl3:=hR3.lt))
      go_ret
      rw [HR.out]
      obtain ⟨k1,k2,k3⟩:=HS2.out.put_program HBL.out oth_st hBf hBq HA.out hg2 (bytesOf L) (by rw [HO.out] at hown2;exact hown2) 7
      exact ⟨HFF.out.trans k3,_,rfl,by simp,_,_,_,_,_,_,k1,k2⟩
    ·have q2:(l.toList == [101,110,100])=false:=str_no hend
     have HNX:Hid (Body s f (i + 1)):=Lib.hid (HBD.out.next hfn HE.out.1 HE.out.2.1 HE.out.2.2.1 HE.out.2.2.2 (by rw [← HLL.out];exact hend))
     clear hend
     go_wp2_with (go_at_call 20;refine HLN.out.mono ?_;rintro e w1 ⟨rfl,rfl⟩)
     go_roundg (s.size - (i + 1))
     case measure=>have:=HG.out;omega
     case rel=>exact ⟨i + 1,by simp,by omega,by omega,by omega,HNX.out,rfl⟩
   ·have HLN:=Lib.hid (rline_miss hs hns hno w)
    have HR:Hid (progR x s at_ f=.error (9,s.size)):=Lib.hid (progR_none HN16.out (HBD.out.none_ hno))
    clear hno
    go_wp2_with (first | (go_at_call 20;refine HLN.out.mono ?_;rintro e w1 ⟨rfl,rfl⟩) | (go_at_call 56;refine (HFB.out 9 s.size _ (Below.refl _ _)).mono ?_;rintro e w2 ⟨rfl,hF,hB⟩))
    go_ret
    rw [HR.out]
    exact ⟨hF.1,_,rfl,_,_,_,_,_,_,_,hB⟩
def PResP (B:Nat) (w:World) (p:Nat) (s:ByteArray) (a:Nat):Except (Nat × Nat) (SSt × Nat)→Prop
 | .ok (x,n)=>∃ a',PGood B w p s a' n x
 | .error y=>PBad w p y.1 y.2
def PPostP (B p:Nat) (s:ByteArray) (a:Nat) (R:Except (Nat × Nat) (SSt × Nat)) (w:World) (e:Ending) (w':World):Prop:=e=.returned (.tuple #[])∧Below B w w'∧PResP B w' p s a R
set_option maxHeartbeats 4000000 in
theorem pprogram_any {C:Nat} (B p a f:Nat) (s:ByteArray) (hs:s.size ≤ 65535) (hf:f ≤ s.size) (x:SSt) (w:World) (hE:EnvP C w) (hCB:C ≤ B) (hG:PGood B w p s a f x) (hBw:B ≤ w.heap.size) (hBp:B ≤ p) (hpl:x.set.progs.length ≤ 16) :
  Calls Tryz.prog 79 #[.pointer (some ⟨p,0,none⟩)] w (PPostP B p s a (progR x s a f) w):=by
 obtain ⟨rv,pv,tv,lv,T,L,hb,hS⟩:=hG
 obtain ⟨Rp,cp,rfl,_,_⟩:=own_shapes hS.progs
 have x10:w.cell? ⟨p,10,none⟩=some (.slice Rp x.set.progs.length cp):=(hb.cell 10).trans rfl
 have x1:w.cell? ⟨p,1,none⟩=some (.int .i64 a):=(hb.cell 1).trans rfl
 have x2:w.cell? ⟨p,2,none⟩=some (.int .i64 f):=(hb.cell 2).trans rfl
 have hql:=hb.lt
 have HB:=Lib.hid hb
 have HS:=Lib.hid hS
 clear hS hb
 by_cases h16:x.set.progs.length=16
 ·have q1:((x.set.progs.length:Int) == 16)=true:=by simp;omega
  have HR:Hid (progR x s a f=.error (2,a)):=Lib.hid (by unfold progR;rw [if_pos h16])
  have HF:=Lib.hid (fails_any s p a f x.set.cfg rv (.slice Rp x.set.progs.length cp) tv lv x.steps 0 2 a w HB.out)
  clear h16
  go_enter Tryz.func79,Tryz.ntmps79
  go_wp2_with (go_at_call 17;refine HF.out.mono ?_;rintro e w2 ⟨rfl,hF,hB⟩)
  go_end0
  rw [HR.out]
  exact ⟨rfl,below_of_frm hF hBw hBp,_,_,_,_,_,_,_,_,_,hB⟩
 ·have q1:((x.set.progs.length:Int) == 16)=false:=by simp;omega
  have HN16:=Lib.hid h16
  have HEN:Hid (∀ W,Below B w W→EnvP C W):=Lib.hid fun W hW=>hE.below (hW.mono hCB)
  clear h16 hE
  go_enter Tryz.func79,Tryz.ntmps79
  go_upto_region 3 with fail
  go_loopg [3,4] (s.size - f) (fun gk _ _ W=>∃ n a':Nat,f ≤ n∧n ≤ s.size∧gk + n=s.size∧Hid (Body s f n)∧Blk W p 56 (RdV s a' n x.set.cfg rv (.slice Rp x.set.progs.length cp) tv lv x.steps 0 0)∧SetAt B W x rv (.slice Rp x.set.progs.length cp) tv lv T L∧Below B w W∧B ≤ W.heap.size)
  case atStart=>exact ⟨f,a,Nat.le_refl _,hf,by omega,Lib.hid (Body.start s f),HB.out,HS.out,Below.refl _ _,hBw⟩
  case round =>
   obtain ⟨n,a',hfn,hns,hgk,HBD,hbk,hSt,hbw,hBr⟩:=hrel
   have HG:=Lib.hid hgk
   have HBW:=Lib.hid hbw
   have HST:=Lib.hid hSt
   have HBK:=Lib.hid hbk
   clear hgk hbw hSt x10 x1 x2 hql
   rcases ends_or s n with ⟨i,he⟩ | hno
   ·have HLN:=Lib.hid (line_hit hs he p a' x.set.cfg rv (.slice Rp x.set.progs.length cp) tv lv x.steps 0 0 wr hbk)
    have HE:=Lib.hid he
    have hi:=he.2.1
    have hni:=he.1
    obtain ⟨l,hl⟩:∃ l,l=s.extract n i:=⟨_,rfl⟩
    rw [← hl] at HLN
    have HLL:=Lib.hid hl
    clear he hl hbk
    go_upto_region 4 with (go_at_call 42;refine HLN.out.mono ?_;rintro e w1 ⟨rfl,hF1,hB1⟩;have HF1:=Lib.hid hF1;have HB1:=Lib.hid hB1;clear hF1 hB1)
    have HS1:=Lib.hid (HST.out.frm HBK.out oth_rd HF1.out)
    have HBW1:Hid (Below B w w1):=Lib.hid (HBW.out.trans (below_of_frm HF1.out hBr hBp))
    have hB1s:B ≤ w1.heap.size:=Nat.le_trans hBr HF1.out.size
    by_cases hend:l.data.toList=[101,110,100]
    ·have q2:(l.toList == [101,110,100])=true:=str_yes hend
     have HDN:Hid (bodyG (s.data.toList.drop f)=some ((s.extract f n).data.toList,s.data.toList.drop (i + 1))):=Lib.hid (HBD.out.done HE.out.1 HE.out.2.1 HE.out.2.2.1 HE.out.2.2.2 (by rw [← HLL.out];exact hend))
     clear hend
     obtain ⟨t,ht⟩:∃ t,t=s.extract f n:=⟨_,rfl⟩
     have htz:t.size ≤ 67108864:=by rw [ht,ByteArray.size_extract];omega
     rw [← ht] at HDN
     have hrun:∀ W,(Instr.sliceAt 9 (.string s) (some (.int .i64 f)) (some (.int .i64 n)) none).run Tryz.prog W=.ok (.string t) W:=by
      intro W
      rw [ht]
      simp [go_sem,hfn,hns]
     have htl:t.data.toList.length ≤ 65535:=by
      have h1:t.data.toList.length=t.size:=Array.length_toList
      rw [h1,ht,ByteArray.size_extract];omega
     have x0:w1.cell? ⟨p,0,none⟩=some (.string s):=(HB1.out.cell 0).trans rfl
     have x1:w1.cell? ⟨p,1,none⟩=some (.int .i64 n):=(HB1.out.cell 1).trans rfl
     have hpl1:=HB1.out.lt
     have HP:=Lib.hid (fun (W:World) (hW:Below w1.heap.size w1 W)=>parse_at ((HEN.out w1 HBW1.out).below (hW.mono (Nat.le_trans hCB hB1s))) t htz)
     clear ht htz
     go_upto_region 7 with fail
     cases hpf:parseF t.data.toList with
     | error y =>
      have hpl2:=parseF_place hpf
      have hy0:=parseF_err hpf
      have HR:Hid (progR x s a f=.error (y.1,f + y.2)):=Lib.hid (progR_bad HN16.out HDN.out hpf)
      rw [hpf] at HP
      have q3:(((y.1:Nat):Int) != 0)=true:=by simp;omega
      have zz:IntKind.i64.wrap ((f:Int) + (y.2:Int))=(f:Int) + (y.2:Int):=by rw [IntKind.wrap_i64];omega
      have HP':Hid (∀ W,Below w1.heap.size w1 W→Calls Tryz.prog 110 #[.string t] W fun e w'=>e=.returned (.tuple #[.string ⟨#[]⟩,.int .i64 y.1,.int .i64 y.2])∧Below W.heap.size W w'):=Lib.hid HP.out
      clear hpf hpl2 hy0 HP
      go_cut [5,6,7] from 41 to 55 (fun v5 v6 v7 wc=>v5=.string ⟨#[]⟩∧v6=.int .i64 y.1∧v7=.int .i64 y.2∧Below w1.heap.size w1 wc)
      case first =>
       go_region_with (go_at_call 110;refine (HP'.out _ (by first | exact (Below.refl _ _).drew | exact Below.refl _ _)).mono ?_;rintro e w2 ⟨rfl,hb2⟩)
       all_goals (go_wp2_with fail)
       all_goals go_meet
       all_goals exact ⟨rfl,rfl,rfl,(by first | exact ((Below.refl _ w1).drew).trans hb2 | exact hb2)⟩
      case rest =>
       obtain ⟨rfl,rfl,rfl,hb2'⟩:=hcut
       obtain ⟨w2,rfl⟩:∃ w',w'=wc:=⟨_,rfl⟩
       have HB2:=Lib.hid (HB1.out.below hb2' hpl1)
       have HW2:Hid (Below B w w2):=Lib.hid (HBW1.out.trans (hb2'.mono hB1s))
       have hB2s:B ≤ w2.heap.size:=Nat.le_trans hB1s hb2'.size
       have HFX:=fails_any s p n (i + 1) x.set.cfg rv (.slice Rp x.set.progs.length cp) tv lv x.steps 0 y.1 (f + y.2) w2 HB2.out
       simp only [Int.natCast_add] at HFX
       have HF:=Lib.hid HFX
       clear hb2' HFX
       go_wp2_with (go_at_call 17;refine HF.out.mono ?_;rintro e w3 ⟨rfl,hF,hB⟩)
       go_end0
       rw [HR.out]
       exact ⟨rfl,HW2.out.trans (below_of_frm hF hB2s hBp),_,_,_,_,_,_,_,_,_,hB⟩
     | ok L2 =>
      have HR:Hid (progR x s a f=.ok ({ x with set:={ x.set with progs:=x.set.progs ++ [bytesOf L2] } },i + 1)):=Lib.hid (by
       rw [progR_ok HN16.out HDN.out hpf,List.length_drop,Array.length_toList]
       have:s.data.size=s.size:=rfl
       rw [show s.size - (s.data.size - (i + 1))=i + 1 by omega])
      rw [hpf] at HP
      obtain ⟨o,ho⟩:∃ o:ByteArray,o=⟨(bytesOf L2).toArray⟩:=⟨_,rfl⟩
      have HP':Hid (∀ W,Below w1.heap.size w1 W→Calls Tryz.prog 110 #[.string t] W fun e w'=>e=.returned (.tuple #[.string o,.int .i64 0,.int .i64 0])∧Below W.heap.size W w'):=Lib.hid (by rw [ho];exact HP.out)
      have HO:=Lib.hid ho
      clear hpf HP ho
      go_cut [5,6,7] from 41 to 55 (fun v5 v6 v7 wc=>v5=.string o∧v6=.int .i64 0∧v7=.int .i64 0∧Below w1.heap.size w1 wc)
      case first =>
       go_region_with (go_at_call 110;refine (HP'.out _ (by first | exact (Below.refl _ _).drew | exact Below.refl _ _)).mono ?_;rintro e w2 ⟨rfl,hb2⟩)
       all_goals (go_wp2_with fail)
       all_goals go_meet
       all_goals exact ⟨rfl,rfl,rfl,(by first | exact ((Below.refl _ w1).drew).trans hb2 | exact hb2)⟩
      case rest =>
       obtain ⟨rfl,rfl,rfl,hb2'⟩:=hcut
       obtain ⟨wf,rfl⟩:∃ w',w'=wc:=⟨_,rfl⟩
       have HBL:=Lib.hid (HB1.out.below hb2' hpl1)
       have HS2:=Lib.hid (HS1.out.below hb2')
       have HW2:Hid (Below B w wf):=Lib.hid (HBW1.out.trans (hb2'.mono hB1s))
       have hBf:B ≤ wf.heap.size:=Nat.le_trans hB1s hb2'.size
       have x10':wf.cell? ⟨p,10,none⟩=some (.slice Rp x.set.progs.length cp):=(HBL.out.cell 10).trans rfl
       have hqf:=HBL.out.lt
       obtain ⟨i0,hi',hz0,hz1,hz2⟩:=info_parts info_str
       have hc3:x.set.progs.length + 1 ≤ maxLen:=by unfold maxLen;omega
       have hc4:(x.set.progs.length + 1) * 16 ≤ 140737488355328:=by omega
       have HA:Hid (Below wf.heap.size wf (wf.alloc (.cells #[.string o] 9))):=Lib.hid ((Below.refl _ _).alloc (Nat.le_refl _) _)
       have hc2:∀ u ∈ ([.string o]:List Value),u.oneCell'=true:=by intro u hu;simp at hu;subst hu;rfl
       have hc5:B ≤ (wf.alloc (.cells #[.string o] 9)).heap.size:=by simp;omega
       clear hb2'
       go_wp2_with (at_builtin;go_must (refine wpList_append_lies _ rfl _ _ 26 rfl B 9 i0 (.string ⟨#[]⟩) 1 16 Tryz.underlying26 (by assumption) hz0 hz1 hz2 rfl (by decide) (.slice Rp x.set.progs.length cp) x.set.progs.length (rows stC x.set.progs) rfl (HS2.out.progs.alloc _) ⟨wf.heap.size,0,none⟩ 1 1 [.string o] rfl rfl (World.news_of_block (cs:=#[.string o]) (t:=9) (fr:=(0,0)) (by simpa using heap_alloc_new wf (.cells #[.string o] 9))) hc2 (by omega) hc3 hc4 hc5 (wf.heap.size + 1) (by simp) ?_;intro gg c' w2 hown2 hg2 hat hlt2;have hR3:=blk_past HBL.out (HS2.out.progs) oth_rd.b HA.out hg2;have m6:w2.cell? ⟨p,10,none⟩=some (.slice Rp x.set.progs.length cp):=(hR3.cell 10).trans rfl;have f6:w2.frozen? ⟨p,10,none⟩=false:=hR3.frozen 10;have hl3:=hR3.lt))
       go_end0
       rw [HR.out]
       obtain ⟨k1,k2,k3⟩:=HS2.out.put_program HBL.out oth_rd hBf hBp HA.out hg2 (bytesOf L2) (by rw [HO.out] at hown2;exact hown2) 10
       exact ⟨rfl,HW2.out.trans k3,n,_,_,_,_,_,_,k1,k2⟩
    ·have q2:(l.toList == [101,110,100])=false:=str_no hend
     have HNX:Hid (Body s f (i + 1)):=Lib.hid (HBD.out.next hfn HE.out.1 HE.out.2.1 HE.out.2.2.1 HE.out.2.2.2 (by rw [← HLL.out];exact hend))
     clear hend
     go_wp2
     go_roundg (s.size - (i + 1))
     case measure=>have:=HG.out;omega
     case rel=>exact ⟨i + 1,n,by omega,by omega,by omega,HNX.out,HB1.out,HS1.out,HBW1.out,hB1s⟩
   ·have HLN:=Lib.hid (line_miss hs hns hno p a' x.set.cfg rv (.slice Rp x.set.progs.length cp) tv lv x.steps 0 0 wr hbk)
    have HR:Hid (progR x s a f=.error (9,s.size)):=Lib.hid (progR_none HN16.out (HBD.out.none_ hno))
    clear hno hbk
    go_upto_region 4 with (go_at_call 42;refine HLN.out.mono ?_;rintro e w1 ⟨rfl,hF1,hB1⟩;have HF1:=Lib.hid hF1;have HB1:=Lib.hid hB1;clear hF1 hB1)
    have x0:w1.cell? ⟨p,0,none⟩=some (.string s):=(HB1.out.cell 0).trans rfl
    have hpl1:=HB1.out.lt
    have HF:=Lib.hid (fails_any s p n n x.set.cfg rv (.slice Rp x.set.progs.length cp) tv lv x.steps 0 9 s.size w1 HB1.out)
    have HBW1:Hid (Below B w w1):=Lib.hid (HBW.out.trans (below_of_frm HF1.out hBr hBp))
    have hB1s:B ≤ w1.heap.size:=Nat.le_trans hBr HF1.out.size
    go_wp2_with (go_at_call 17;refine HF.out.mono ?_;rintro e w2 ⟨rfl,hF,hB⟩)
    go_end0
    rw [HR.out]
    exact ⟨rfl,HBW1.out.trans (below_of_frm hF hB1s hBp),_,_,_,_,_,_,_,_,_,hB⟩
end Go.Proofs.YtiheggkkgbfndaaGreatDoor
namespace Go.Proofs.YtiheggkkgbfndaaGreatDoor
open Go Go.Lib
set_option linter.unusedVariables false
set_option linter.unusedSimpArgs false
theorem cutAt_at (c:UInt8):∀ (t:List UInt8) (i:Nat),(∀ j:Nat,j < i→t[j]? ≠ some c)→t[i]?=some c→cutAt c t=some (t.take i,t.drop (i + 1))
 | [],i,_,h=>by cases h
 | b :: t,0,_,h=>by
  have hc:b=c:=by simpa using h
  rw [cutAt,if_pos hc]
  rfl
 | b :: t,i + 1,hj,h=>by
  have hc:b ≠ c:=fun e=>hj 0 (by omega) (by rw [e];rfl)
  rw [cutAt,if_neg hc,cutAt_at c t i (fun j h1 h2=>hj (j + 1) (by omega) (by simpa using h2)) (by simpa using h)]
  rfl
theorem cutAt_no (c:UInt8):∀ (t:List UInt8),(∀ j:Nat,t[j]? ≠ some c)→cutAt c t=none
 | [],_=>rfl
 | b :: t,hj=>by
  have hc:b ≠ c:=fun e=>hj 0 (by rw [e];rfl)
  rw [cutAt,if_neg hc,cutAt_no c t fun j h=>hj (j + 1) (by simpa using h)]
  rfl
theorem cut_hit (s:ByteArray) (i:Nat) (hi:i < s.size) (h:s.get! i=42) (hb:∀ j,j < i→s.get! j ≠ 42):cutAt 42 s.data.toList=some ((s.extract 0 i).data.toList,(s.extract (i + 1) s.size).data.toList):=by
 rw [cutAt_at 42 s.data.toList i (fun j hj he=>by
  rw [gets s j (by omega)] at he
  injection he with he
  exact hb j hj he) (by rw [gets s i hi,h]),exts,exts,List.drop_zero,show s.data.toList.take s.size=s.data.toList from List.take_of_length_le (by rw [Array.length_toList];exact Nat.le_refl _)]
theorem cut_miss (s:ByteArray) (hb:∀ j,j < s.size→s.get! j ≠ 42):cutAt 42 s.data.toList=none:=by
 refine cutAt_no 42 _ fun j he=>?_
 have hlt:j < s.size:=by
  have:=(List.getElem?_eq_some_iff.1 he).1
  rw [Array.length_toList] at this
  exact this
 rw [gets s j hlt] at he
 injection he with he
 exact hb j hlt he
end Go.Proofs.YtiheggkkgbfndaaGreatDoor
namespace Go.Proofs.YtiheggkkgbfndaaGreatDoor
open Go.RowKit Go.Joins Go.ChangeShapes Go.WideShapes Go.Deep
set_option linter.unusedVariables false
set_option linter.unusedSimpArgs false
set_option maxRecDepth 100000
def itemN (s:List UInt8):Option (Nat × Nat):=match cutAt 42 s with
 | none=>(match natF s with | some n=>if n ≤ 99 then some (n,1) else none | none=>none)
 | some (a,b)=>match natF a,natF b with
  | some n,some k=>if n ≤ 99∧2 ≤ k∧k ≤ 20000 then some (n,k) else none
  | _,_=>none
def ItemPost (s:ByteArray) (w:World) (e:Ending) (w':World):Prop:=w'=w∧∃ (t n:Nat) (b:Bool),e=.returned (.tuple #[.int .i64 t,.int .i64 n,.bool b])∧b=(itemN s.data.toList).isSome∧∀ x,itemN s.data.toList=some x→x=(t,n)
def StarAt (s:ByteArray) (i:Nat) (v:Value):Prop:=(v=.int .i64 (-1)∧∀ j,j < i→s.get! j ≠ 42) ∨ ∃ k:Nat,v=.int .i64 k∧k < i∧s.get! k=42∧∀ j,j < k→s.get! j ≠ 42
set_option maxHeartbeats 2000000 in
theorem ritem_any (s:ByteArray) (hs:s.size ≤ 65535) (w:World):Calls Tryz.prog 89 #[.string s] w (ItemPost s w):=by
 have HN:=Lib.hid (rNumber_any s w (by omega))
 go_enter Tryz.func89,Tryz.ntmps89
 go_wp2
 go_loopg [5,6] s.size (fun gk sv iv wr=>∃ i:Nat,iv=.int .i64 i∧i ≤ s.size∧gk=s.size - i∧wr=w∧StarAt s i sv)
 case atStart=>exact ⟨0,rfl,Nat.zero_le _,rfl,rfl,.inl ⟨rfl,fun j h=>absurd h (by omega)⟩⟩
 case round =>
  obtain ⟨i,rfl,hi,hgk,rfl,hst⟩:=hrel
  have HG:=Lib.hid hgk
  clear hgk
  by_cases hil:i < s.size
  ·have e1:decide ((i:Int) < (s.size:Int))=true:=decide_eq_true (by omega)
   have e2:decide (i < s.size)=true:=decide_eq_true hil
   have hgi:s.get! i=s[i]'hil:=by have:=get_at s i hil;rwa [Nat.add_zero] at this
   have zw:IntKind.i64.wrap ((i:Int) + 1)=(i:Int) + 1:=by rw [IntKind.wrap_i64];omega
   by_cases h42:s[i]'hil=42
   ·have q42:(((s[i]'hil).toNat:Int) == 42)=true:=by rw [h42];rfl
    have HT:Hid (s.get! i=42):=Lib.hid (by rw [hgi,h42])
    clear hgi h42
    rcases hst with ⟨rfl,hno⟩ | ⟨k,rfl,hk,hk2,hk3⟩
    ·have HNO:=Lib.hid hno
     clear hno
     go_wp2
     go_roundg (s.size - (i + 1))
     case measure=>have:=HG.out;omega
     case rel=>exact ⟨i + 1,by simp,by omega,rfl,rfl,.inr ⟨i,rfl,by omega,HT.out,HNO.out⟩⟩
    ·have HK:=Lib.hid (And.intro hk2 hk3)
     clear hk2 hk3
     have n0:decide ((k:Int) < 0)=false:=decide_eq_false (by omega)
     go_wp2
     go_roundg (s.size - (i + 1))
     case measure=>have:=HG.out;omega
     case rel=>exact ⟨i + 1,by simp,by omega,rfl,rfl,.inr ⟨k,rfl,by omega,HK.out.1,HK.out.2⟩⟩
   ·have q42:(((s[i]'hil).toNat:Int) == 42)=false:=by
     rw [beq_eq_false_iff_ne]
     intro e
     exact h42 (UInt8.toNat_inj.1 (by show _=42;omega))
    have HT:Hid (s.get! i ≠ 42):=Lib.hid (by rw [hgi];exact h42)
    have HST:=Lib.hid hst
    clear hgi h42 hst
    go_wp2
    go_roundg (s.size - (i + 1))
    case measure=>have:=HG.out;omega
    case rel =>
     refine ⟨i + 1,by simp,by omega,rfl,rfl,?_⟩
     rcases HST.out with ⟨rfl,hno⟩ | ⟨k,rfl,hk,hk2,hk3⟩
     ·refine .inl ⟨rfl,fun j hj=>?_⟩
      rcases Nat.lt_or_ge j i with h3 | h3
      ·exact hno j h3
      ·have:j=i:=by omega
       subst this
       exact HT.out
     ·exact .inr ⟨k,rfl,by omega,hk2,hk3⟩
  ·have e1:decide ((i:Int) < (s.size:Int))=false:=decide_eq_false (by omega)
   have e2:decide (i < s.size)=false:=decide_eq_false hil
   have hie:i=s.size:=by omega
   rcases hst with ⟨rfl,hno⟩ | ⟨k,rfl,hk,hk2,hk3⟩
   ·have HI:Hid (itemN s.data.toList=match natF s.data.toList with | some n=>if n ≤ 99 then some (n,1) else none | none=>none):=Lib.hid (by unfold itemN;rw [cut_miss s fun j hj=>hno j (by omega)])
    clear hno hie
    go_upto_region 9 with (go_at_call 51;refine HN.out.mono ?_;rintro e w1 ⟨hw,m,hm64,rfl,hmv⟩;obtain rfl:=hw.symm)
    have HM:=Lib.hid hm64
    cases hq:natF s.data.toList with
    | none =>
     have HE:Hid (itemN s.data.toList=none):=Lib.hid (by rw [HI.out,hq])
     simp only [Option.isSome_none]
     clear hq hmv hm64
     go_wp2
     go_ret3
     exact ⟨rfl,m,1,false,rfl,by rw [HE.out];rfl,fun x hx=>by rw [HE.out] at hx;cases hx⟩
    | some m' =>
     obtain rfl:=hmv m' hq
     simp only [Option.isSome_some]
     by_cases h99:m' ≤ 99
     ·have HE:Hid (itemN s.data.toList=some (m',1)):=Lib.hid (by rw [HI.out,hq];simp only;rw [if_pos h99])
      have q0:decide ((m':Int) ≤ 99)=true:=decide_eq_true (by omega)
      have q1:decide (m' ≤ 99)=true:=decide_eq_true h99
      clear hq hmv hm64 h99
      go_wp2
      go_ret3
      exact ⟨rfl,m',1,true,rfl,by rw [HE.out];rfl,fun x hx=>by rw [HE.out] at hx;injection hx with hx;exact hx.symm⟩
     ·have HE:Hid (itemN s.data.toList=none):=Lib.hid (by rw [HI.out,hq];simp only;rw [if_neg h99])
      have q0:decide ((m':Int) ≤ 99)=false:=decide_eq_false (by omega)
      have q1:decide (m' ≤ 99)=false:=decide_eq_false h99
      clear hq hmv hm64 h99
      go_wp2
      go_ret3
      exact ⟨rfl,m',1,false,rfl,by rw [HE.out];rfl,fun x hx=>by rw [HE.out] at hx;cases hx⟩
   ·have HI:Hid (itemN s.data.toList=match natF (s.extract 0 k).data.toList,natF (s.extract (k + 1) s.size).data.toList with | some n,some m=>if n ≤ 99∧2 ≤ m∧m ≤ 20000 then some (n,m) else none | _,_=>none):=Lib.hid (by unfold itemN;rw [cut_hit s k (by omega) hk2 hk3])
    have HA:=Lib.hid (rNumber_any (s.extract 0 k) wr (by rw [ByteArray.size_extract];omega))
    have HB:=Lib.hid (rNumber_any (s.extract (k + 1) s.size) wr (by rw [ByteArray.size_extract];omega))
    unfold NatPost at HA HB
    obtain ⟨oa,hoa⟩:∃ oa,oa=natF (s.extract 0 k).data.toList:=⟨_,rfl⟩
    obtain ⟨ob,hob⟩:∃ ob,ob=natF (s.extract (k + 1) s.size).data.toList:=⟨_,rfl⟩
    rw [← hoa] at HA HI
    rw [← hob] at HB HI
    clear hoa hob
    have n0:decide ((k:Int) < 0)=false:=decide_eq_false (by omega)
    have i3:(k:Int) ≤ (s.size:Int):=by omega
    have i4:(k:Int) + 1 ≤ (s.size:Int):=by omega
    have zw:IntKind.i64.wrap ((k:Int) + 1)=(k:Int) + 1:=by rw [IntKind.wrap_i64];omega
    clear hk2 hk3 hie
    go_upto_region 11 with (go_at_call 51;refine HA.out.mono ?_;rintro e w1 ⟨hw,ma,hma,rfl,hva⟩;obtain rfl:=hw.symm)
    go_upto_region 12 with (go_at_call 51;refine HB.out.mono ?_;rintro e w1 ⟨hw,mb,hmb,rfl,hvb⟩;obtain rfl:=hw.symm)
    have HMA:=Lib.hid (And.intro hma hmb)
    cases oa with
    | none =>
     have HE:Hid (itemN s.data.toList=none):=Lib.hid (by rw [HI.out])
     (try simp only [Option.isSome_none])
     clear hva hvb hma hmb
     go_wp2
     go_ret3
     exact ⟨rfl,ma,mb,false,rfl,by rw [HE.out];rfl,fun x hx=>by rw [HE.out] at hx;cases hx⟩
    | some na =>
     obtain rfl:=hva na rfl
     (try simp only [Option.isSome_some])
     cases ob with
     | none =>
      have HE:Hid (itemN s.data.toList=none):=Lib.hid (by rw [HI.out])
      (try simp only [Option.isSome_none])
      clear hva hvb hma hmb
      go_wp2
      go_ret3
      exact ⟨rfl,na,mb,false,rfl,by rw [HE.out];rfl,fun x hx=>by rw [HE.out] at hx;cases hx⟩
     | some nb =>
      obtain rfl:=hvb nb rfl
      (try simp only [Option.isSome_some])
      have HE0:Hid (itemN s.data.toList=if na ≤ 99∧2 ≤ nb∧nb ≤ 20000 then some (na,nb) else none):=Lib.hid (by rw [HI.out])
      clear hva hvb hma hmb
      by_cases h99:na ≤ 99
      ·have q0:decide ((na:Int) ≤ 99)=true:=decide_eq_true (by omega)
       have q1:decide (na ≤ 99)=true:=decide_eq_true h99
       by_cases h2:2 ≤ nb
       ·have q2:decide ((2:Int) ≤ (nb:Int))=true:=decide_eq_true (by omega)
        have q3:decide (2 ≤ nb)=true:=decide_eq_true h2
        by_cases h20:nb ≤ 20000
        ·have q4:decide ((nb:Int) ≤ 20000)=true:=decide_eq_true (by omega)
         have q5:decide (nb ≤ 20000)=true:=decide_eq_true h20
         have HE:Hid (itemN s.data.toList=some (na,nb)):=Lib.hid (by rw [HE0.out,if_pos ⟨h99,h2,h20⟩])
         clear h99 h2 h20
         go_wp2
         go_ret3
         exact ⟨rfl,na,nb,true,rfl,by rw [HE.out];rfl,fun x hx=>by rw [HE.out] at hx;injection hx with hx;exact hx.symm⟩
        ·have q4:decide ((nb:Int) ≤ 20000)=false:=decide_eq_false (by omega)
         have q5:decide (nb ≤ 20000)=false:=decide_eq_false h20
         have HE:Hid (itemN s.data.toList=none):=Lib.hid (by rw [HE0.out,if_neg fun h=>h20 h.2.2])
         clear h99 h2 h20
         go_wp2
         go_ret3
         exact ⟨rfl,na,nb,false,rfl,by rw [HE.out];rfl,fun x hx=>by rw [HE.out] at hx;cases hx⟩
       ·have q2:decide ((2:Int) ≤ (nb:Int))=false:=decide_eq_false (by omega)
        have q3:decide (2 ≤ nb)=false:=decide_eq_false h2
        have HE:Hid (itemN s.data.toList=none):=Lib.hid (by rw [HE0.out,if_neg fun h=>h2 h.2.1])
        clear h99 h2
        go_wp2
        go_ret3
        exact ⟨rfl,na,nb,false,rfl,by rw [HE.out];rfl,fun x hx=>by rw [HE.out] at hx;cases hx⟩
      ·have q0:decide ((na:Int) ≤ 99)=false:=decide_eq_false (by omega)
       have q1:decide (na ≤ 99)=false:=decide_eq_false h99
       have HE:Hid (itemN s.data.toList=none):=Lib.hid (by rw [HE0.out,if_neg fun h=>h99 h.1])
       clear h99
       go_wp2
       go_ret3
       exact ⟨rfl,na,nb,false,rfl,by rw [HE.out];rfl,fun x hx=>by rw [HE.out] at hx;cases hx⟩
end Go.Proofs.YtiheggkkgbfndaaGreatDoor
