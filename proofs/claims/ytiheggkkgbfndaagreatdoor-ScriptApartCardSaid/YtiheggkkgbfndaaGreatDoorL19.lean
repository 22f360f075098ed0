/- asm's operand: a number. -/
import Derived.Test.YtiheggkkgbfndaaGreatDoorL18
import Derived.Deep.QuietTactic
import Derived.BigQuiet
import Derived.Test.YtiheggkkgbfndaaGreatDoorL08
import Derived.Test.YtiheggkkgbfndaaGreatDoorL05
import Derived.StringKeys
namespace Go.Proofs.YtiheggkkgbfndaaGreatDoor
open Go.RowKit Go.Joins Go.ChangeShapes Go.WideShapes Go.Deep
set_option linter.unusedVariables false
set_option linter.unusedSimpArgs false
set_option maxRecDepth 100000
set_option maxHeartbeats 4000000 in
theorem operand_some {B:Nat} {w:World} (hE:EnvP B w) (c:Nat) (hc:c < 41) (p:Nat) (t:Tok) (ht:t.s.length ≤ 4294967296) (b:Nat) (hb:Blk w b 204 (insC c 0 p noTok)) (n:Int) (hbB:B ≤ b) (hnum:numF t.s=some n) :
  Calls Tryz.prog 171 #[.pointer (some ⟨b,0,none⟩),.agg #[.string ⟨t.s.toArray⟩,.int .i64 t.pos]] w (OprPost w b c p t):=by
 obtain ⟨s,hs⟩:∃ s:ByteArray,s=⟨t.s.toArray⟩:=⟨_,rfl⟩
 have hsl:s.data.toList=t.s:=by rw [hs]
 have hsz:s.size=t.s.length:=by rw [hs];show t.s.toArray.size=_;simp
 obtain ⟨w0,hw0⟩:∃ w0,w0=w.alloc (.cells #[.string s,.int .i64 t.pos] 202):=⟨_,rfl⟩
 have hb0:Below w.heap.size w w0:=hw0 ▸ (Below.refl _ _).alloc (Nat.le_refl _) _
 have hE0:=hE.below (hb0.mono hE.size)
 have HP:=Lib.hid (pint_any hE0 s (by omega))
 rw [← hs]
 have HS:=Lib.hid hs
 have HSL:=Lib.hid hsl
 have hsl':s.data.toList=t.s:=hsl
 have hsz2:s.size ≤ 4294967296:=by omega
 clear hs hsl hsz
 have hblt:=hb.lt
 have hx0:∀ (W:World),Below w.heap.size w W→W.cell? ⟨b,0,none⟩=some (.int .i64 c):=fun W h=>(h.cell (p:=⟨b,0,none⟩) hblt).trans ((hb.cell 0).trans rfl)
 have HX:=Lib.hid hx0
 have HX2:Hid (∀ (W:World),Below w.heap.size w W→Blk W b 204 (insC c 0 p noTok)):=Lib.hid fun W h=>hb.below h hblt
 clear hx0
 have hpn:=(prog_num t.s n).2 hnum
 have hv:Go.Lib.parseIntB 64 s.data.toList=.ok n:=by rw [hsl'];exact hpn.1
 obtain ⟨v,hvn⟩:∃ v,v=n:=⟨_,rfl⟩
 rw [← hvn] at hv hpn hnum
 have hv64:i64ok v:=by have:=Go.Lib.parseIntB_bounds hv;unfold i64ok;omega
 have HPN:Hid (Calls Tryz.prog 77 #[.string s,.int .i64 10,.int .i64 64] w0 fun e w'=>Below w0.heap.size w0 w'∧e=.returned (.tuple #[.int .i64 v,.nilIface])):=Lib.hid (HP.out.mono fun e w' h=>⟨h.1,by
  rcases h.2 with ⟨v',_,h2,h3⟩ | ⟨h2,_⟩
  ·rw [hv] at h2;injection h2 with h2;rw [h2];exact h3
  ·exact absurd hv (h2 v)⟩)
 have HFI0:=Lib.hid (fun (W:World) (hW:Below w.heap.size w W)=>formatInt_any (hE.below (hW.mono hE.size)).env v hv64)
 obtain ⟨s2,hs2e⟩:∃ s2:ByteArray,s2=⟨(Go.Lib.itoa v).toArray⟩:=⟨_,rfl⟩
 rw [← hs2e] at HFI0
 have HFI:=Lib.hid HFI0.out
 clear HFI0
 have HQ:Hid ((s2.toList == s.toList)=true):=Lib.hid (by
  rw [beq_iff_eq,ByteArray.toList_eq,ByteArray.toList_eq,HSL.out,hs2e]
  exact hpn.2)
 cases hf:fitsF (shapeF c) v
 ·have HO:Hid (oprL c t=.error 12):=Lib.hid (by unfold oprL;rw [hnum];simp [hf])
  have HENC:Hid (∀ W,ShapesAt W→Calls Tryz.prog 100 #[.slice (some ⟨W.heap.size,0,none⟩) 1 1] (W.alloc (.cells #[.int .i64 c,.int .i64 v] 113)) fun e w'=>e=.returned (.tuple #[.string ⟨#[]⟩,.int .i64 12,.int .i64 0])∧Below (W.heap.size + 1) (W.alloc (.cells #[.int .i64 c,.int .i64 v] 113)) w'):=Lib.hid fun W hS=>by
   have:=enc_no c v W.heap.size 1 1 (W.alloc (.cells #[.int .i64 c,.int .i64 v] 113)) (hS.below ((Below.refl _ _).alloc (Nat.le_refl _) _) hS.lt) ((reads_lit W c v).more (by simp)) hc hf
   simpa using this
  clear HP hv hnum hs2e hpn hE0 hf hvn
  rw [hw0] at HPN
  clear hw0 hb0
  go_enter Tryz.func171,Tryz.ntmps171
  go_upto_region 2 with (go_at_call 77;refine (HPN.out).mono ?_;rintro e w1 ⟨hb1,rfl⟩)
  have c0:w1.cell? ⟨b,0,none⟩=some (.int .i64 c):=HX.out w1 (((Below.refl _ _).alloc (Nat.le_refl _) _).trans (hb1.mono (by simp)))
  have k0:w1.cell? ⟨w.heap.size,0,none⟩=some (.string s):=(hb1.cell (p:=⟨w.heap.size,0,none⟩) (by simp)).trans (((Blk.new w _ _).cell 0).trans rfl)
  have k1:w1.cell? ⟨w.heap.size,1,none⟩=some (.int .i64 t.pos):=(hb1.cell (p:=⟨w.heap.size,1,none⟩) (by simp)).trans (((Blk.new w _ _).cell 1).trans rfl)
  have hz1:w.heap.size < w1.heap.size:=by have:=hb1.size;simp at this;omega
  have hz2:b < w1.heap.size:=by omega
  have KB1:Hid (Blk w1 w.heap.size 202 #[.string s,.int .i64 t.pos]):=Lib.hid ((Blk.new w _ _).below hb1 (by simp))
  have HB1:Hid (Below w.heap.size w w1):=Lib.hid (((Below.refl _ _).alloc (Nat.le_refl _) _).trans (hb1.mono (by simp)))
  clear hb1
  go_cut [23] from 24 to 65 (fun q wc=>q=.bool false∧Below w.heap.size w wc∧Below w1.heap.size w1 wc)
  case first =>
   go_region_with (go_at_call 70;refine (HFI.out _ (by first | exact HB1.out | exact HB1.out.drew)).mono ?_;rintro e w2 ⟨rfl,hb2⟩;have k0:w2.cell? ⟨w.heap.size,0,none⟩=some (.string s):=(hb2.cell (p:=⟨w.heap.size,0,none⟩) hz1).trans k0;have hz3:w.heap.size < w2.heap.size:=Nat.lt_of_lt_of_le hz1 hb2.size)
   all_goals (go_wp2_with fail)
   all_goals go_meet
   all_goals (refine ⟨?_,HB1.out.drew.trans (hb2.mono (Nat.le_of_lt hz1)),(Below.refl _ _).drew.trans hb2⟩)
   all_goals (show Value.bool (!(s2.toList == s.toList))=_;rw [HQ.out];rfl)
  case rest =>
   obtain ⟨rfl,hbc,hbd⟩:=hcut
   have c0:wc.cell? ⟨b,0,none⟩=some (.int .i64 c):=HX.out wc hbc
   have k0:wc.cell? ⟨w.heap.size,0,none⟩=some (.string s):=(hbd.cell (p:=⟨w.heap.size,0,none⟩) hz1).trans k0
   have k1:wc.cell? ⟨w.heap.size,1,none⟩=some (.int .i64 t.pos):=(hbd.cell (p:=⟨w.heap.size,1,none⟩) hz1).trans k1
   have hz3:w.heap.size < wc.heap.size:=Nat.lt_of_lt_of_le hz1 hbd.size
   have hz4:b < wc.heap.size:=by omega
   have KB:=Lib.hid (KB1.out.below hbd hz1)
   have HB1:=Lib.hid hbc
   clear hbc hbd
   have HBX:=HX2.out wc HB1.out
   have x1:(wc).cell? ⟨b,1,none⟩=some (.int .i64 0):=(HBX.cell 1).trans rfl
   have f1:(wc).frozen? ⟨b,1,none⟩=false:=HBX.frozen 1
   have HBY:=Lib.hid HBX
   have HSX:=Lib.hid ((hE.below (HB1.out.mono hE.size)).env.below (((Below.refl B _).setCell hbB (.int .i64 v):Below B wc ((wc).setCell ⟨b,1,none⟩ (.int .i64 v)))) (Nat.le_refl _)).here.shapes
   clear HBX
   go_upto_region 7 with fail
   obtain ⟨W1,hW1⟩:∃ W1,W1=(wc).setCell ⟨b,1,none⟩ (.int .i64 v):=⟨_,rfl⟩
   rw [← hW1] at HSX ⊢
   have HBZ:Blk W1 b 204 (insC c v p noTok):=hW1 ▸ HBY.out.set_ 1 (.int .i64 v)
   have hzs:W1.heap.size=(wc).heap.size:=by rw [hW1];simp [World.setCell]
   have KBZ:Blk W1 w.heap.size 202 #[.string s,.int .i64 t.pos]:=hW1 ▸ KB.out.far (p:=⟨b,1,none⟩) (Nat.ne_of_gt hblt) _
   have k1x:W1.cell? ⟨w.heap.size,1,none⟩=some (.int .i64 t.pos):=(KBZ.cell 1).trans rfl
   have y0:W1.cell? ⟨b,0,none⟩=some (.int .i64 c):=(HBZ.cell 0).trans rfl
   have y1:W1.cell? ⟨b,1,none⟩=some (.int .i64 v):=(HBZ.cell 1).trans rfl
   have hz5:w.heap.size < W1.heap.size:=by omega
   have hz6:b < W1.heap.size:=by omega
   have HF1:Hid (Frm w W1 (fun q=>q=b)):=Lib.hid (hW1 ▸ (Frm.of_below (S:=fun q=>q=b) HB1.out).set b 1 _ (.inl rfl))
   have HEN1:=Lib.hid (HENC.out W1 HSX.out)
   have HBW:=Lib.hid HBZ
   clear hW1 hzs c0 k0 k1 x1 f1 hz3 hz4 KBZ HBZ
   go_wp2_with (first | (go_at_call 100;refine HEN1.out.mono ?_;rintro e w3 ⟨rfl,hb3⟩;have k1:w3.cell? ⟨w.heap.size,1,none⟩=some (.int .i64 t.pos):=(hb3.cell (p:=⟨w.heap.size,1,none⟩) (Nat.lt_succ_of_lt hz5)).trans ((((Below.refl _ _).alloc (Nat.le_refl _) _).cell (p:=⟨w.heap.size,1,none⟩) hz5).trans k1x);have hb4:Below W1.heap.size W1 w3:=((Below.refl _ _).alloc (Nat.le_refl _) _).trans (hb3.mono (Nat.le_succ _));have HF4:Frm w w3 (fun q=>q=b):=HF1.out.trans (Frm.of_below (S:=fun _=>False) hb4) (fun q hq=>hq.elim)) | (go_at_call 139;refine (fail_any _ _ _).mono ?_;rintro r w2 ⟨hr,hw⟩;subst hr;subst hw))
   refine ⟨rfl,HF4,?_⟩
   rw [HO.out]
   rfl
 ·have HO:Hid (oprL c t=.ok (v,noTok)):=Lib.hid (by unfold oprL;rw [hnum];simp [hf])
  have HENC:Hid (∀ W,ShapesAt W→Calls Tryz.prog 100 #[.slice (some ⟨W.heap.size,0,none⟩) 1 1] (W.alloc (.cells #[.int .i64 c,.int .i64 v] 113)) fun e w'=>e=.returned (.tuple #[.string ⟨(bytesOf [⟨c,v⟩]).toArray⟩,.int .i64 0,.int .i64 0])∧Below (W.heap.size + 1) (W.alloc (.cells #[.int .i64 c,.int .i64 v] 113)) w'):=Lib.hid fun W hS=>by
   have:=enc_ok [⟨c,v⟩] (some ⟨W.heap.size,0,none⟩) 1 1 (W.alloc (.cells #[.int .i64 c,.int .i64 v] 113)) (hS.below ((Below.refl _ _).alloc (Nat.le_refl _) _) hS.lt) ((reads_lit W c v).more (by simp)) (by decide)
    (by intro o ho;obtain rfl:=List.mem_singleton.1 ho;exact ⟨hc,hf⟩) (by simp [bytesOf,encB_length];unfold widthF;split <;> (try split) <;> (try split) <;> omega)
   simpa using this
  clear HP hv hnum hs2e hpn hE0 hf hvn
  rw [hw0] at HPN
  clear hw0 hb0
  go_enter Tryz.func171,Tryz.ntmps171
  go_upto_region 2 with (go_at_call 77;refine (HPN.out).mono ?_;rintro e w1 ⟨hb1,rfl⟩)
  have c0:w1.cell? ⟨b,0,none⟩=some (.int .i64 c):=HX.out w1 (((Below.refl _ _).alloc (Nat.le_refl _) _).trans (hb1.mono (by simp)))
  have k0:w1.cell? ⟨w.heap.size,0,none⟩=some (.string s):=(hb1.cell (p:=⟨w.heap.size,0,none⟩) (by simp)).trans (((Blk.new w _ _).cell 0).trans rfl)
  have k1:w1.cell? ⟨w.heap.size,1,none⟩=some (.int .i64 t.pos):=(hb1.cell (p:=⟨w.heap.size,1,none⟩) (by simp)).trans (((Blk.new w _ _).cell 1).trans rfl)
  have hz1:w.heap.size < w1.heap.size:=by have:=hb1.size;simp at this;omega
  have hz2:b < w1.heap.size:=by omega
  have KB1:Hid (Blk w1 w.heap.size 202 #[.string s,.int .i64 t.pos]):=Lib.hid ((Blk.new w _ _).below hb1 (by simp))
  have HB1:Hid (Below w.heap.size w w1):=Lib.hid (((Below.refl _ _).alloc (Nat.le_refl _) _).trans (hb1.mono (by simp)))
  clear hb1
  go_cut [23] from 24 to 65 (fun q wc=>q=.bool false∧Below w.heap.size w wc∧Below w1.heap.size w1 wc)
  case first =>
   go_region_with (go_at_call 70;refine (HFI.out _ (by first | exact HB1.out | exact HB1.out.drew)).mono ?_;rintro e w2 ⟨rfl,hb2⟩;have k0:w2.cell? ⟨w.heap.size,0,none⟩=some (.string s):=(hb2.cell (p:=⟨w.heap.size,0,none⟩) hz1).trans k0;have hz3:w.heap.size < w2.heap.size:=Nat.lt_of_lt_of_le hz1 hb2.size)
   all_goals (go_wp2_with fail)
   all_goals go_meet
   all_goals (refine ⟨?_,HB1.out.drew.trans (hb2.mono (Nat.le_of_lt hz1)),(Below.refl _ _).drew.trans hb2⟩)
   all_goals (show Value.bool (!(s2.toList == s.toList))=_;rw [HQ.out];rfl)
  case rest =>
   obtain ⟨rfl,hbc,hbd⟩:=hcut
   have c0:wc.cell? ⟨b,0,none⟩=some (.int .i64 c):=HX.out wc hbc
   have k0:wc.cell? ⟨w.heap.size,0,none⟩=some (.string s):=(hbd.cell (p:=⟨w.heap.size,0,none⟩) hz1).trans k0
   have k1:wc.cell? ⟨w.heap.size,1,none⟩=some (.int .i64 t.pos):=(hbd.cell (p:=⟨w.heap.size,1,none⟩) hz1).trans k1
   have hz3:w.heap.size < wc.heap.size:=Nat.lt_of_lt_of_le hz1 hbd.size
   have hz4:b < wc.heap.size:=by omega
   have KB:=Lib.hid (KB1.out.below hbd hz1)
   have HB1:=Lib.hid hbc
   clear hbc hbd
   have HBX:=HX2.out wc HB1.out
   have x1:(wc).cell? ⟨b,1,none⟩=some (.int .i64 0):=(HBX.cell 1).trans rfl
   have f1:(wc).frozen? ⟨b,1,none⟩=false:=HBX.frozen 1
   have HBY:=Lib.hid HBX
   have HSX:=Lib.hid ((hE.below (HB1.out.mono hE.size)).env.below (((Below.refl B _).setCell hbB (.int .i64 v):Below B wc ((wc).setCell ⟨b,1,none⟩ (.int .i64 v)))) (Nat.le_refl _)).here.shapes
   clear HBX
   go_upto_region 7 with fail
   obtain ⟨W1,hW1⟩:∃ W1,W1=(wc).setCell ⟨b,1,none⟩ (.int .i64 v):=⟨_,rfl⟩
   rw [← hW1] at HSX ⊢
   have HBZ:Blk W1 b 204 (insC c v p noTok):=hW1 ▸ HBY.out.set_ 1 (.int .i64 v)
   have hzs:W1.heap.size=(wc).heap.size:=by rw [hW1];simp [World.setCell]
   have KBZ:Blk W1 w.heap.size 202 #[.string s,.int .i64 t.pos]:=hW1 ▸ KB.out.far (p:=⟨b,1,none⟩) (Nat.ne_of_gt hblt) _
   have k1x:W1.cell? ⟨w.heap.size,1,none⟩=some (.int .i64 t.pos):=(KBZ.cell 1).trans rfl
   have y0:W1.cell? ⟨b,0,none⟩=some (.int .i64 c):=(HBZ.cell 0).trans rfl
   have y1:W1.cell? ⟨b,1,none⟩=some (.int .i64 v):=(HBZ.cell 1).trans rfl
   have hz5:w.heap.size < W1.heap.size:=by omega
   have hz6:b < W1.heap.size:=by omega
   have HF1:Hid (Frm w W1 (fun q=>q=b)):=Lib.hid (hW1 ▸ (Frm.of_below (S:=fun q=>q=b) HB1.out).set b 1 _ (.inl rfl))
   have HEN1:=Lib.hid (HENC.out W1 HSX.out)
   have HBW:=Lib.hid HBZ
   clear hW1 hzs c0 k0 k1 x1 f1 hz3 hz4 KBZ HBZ
   go_wp2_with (first | (go_at_call 100;refine HEN1.out.mono ?_;rintro e w3 ⟨rfl,hb3⟩;have k1:w3.cell? ⟨w.heap.size,1,none⟩=some (.int .i64 t.pos):=(hb3.cell (p:=⟨w.heap.size,1,none⟩) (Nat.lt_succ_of_lt hz5)).trans ((((Below.refl _ _).alloc (Nat.le_refl _) _).cell (p:=⟨w.heap.size,1,none⟩) hz5).trans k1x);have hb4:Below W1.heap.size W1 w3:=((Below.refl _ _).alloc (Nat.le_refl _) _).trans (hb3.mono (Nat.le_succ _));have HF4:Frm w w3 (fun q=>q=b):=HF1.out.trans (Frm.of_below (S:=fun _=>False) hb4) (fun q hq=>hq.elim)) | (go_at_call 139;refine (fail_any _ _ _).mono ?_;rintro r w2 ⟨hr,hw⟩;subst hr;subst hw))
   go_end0
   refine ⟨HF4,?_⟩
   rw [HO.out]
   exact ⟨rfl,HBW.out.below hb4 hz6⟩
theorem operand_asm {B:Nat} {w:World} (hE:EnvP B w) (c:Nat) (hc:c < 41) (p:Nat) (t:Tok) (ht:t.s.length ≤ 4294967296) (b:Nat) (hbB:B ≤ b) (hb:Blk w b 204 (insC c 0 p noTok)) :
  Calls Tryz.prog 171 #[.pointer (some ⟨b,0,none⟩),.agg #[.string ⟨t.s.toArray⟩,.int .i64 t.pos]] w (OprPost w b c p t):=by
 cases hnum:numF t.s with
 | none=>exact operand_none hE c hc p t ht b hb hnum
 | some n=>exact operand_some hE c hc p t ht b hb n hbB hnum
end Go.Proofs.YtiheggkkgbfndaaGreatDoor
namespace Go.Proofs.YtiheggkkgbfndaaGreatDoor
open Go.RowKit Go.Joins Go.ChangeShapes Go.WideShapes Go.Deep Go.Maps
set_option linter.unusedVariables false
set_option linter.unusedSimpArgs false
set_option maxRecDepth 100000
theorem str_key {s:ByteArray} (h:s.size ≤ maxLen):keyOf Tryz.prog 9 (.string s)=some (.string s.data.toList):=Go.WideMaps.keyOf_string_mk Tryz.underlying9 h
theorem str_law:Keyed Tryz.prog 9:=string_keyed Tryz.underlying9
noncomputable def RI:Value→Option (DataW Unit × List MemPlace):=plainElem Tryz.prog 3
def SMap (w:World) (b n:Nat) (F:List UInt8→Option Nat):Prop :=
 ∃ D,w.ownsMap Tryz.prog 9 RI b n D∧IsMap D∧∀ s:List UInt8,s.length ≤ maxLen→Maps.has D (.string s)=(F s).isSome∧D.atKey (.string s) (.lit (.int .i64 0))=.lit (.int .i64 (((F s).getD 0:Nat):Int))
theorem SMap.made (w:World):SMap (w.alloc (.map #[] 0)) w.heap.size 0 (fun _=>none):=⟨_,World.ownsMap_made w _ _ _,isMap_empty,fun _ _=>⟨rfl,rfl⟩⟩
theorem SMap.look {w:World} {b n:Nat} {F:List UInt8→Option Nat} (h:SMap w b n F) (s:ByteArray) (hs:s.size ≤ maxLen) :
  (Instr.lookup 194 (.map (some b)) (.string s) true).run Tryz.prog w=.ok (.tuple #[.int .i64 (((F s.data.toList).getD 0:Nat):Int),.bool (F s.data.toList).isSome]) w:=by
 obtain ⟨D,hown,_,hat⟩:=h
 obtain ⟨h1,h2⟩:=hat s.data.toList (by rw [Array.length_toList];exact hs)
 have hz:(zeroValue 3).run Tryz.prog w=.ok (.int .i64 0) w:=Tryz.zeroValue3 w
 obtain ⟨v,ps,hrun,hv⟩:=hown.look_ok str_law Tryz.underlying194 hz (plainElem_int Tryz.underlying3 (by decide)) (str_key hs)
 obtain ⟨c,rfl,hc,_⟩:=plainElem_int_inv Tryz.underlying3 hv
 have hc1:=congrArg Prod.fst hc
 simp only at hc1
 rw [h2] at hc1
 injection hc1 with hc1
 injection hc1 with _ hc1
 rw [hrun,h1,← hc1]
theorem SMap.kept {w w':World} {b n:Nat} {F:List UInt8→Option Nat} (h:SMap w b n F) (hk:w'.heap[b]?=w.heap[b]?):SMap w' b n F:=by
 obtain ⟨D,⟨es,cl,h1,h2,h3,h4⟩,hm,hat⟩:=h
 exact ⟨D,⟨es,cl,hk.trans h1,h2,h3,h4⟩,hm,hat⟩
theorem SMap.lt {w:World} {b n:Nat} {F:List UInt8→Option Nat} (h:SMap w b n F):b < w.heap.size:=by
 obtain ⟨D,h,_⟩:=h
 exact h.lt
theorem SMap.below {w w':World} {b n B:Nat} {F:List UInt8→Option Nat} (h:SMap w b n F) (hb:Below B w w') (hB:b < B):SMap w' b n F:=h.kept (hb.block b hB)
theorem SMap.drewN {w:World} {b n:Nat} {F:List UInt8→Option Nat} (h:SMap w b n F) (k:Nat):SMap (w.drewN k) b n F:=h.kept rfl
theorem SMap.congr {w:World} {b n:Nat} {F F':List UInt8→Option Nat} (h:SMap w b n F) (e:∀ k,F k=F' k):SMap w b n F':=by
 obtain ⟨D,h1,h2,h3⟩:=h
 exact ⟨D,h1,h2,fun k hk=>by rw [← e];exact h3 k hk⟩
theorem SMap.ne_blk {w:World} {b n g:Nat} {F:List UInt8→Option Nat} {t:TypeId} {cs:Array Value} (h:SMap w b n F) (hg:Blk w g t cs):b ≠ g:=by
 obtain ⟨D,⟨es,cl,h1,_⟩,_⟩:=h
 rintro rfl
 have h2:w.heap[b]?=some (.cells cs t (0,0)):=hg
 rw [h1] at h2
 cases h2
theorem SMap.ne_own {w:World} {b n B m size:Nat} {F:List UInt8→Option Nat} {e:TypeId} {v:Value} {xs:List Value} (h:SMap w b n F) (ho:w.ownsRow B e size v m xs):v.ownBlock ≠ some b:=fun hh=>by
 obtain ⟨cs,hc⟩:=own_blk ho hh
 exact h.ne_blk hc rfl
theorem wpList_smap_put (w:World) {ops:Array Oper} {rest:List Oper} {o:Oper} {a:Act} {Q:Exit→Act→World→Prop}
  (hg:o.guard=none) (m x v:Operand) (hop:o.op=Op.mapUpdate 194 m x v) (b n:Nat) (F:List UInt8→Option Nat)
  (hm:a.eval m=.map (some b)) (h:SMap w b n F) (hn:n < maxLen) (s:ByteArray) (hs:s.size ≤ maxLen) (k:Nat) (hk:k ≤ 9223372036854775807) (hx:a.eval x=.string s) (hv:a.eval v=.int .i64 (k:Int))
  (hK:∀ w',SMap w' b (n + 1) (fun j=>if j=s.data.toList then some k else F j)→w.grownBy w' (some b)→wpList Tryz.prog ops Q rest (a.put o.dst undef) w') :
  wpList Tryz.prog ops Q (o :: rest) a w:=by
 obtain ⟨D,hown,hM,hat⟩:=h
 refine wpList_mapUpdate_own w hg m x v _ hop 9 3 str_law Tryz.underlying194 RI b n D hm hown hn _ _ _ hx hv (str_key hs) _ [] (plainElem_int Tryz.underlying3 (i64_wf ⟨by omega,by omega⟩)) fun w' h1 h2=>hK w' ⟨_,h1,hM.put _ _,fun j hj=>?_⟩ h2
 by_cases e:j=s.data.toList
 ·subst e
  rw [has_put_same hM (str_law.key (str_key hs)),atKey_put_same hM (str_law.key (str_key hs))]
  simp
 ·have hne:Lit.string j ≠ Lit.string s.data.toList:=by intro h;injection h with h;exact e h
  rw [has_put_other hne,atKey_put_other hne]
  simp only [if_neg e]
  exact hat j hj
def insl (x:Ins):List Value:=[.int .i64 x.code,.int .i64 x.operand,.int .i64 x.pos,.string ⟨x.name.s.toArray⟩,.int .i64 x.name.pos]
theorem insl_len (x:Ins):(insl x).length=5:=rfl
theorem info_ins:(Tryz.prog.info? 204).map (fun i=>(i.zero,i.size,i.bytes))=some (some (.agg #[.int .i64 0,.int .i64 0,.int .i64 0,.string ⟨#[]⟩,.int .i64 0]),5,48):=by kernel_rfl
structure RdIs (B:Nat) (w:World) (rb mc ml:Nat) (lv:Value) (r:RSt):Prop where
 blk:Blk w rb 197 #[.map (some mc),.map (some ml),lv,.int .i64 (r.size:Int)]
 codes:SMap w mc 41 codeF
 labs:SMap w ml r.labels.length (labF2 r.labels)
 own:w.ownsRow B 204 5 lv r.ins.length (rows insl r.ins)
 rbB:B ≤ rb
 mcB:B ≤ mc
 mlB:B ≤ ml
 ne:mc ≠ ml
 size:r.size ≤ 512
 len:r.ins.length ≤ r.size
theorem ins_cells {w:World} {B n:Nat} {A:Option Addr} {l:List Ins} (hT:Reads w B 5 A n (rows insl l)) (i:Nat) (hi:i < l.length) :
  ∃ b off q,A=some ⟨b,off,none⟩∧b < B∧w.cell? ⟨b,off + i * 5,none⟩=some (.int .i64 (l[i]).code)∧w.cell? ⟨b,off + i * 5 + 1,none⟩=some (.int .i64 (l[i]).operand)∧w.cell? ⟨b,off + i * 5 + 2,none⟩=some (.int .i64 (l[i]).pos) ∧
   w.cell? ⟨b,off + i * 5 + 3,none⟩=some (.string q)∧w.cell? ⟨b,off + i * 5 + 4,none⟩=some (.int .i64 (l[i]).name.pos)∧q=⟨(l[i]).name.s.toArray⟩∧i < n:=by
 have hl:=hT.1
 rw [rows_length insl 5 insl_len] at hl
 obtain ⟨b,off,rfl,hb,hc⟩:=reads_flat hT (by omega) (by omega)
 have key:∀ (k:Nat) (v:Value),k < 5→(insl (l[i]))[k]?=some v→w.cell? ⟨b,off + (i * 5 + k),none⟩=some v:=fun k v hk hv=>hc (i * 5 + k) v ((rows_at insl 5 insl_len l i k hi hk).trans hv)
 exact ⟨b,off,_,rfl,hb,key 0 _ (by omega) rfl,key 1 _ (by omega) rfl,key 2 _ (by omega) rfl,key 3 _ (by omega) rfl,key 4 _ (by omega) rfl,rfl,by omega⟩
theorem size_tok (w:World):(sizeOf 202).run Tryz.prog w=.ok 2 w:=by kernel_rfl
theorem elem_tok:Tryz.prog.elem 199=202:=by kernel_rfl
theorem tok_tail {w:World} {B n c:Nat} {A:Option Addr} {u:Tok} {rest:List Tok} (hT:Reads w B 2 A n (rows tkc (u :: rest))) (hc:n ≤ c) :
  ∃ A',(∀ W,(Instr.sliceAt 199 (.slice A n c) (some (.int .i64 1)) none none).run Tryz.prog W=.ok (.slice A' rest.length (c - 1)) W)∧Reads w B 2 A' rest.length (rows tkc rest)∧rest.length ≤ c - 1:=by
 have hl:=hT.1
 rw [rows_length tkc 2 tkc_len,List.length_cons] at hl
 have hn:n=rest.length + 1:=by omega
 refine ⟨if c=1 then A else A.map (·.add (1 * 2)),fun W=>?_,?_,by omega⟩
 ·rw [run_sliceAt_slice W _ _ _ _ _ (by rw [elem_tok];exact Tryz.underlying199),run_slice_l W 199 A n c (by rw [elem_tok];exact Tryz.underlying199) .i64 1 (by omega) (by omega),elem_tok,size_tok]
  show Result.ok (sliced A 1 n c 2) W=_
  unfold sliced
  rw [show n - 1=rest.length by omega]
 ·have:=hT.cut (k:=1) (cap:=c) (by omega) hc
  rw [show n - 1=rest.length by omega] at this
  exact this
theorem RdIs.below {B B':Nat} {w w':World} {rb mc ml:Nat} {lv:Value} {r:RSt} (h:RdIs B w rb mc ml lv r) (hb:Below w.heap.size w w'):RdIs B w' rb mc ml lv r :=
 ⟨h.blk.below hb h.blk.lt,h.codes.below hb h.codes.lt,h.labs.below hb h.labs.lt,own_beb h.own hb,h.rbB,h.mcB,h.mlB,h.ne,h.size,h.len⟩
theorem codeF_lt {s:List UInt8} {c:Nat} (h:codeF s=some c):c < 41:=List.mem_range.1 (List.mem_of_find?_eq_some h)
theorem rsize_snoc (labels:List (List UInt8 × Nat)) (r:RSt) (x:Ins):RSt.size ⟨labels,r.ins ++ [x]⟩=r.size + (1 + widthF (shapeF x.code)):=by
 unfold RSt.size
 rw [List.map_append]
 exact sizeF_snoc _ _
def RdS (rb ml:Nat) (lv:Value) (q:Nat):Prop:=q=rb ∨ q=ml ∨ lv.ownBlock=some q
theorem RdIs.appended {B:Nat} {w W2 WA w3:World} {rb mc ml gg cap sz:Nat} {lv:Value} {r:RSt} {x:Ins} (hW:Frm w W2 (RdS rb ml lv)) (hA:Below W2.heap.size W2 WA) (hg:WA.grownBy w3 lv.ownBlock)
  (hR2:Blk W2 rb 197 #[.map (some mc),.map (some ml),lv,.int .i64 (sz:Int)]) (hown:W2.ownsRow B 204 5 lv r.ins.length (rows insl r.ins)) (hR3:Blk w3 rb 197 #[.map (some mc),.map (some ml),lv,.int .i64 (sz:Int)])
  (hown3:w3.ownsRow B 204 5 (.slice (some ⟨gg,0,none⟩) (r.ins.length + 1) cap) (r.ins.length + 1) (rows insl r.ins ++ insl x)) (hC:SMap W2 mc 41 codeF) (hL:SMap W2 ml r.labels.length (labF2 r.labels))
  (rm:B ≤ rb∧B ≤ mc∧B ≤ ml∧mc ≠ ml∧r.ins.length ≤ r.size) (hsz:sz=r.size + (1 + widthF (shapeF x.code))) (h512:sz ≤ 512) (hB:B ≤ w.heap.size) :
  (Below B w (w3.setCell ⟨rb,2,none⟩ (.slice (some ⟨gg,0,none⟩) (r.ins.length + 1) cap))∧Frm w (w3.setCell ⟨rb,2,none⟩ (.slice (some ⟨gg,0,none⟩) (r.ins.length + 1) cap)) (RdS rb ml lv))∧RdIs B (w3.setCell ⟨rb,2,none⟩ (.slice (some ⟨gg,0,none⟩) (r.ins.length + 1) cap)) rb mc ml (.slice (some ⟨gg,0,none⟩) (r.ins.length + 1) cap) ⟨r.labels,r.ins ++ [x]⟩:=by
 obtain ⟨h1,h2,h3,h4,h5⟩:=rm
 have hBW:B ≤ W2.heap.size:=Nat.le_trans hB hW.size
 have hF:Frm w (w3.setCell ⟨rb,2,none⟩ (.slice (some ⟨gg,0,none⟩) (r.ins.length + 1) cap)) (RdS rb ml lv) :=
  ((hW.trans (Frm.of_below (S:=fun _=>False) hA) fun q h=>h.elim).grown hg fun q h=>.inl (.inr (.inr h))).set rb 2 _ (.inl (.inl rfl))
 have hkeep:∀ q,q < W2.heap.size→lv.ownBlock ≠ some q→q ≠ rb→(w3.setCell ⟨rb,2,none⟩ (.slice (some ⟨gg,0,none⟩) (r.ins.length + 1) cap)).heap[q]?=W2.heap[q]?:=fun q hq ho hr =>
  (Below.heap_setCell w3 ⟨rb,2,none⟩ _ q hr).trans ((hg.block q (Nat.lt_of_lt_of_le hq hA.size) (fun h=>ho h.symm)).trans (hA.block q hq))
 refine ⟨⟨hF.below hB fun q h=>?_,hF⟩,?_⟩
 ·rcases h with rfl | rfl | h
  ·exact h1
  ·exact h3
  ·exact (hown.lt q h).1
 refine ⟨?_,hC.kept (hkeep mc hC.lt (hC.ne_own hown) (hC.ne_blk hR2)),hL.kept (hkeep ml hL.lt (hL.ne_own hown) (hL.ne_blk hR2)),?_,h1,h2,h3,h4,?_,?_⟩
 ·rw [rsize_snoc,← hsz]
  exact hR3.set_ 2 _
 ·rw [List.length_append,rows_snoc]
  exact own_set hown3 hR3 (by decide) _
 ·rw [rsize_snoc,← hsz];exact h512
 ·rw [rsize_snoc,List.length_append,List.length_singleton];omega
def operL (r:RSt) (u:Tok) (k:Nat):List Tok→Except (Nat × Nat) RSt
 | []=>.error (9,u.pos + u.s.length)
 | u' :: rest'=>match oprL k u' with
  | .error e=>.error (e,u'.pos)
  | .ok (o,nm)=>endL r u k o nm rest'
theorem operL_err {r:RSt} {u u2:Tok} {rest:List Tok} {k e:Nat} (h:oprL k u2=.error e):operL r u k (u2 :: rest)=.error (e,u2.pos):=by
 unfold operL
 simp only [h]
theorem operL_ok {r:RSt} {u u2 nm:Tok} {rest:List Tok} {k:Nat} {o:Int} (h:oprL k u2=.ok (o,nm)):operL r u k (u2 :: rest)=endL r u k o nm rest:=by
 unfold operL
 simp only [h]
theorem insL_code {r:RSt} {u:Tok} {rest:List Tok} {k wd:Nat} (h:codeF u.s=some k) (hw:wd=widthF (shapeF k)):insL r u rest=if 0 < wd then operL r u k rest else endL r u k 0 noTok rest:=by
 subst hw
 unfold insL
 rw [h]
 cases rest <;> rfl
def insPost (B:Nat) (w:World) (rb mc ml:Nat) (lv:Value) (x:Except (Nat × Nat) RSt) (e:Ending) (w':World):Prop:=Below B w w'∧match x with
 | .error y=>e=.panicked [{ v:=faultV y.1 y.2,recovered:=false }]
 | .ok r'=>e=.returned (.tuple #[])∧∃ lv',RdIs B w' rb mc ml lv' r'∧Frm w w' (RdS rb ml lv)
set_option maxHeartbeats 4000000 in
theorem instr_asm {B:Nat} {w:World} (hE:EnvP B w) {rb mc ml:Nat} {lv:Value} {r:RSt} (hR:RdIs B w rb mc ml lv r) (u:Tok) (rest:List Tok) (A:Option Addr) (n c:Nat)
  (hT:Reads w w.heap.size 2 A n (rows tkc (u :: rest))) (hc:n ≤ c) (hu:∀ t ∈ u :: rest,t.s.length ≤ 4294967296∧t.pos ≤ 4294967296) (hn:n ≤ 4294967296) :
  Calls Tryz.prog 162 #[.pointer (some ⟨rb,0,none⟩),.slice A n c] w (insPost B w rb mc ml lv (insL r u rest)):=by
 obtain ⟨A1,hsl,hT1,hc1⟩:=tok_tail hT hc
 have hl:=hT.1
 rw [rows_length tkc 2 tkc_len,List.length_cons] at hl
 have hnl:n=rest.length + 1:=by omega
 obtain ⟨bt,off,rfl,hbt,hcell⟩:=reads_flat hT (by omega) (by omega)
 obtain ⟨s,hs⟩:∃ s:ByteArray,s=⟨u.s.toArray⟩:=⟨_,rfl⟩
 have c0:w.cell? ⟨bt,off,none⟩=some (.string s):=hs ▸ hcell 0 _ rfl
 have c1:w.cell? ⟨bt,off + 1,none⟩=some (.int .i64 u.pos):=hcell 1 _ rfl
 have hsl2:s.data.toList=u.s:=by rw [hs]
 have hu1:=hu u (List.mem_cons_self ..)
 have hss:s.size ≤ maxLen:=by
  have:s.size=s.data.toList.length:=Array.length_toList.symm
  rw [this,hsl2];unfold maxLen;omega
 have hlk:=fun nq=>(hR.codes.drewN nq).look s hss
 rw [hsl2] at hlk
 have r0:w.cell? ⟨rb,0,none⟩=some (.map (some mc)):=(hR.blk.cell 0).trans rfl
 have r2:w.cell? ⟨rb,2,none⟩=some lv:=(hR.blk.cell 2).trans rfl
 have r3:w.cell? ⟨rb,3,none⟩=some (.int .i64 (r.size:Int)):=(hR.blk.cell 3).trans rfl
 have hrl:=hR.blk.lt
 have HS:=Lib.hid hs
 have HSL2:=Lib.hid hsl2
 have HNL:=Lib.hid hnl
 have HRS:=Lib.hid hR.size
 have hn1:1 ≤ n:=by omega
 clear hs hsl2 hnl hl hcell
 cases hcode:codeF u.s with
 | none =>
  have HI:Hid (insL r u rest=.error (9,u.pos)):=Lib.hid (by unfold insL;rw [hcode])
  simp only [hcode] at hlk
  clear hcode
  go_enter Tryz.func162,Tryz.ntmps162
  go_upto_region 0 with fail
  go_quiet (fail)
  go_wp2_with (go_at_call 139;refine (fail_any _ _ _).mono ?_;rintro r w2 ⟨hr,hw⟩;subst hr;subst hw)
  refine ⟨rfl,below_drewN (Below.refl _ _) _,?_⟩
  rw [HI.out]
  rfl
 | some k =>
  have hk:=codeF_lt hcode
  have HCO:=Lib.hid hcode
  simp only [hcode] at hlk
  clear hcode
  go_enter Tryz.func162,Tryz.ntmps162
  go_upto_region 0 with fail
  go_quiet (fail)
  go_upto_region 3 with fail
  obtain ⟨wq,hwq⟩:∃ wq,wq=w.drewN nq:=⟨_,rfl⟩
  rw [← hwq]
  have hBq:Below w.heap.size w wq:=hwq ▸ below_drewN (Below.refl _ _) _
  have hRq:=hR.below (B':=B) hBq
  have hEq:EnvP B wq:=hE.below (hBq.mono hE.size)
  have hzq:wq.heap.size=w.heap.size:=by rw [hwq];rfl
  have HT1:=Lib.hid (hT1.below hBq)
  have c0:wq.cell? ⟨bt,off,none⟩=some (.string s):=hwq ▸ c0
  have c1:wq.cell? ⟨bt,off + 1,none⟩=some (.int .i64 u.pos):=hwq ▸ c1
  have r3:wq.cell? ⟨rb,3,none⟩=some (.int .i64 (r.size:Int)):=(hRq.blk.cell 3).trans rfl
  have hrl:rb < wq.heap.size:=hRq.blk.lt
  have hbt:bt < wq.heap.size:=by omega
  have HBQ:=Lib.hid hBq
  have HZQ:=Lib.hid hzq
  clear hlk hT1 hT hBq hzq hwq
  go_upto_region 4 with fail
  have HBY:=Lib.hid (fun W hS=>bytes_c k hk W hS)
  obtain ⟨wd,hwd⟩:∃ wd,wd=widthF (shapeF k):=⟨_,rfl⟩
  rw [← hwd] at HBY
  have hw8:wd ≤ 8:=by rw [hwd];unfold widthF;split <;> (try split) <;> (try split) <;> omega
  have HWD:=Lib.hid hwd
  have hBx:Below wq.heap.size wq (wq.alloc (.cells #[.int .i64 k,.int .i64 0,.int .i64 r.size,.string ⟨#[]⟩,.int .i64 0] 204)):=(Below.refl _ _).alloc (Nat.le_refl _) _
  have hXB:Blk (wq.alloc (.cells #[.int .i64 k,.int .i64 0,.int .i64 r.size,.string ⟨#[]⟩,.int .i64 0] 204)) wq.heap.size 204 (insC k 0 r.size noTok):=Blk.new wq _ _
  have hEx:=hEq.below (hBx.mono hEq.size)
  have HRX:=Lib.hid hRq
  clear hwd
  go_upto_region 6 with (first | (go_at_call 65;refine (HBY.out _ hEx.env.here.shapes).mono ?_;rintro e w1 ⟨rfl,hb1⟩) | (refine wpList_slice_g rfl 199 (.tmp 37) (some (.const (.int .i64 1))) none rfl rfl rfl rfl (hsl _) ?_))
  obtain ⟨xb,hxb⟩:∃ xb,xb=wq.heap.size:=⟨_,rfl⟩
  rw [← hxb] at hXB ⊢
  have hq1:Below wq.heap.size wq w1:=hBx.trans (hb1.mono (by simp))
  have hRt:=HRX.out.below (B':=B) hq1
  have hXt:=hXB.below hb1 (by simp;omega)
  have hEw:=hEq.below (hq1.mono hEq.size)
  have hlw:w.heap.size ≤ w1.heap.size:=by have:=hq1.size;have:=HZQ.out;omega
  have HW0:Hid (w.heap.size ≤ w1.heap.size):=Lib.hid hlw
  have HTT:=Lib.hid (HT1.out.below (hq1.mono (by have:=HZQ.out;omega)))
  have c0:w1.cell? ⟨bt,off,none⟩=some (.string s):=(hq1.cell (p:=⟨bt,off,none⟩) hbt).trans c0
  have c1:w1.cell? ⟨bt,off + 1,none⟩=some (.int .i64 u.pos):=(hq1.cell (p:=⟨bt,off + 1,none⟩) hbt).trans c1
  have hbt1:bt < w1.heap.size:=Nat.lt_of_lt_of_le hbt hq1.size
  have hbw:Below w.heap.size w w1:=HBQ.out.trans (hq1.mono (by have:=HZQ.out;omega))
  have HXL:Hid (w.heap.size ≤ xb):=Lib.hid (by have:=HZQ.out;omega)
  have hins:=insL_code (r:=r) (rest:=rest) HCO.out HWD.out
  have HQ1:=Lib.hid hq1
  have HQX:Hid (wq.heap.size ≤ xb):=Lib.hid (by rw [hxb];exact Nat.le_refl _)
  have HSS:Hid (s.size=u.s.length):=Lib.hid (by rw [← HSL2.out,Array.length_toList];rfl)
  have hs47:u.pos + s.size ≤ 9223372036854775807:=by have:=HSS.out;omega
  clear hBx hXB hEx hb1 hxb r3 hrl hq1 hsl hEq hR
  by_cases hwd:0 < wd
  ·have f1:decide ((1:Int) < 1 + (wd:Int))=true:=decide_eq_true (by omega)
   rw [if_pos hwd] at hins
   have HINS:=Lib.hid hins
   clear hins hwd
   cases rest with
   | nil =>
    have HI:Hid (insL r u []=.error (9,u.pos + u.s.length)):=Lib.hid HINS.out
    have HW:=Lib.hid hbw
    clear hbw
    go_wp2_with (first | (go_at_call 170;refine (end_any s u.pos hs47 _).mono ?_;rintro e w2 ⟨rfl,hb2⟩) | (go_at_call 139;refine (fail_any _ _ _).mono ?_;rintro r w2 ⟨hr,hw⟩;subst hr;subst hw))
    refine ⟨rfl,(HW.out.mono hE.size).trans (hb2.mono (Nat.le_trans hE.size hlw)),?_⟩
    rw [HI.out]
    show _=Ending.panicked [{ v:=faultV ((9:Nat):Int) ((u.pos + u.s.length:Nat):Int),recovered:=false }]
    rw [← HSS.out,Int.natCast_add]
    rfl
   | cons u2 rest2 =>
    obtain ⟨A2,hsl2x,hT2,hc2⟩:=tok_tail HTT.out hc1
    obtain ⟨b2,o2,rfl,hb2,hcell2⟩:=reads_flat HTT.out (by simp) (by omega)
    obtain ⟨s2,hs2⟩:∃ s2:ByteArray,s2=⟨u2.s.toArray⟩:=⟨_,rfl⟩
    have y0:w1.cell? ⟨b2,o2,none⟩=some (.string s2):=hs2 ▸ hcell2 0 _ rfl
    have y1:w1.cell? ⟨b2,o2 + 1,none⟩=some (.int .i64 u2.pos):=hcell2 1 _ rfl
    have hb2w:b2 < w1.heap.size:=Nat.lt_of_lt_of_le hb2 hlw
    have hu2:=hu u2 (by simp)
    have HOP:=Lib.hid (operand_asm hEw k hk r.size u2 hu2.1 xb (by have:=HXL.out;have:=hE.size;omega) hXt)
    rw [← hs2] at HOP
    obtain ⟨nx,hnx⟩:∃ nx,nx=(u2 :: rest2).length:=⟨_,rfl⟩
    have hn0:1 ≤ nx:=by rw [hnx];simp
    have g1:((nx:Int) == 0)=false:=by simp;omega
    rw [← hnx] at hsl2x ⊢
    have HNX:=Lib.hid hnx
    have HW1:=Lib.hid hbw
    clear hcell2 hs2 hnx hbw
    cases hop:oprL k u2 with
    | error e =>
     have HI:Hid (insL r u (u2 :: rest2)=.error (e,u2.pos)):=Lib.hid (HINS.out.trans (operL_err hop))
     have HOP2:Hid (Calls Tryz.prog 171 #[.pointer (some ⟨xb,0,none⟩),.agg #[.string s2,.int .i64 u2.pos]] w1 fun r w'=>Frm w1 w' (fun q=>q=xb)∧r=.panicked [{ v:=faultV e u2.pos,recovered:=false }]):=Lib.hid (HOP.out.mono fun r w' h=>⟨h.1,by have:=h.2;rw [hop] at this;exact this⟩)
     clear hop HOP
     go_wp2_with (go_at_call 171;refine HOP2.out.mono ?_;rintro e w2 ⟨hF,rfl⟩)
     refine ⟨rfl,(HW1.out.mono hE.size).trans (hF.below (Nat.le_trans hE.size hlw) (fun q h=>h ▸ Nat.le_trans hE.size HXL.out)),?_⟩
     rw [HI.out]
    | ok z =>
     obtain ⟨o,nm⟩:=z
     have hdone:insL r u (u2 :: rest2)=endL r u k o nm rest2:=HINS.out.trans (operL_ok hop)
     have HOP2:Hid (Calls Tryz.prog 171 #[.pointer (some ⟨xb,0,none⟩),.agg #[.string s2,.int .i64 u2.pos]] w1 fun r' w'=>Frm w1 w' (fun q=>q=xb)∧r'=.returned (.tuple #[])∧Blk w' xb 204 (insC k o r.size nm)):=Lib.hid (HOP.out.mono fun r w' h=>⟨h.1,by have:=h.2;rw [hop] at this;exact this⟩)
     have HD:=Lib.hid hdone
     clear hop HOP hdone
     go_upto_region 11 with (first | (go_at_call 171;refine HOP2.out.mono ?_;rintro e w2 ⟨hF,rfl,hX2⟩) | (refine wpList_slice_g rfl 199 (.tmp 53) (some (.const (.int .i64 1))) none rfl rfl rfl rfl (hsl2x _) ?_))
     have hb2q:Below wq.heap.size w1 w2:=hF.below HQ1.out.size (fun q h=>h ▸ HQX.out)
     have hRt:=HRX.out.below (B':=B) (HQ1.out.trans hb2q)
     have hXt:=hX2
     have hzw:w.heap.size ≤ wq.heap.size:=HBQ.out.size
     have hbw:Below w.heap.size w w2:=HW1.out.trans (hb2q.mono hzw)
     have hlw2:w.heap.size ≤ w2.heap.size:=Nat.le_trans hlw hF.size
     have HW0:Hid (w.heap.size ≤ w2.heap.size):=Lib.hid hlw2
     have HTT:=Lib.hid (hT2.below (hb2q.mono hzw))
     have c0:w2.cell? ⟨bt,off,none⟩=some (.string s):=(hb2q.cell (p:=⟨bt,off,none⟩) hbt).trans c0
     have c1:w2.cell? ⟨bt,off + 1,none⟩=some (.int .i64 u.pos):=(hb2q.cell (p:=⟨bt,off + 1,none⟩) hbt).trans c1
     have hbt1:bt < w2.heap.size:=Nat.lt_of_lt_of_le hbt1 hF.size
     have hdone:=HD.out
     have hut:∀ t ∈ rest2,t.s.length ≤ 4294967296∧t.pos ≤ 4294967296:=fun t ht=>hu t (List.mem_cons_of_mem _ (List.mem_cons_of_mem _ ht))
     clear hF hX2 hT2 hb2q hsl2x y0 y1 hzw hlw2
     have HHD:=Lib.hid hdone
     have r3:(w2).cell? ⟨rb,3,none⟩=some (.int .i64 (r.size:Int)):=(hRt.blk.cell 3).trans rfl
     have hrl:rb < (w2).heap.size:=hRt.blk.lt
     have HRT:=Lib.hid hRt
     have HXT:=Lib.hid hXt
     have HW:=Lib.hid hbw
     have HU:Hid (∀ t ∈ rest2,t.s.length ≤ 4294967296∧t.pos ≤ 4294967296):=Lib.hid hut
     clear hdone hRt hXt hbw hut
     cases rest2 with
     | cons x rx =>
      have HI:=Lib.hid (HHD.out.trans (show endL r u k (o) nm (x :: rx)=.error (9,x.pos) from rfl))
      obtain ⟨b2,o2,rfl,hb2,hcell2⟩:=reads_flat HTT.out (by simp) (by omega)
      have x1:(w2).cell? ⟨b2,o2 + 1,none⟩=some (.int .i64 x.pos):=hcell2 1 _ rfl
      have hb2w:b2 < (w2).heap.size:=Nat.lt_of_lt_of_le hb2 HW0.out
      have g1:decide ((0:Int) < ((x :: rx).length:Int))=true:=decide_eq_true (by rw [List.length_cons];omega)
      have g2:decide (0 < (x :: rx).length)=true:=decide_eq_true (by simp)
      have hlx:0 < (x :: rx).length:=by simp
      obtain ⟨nx,hnx⟩:∃ nx,nx=(x :: rx).length:=⟨_,rfl⟩
      rw [← hnx] at g1 g2 hlx ⊢
      clear hcell2 hnx
      go_wp2_with (go_at_call 139;refine (fail_any _ _ _).mono ?_;rintro r w2 ⟨hr,hw⟩;subst hr;subst hw)
      refine ⟨rfl,HW.out.mono hE.size,?_⟩
      rw [HI.out]
      rfl
     | nil =>
      by_cases hfull:512 < r.size + (1 + wd)
      ·have HI:=Lib.hid (HHD.out.trans (show endL r u k (o) nm []=.error (2,u.pos) by unfold endL;rw [← HWD.out,if_pos hfull]))
       have q1:decide ((512:Int) < (r.size:Int) + (1 + (wd:Int)))=true:=decide_eq_true (by omega)
       have hrs:=HRS.out
       clear hfull
       go_wp2_with (go_at_call 139;refine (fail_any _ _ _).mono ?_;rintro r w2 ⟨hr,hw⟩;subst hr;subst hw)
       refine ⟨rfl,HW.out.mono hE.size,?_⟩
       rw [HI.out]
       rfl
      ·have HI:=Lib.hid (HHD.out.trans (show endL r u k (o) nm []=.ok ⟨r.labels,r.ins ++ [⟨k,o,r.size,nm⟩]⟩ by unfold endL;rw [← HWD.out,if_neg hfull]))
       have q1:decide ((512:Int) < (r.size:Int) + (1 + (wd:Int)))=false:=decide_eq_false (by omega)
       have hrs:=HRS.out
       have f3:(w2).frozen? ⟨rb,3,none⟩=false:=HRT.out.blk.frozen 3
       have HF:=Lib.hid hfull
       clear hfull
       go_upto_region 16 with fail
       obtain ⟨sz,hsz⟩:∃ sz,sz=r.size + (1 + wd):=⟨_,rfl⟩
       obtain ⟨W2,hW2⟩:∃ W2,W2=(w2).setCell ⟨rb,3,none⟩ (.int .i64 ((r.size:Int) + (1 + (wd:Int)))):=⟨_,rfl⟩
       rw [← hW2]
       have hR2:Blk W2 rb 197 #[.map (some mc),.map (some ml),lv,.int .i64 (sz:Int)]:=by
        rw [hW2,hsz]
        have:=HRT.out.blk.set_ 3 (.int .i64 ((r.size:Int) + (1 + (wd:Int))))
        rw [show (((r.size + (1 + wd):Nat)):Int)=(r.size:Int) + (1 + (wd:Int)) by omega]
        exact this
       have hX2:Blk W2 xb 204 (insC k o r.size nm):=hW2 ▸ HXT.out.far (p:=⟨rb,3,none⟩) (HXT.out.ne_ HRT.out.blk (by decide)) _
       have hown:W2.ownsRow B 204 5 lv r.ins.length (rows insl r.ins):=hW2 ▸ own_set HRT.out.own HRT.out.blk (by decide) _
       have HC2:Hid (SMap W2 mc 41 codeF):=Lib.hid (HRT.out.codes.kept (by rw [hW2];exact Below.heap_setCell _ ⟨rb,3,none⟩ _ mc (HRT.out.codes.ne_blk HRT.out.blk)))
       have HL2:Hid (SMap W2 ml r.labels.length (labF2 r.labels)):=Lib.hid (HRT.out.labs.kept (by rw [hW2];exact Below.heap_setCell _ ⟨rb,3,none⟩ _ ml (HRT.out.labs.ne_blk HRT.out.blk)))
       have HW2:Hid (Frm w W2 (RdS rb ml lv)):=Lib.hid (hW2 ▸ (Frm.of_below (S:=RdS rb ml lv) HW.out).set rb 3 _ (.inl (.inl rfl)))
       have HSZ:=Lib.hid hsz
       have HRM:=Lib.hid (And.intro HRT.out.rbB (And.intro HRT.out.mcB (And.intro HRT.out.mlB (And.intro HRT.out.ne HRT.out.len))))
       have hwB:B ≤ w.heap.size:=hE.size
       have hWB:B ≤ W2.heap.size:=Nat.le_trans hwB HW2.out.size
       have m2:W2.cell? ⟨rb,2,none⟩=some lv:=(hR2.cell 2).trans rfl
       have n0:W2.cell? ⟨xb,0,none⟩=some (.int .i64 k):=(hX2.cell 0).trans rfl
       obtain ⟨ov,hov⟩:∃ ov:Int,ov=o:=⟨_,rfl⟩
       obtain ⟨sv,hsv⟩:∃ sv:ByteArray,sv=⟨(nm).s.toArray⟩:=⟨_,rfl⟩
       obtain ⟨np,hnp⟩:∃ np:Int,np=(nm).pos:=⟨_,rfl⟩
       have HXS:Hid (insl ⟨k,o,r.size,nm⟩=[.int .i64 k,.int .i64 ov,.int .i64 r.size,.string sv,.int .i64 np]):=Lib.hid (by rw [hov,hsv,hnp];rfl)
       have n1:W2.cell? ⟨xb,1,none⟩=some (.int .i64 ov):=hov ▸ (hX2.cell 1).trans rfl
       have n2:W2.cell? ⟨xb,2,none⟩=some (.int .i64 r.size):=(hX2.cell 2).trans rfl
       have n3:W2.cell? ⟨xb,3,none⟩=some (.string sv):=hsv ▸ (hX2.cell 3).trans rfl
       have n4:W2.cell? ⟨xb,4,none⟩=some (.int .i64 np):=hnp ▸ (hX2.cell 4).trans rfl
       have hxl:xb < W2.heap.size:=hX2.lt
       have hrl2:rb < W2.heap.size:=hR2.lt
       have hnb:=own_ne_blk hown hR2 (by decide)
       have hlen:=HRT.out.len
       have hc63:r.ins.length + 1 ≤ maxLen:=by unfold maxLen;omega
       have hcby:(r.ins.length + 1) * 48 ≤ 140737488355328:=by omega
       have h1c:∀ v ∈ [Value.int .i64 k,.int .i64 ov,.int .i64 r.size,.string sv,.int .i64 np],v.oneCell'=true:=by intro v hv;simp at hv;rcases hv with rfl | rfl | rfl | rfl | rfl <;> rfl
       obtain ⟨i0,hi,hz0,hz1,hz2⟩:=info_parts info_ins
       clear hW2 hsz r3 hrl f3 c0 c1 q1 hov hsv hnp
       go_region_law
        (refine step_append_lies _ (by rfl) _ _ _ (by rfl) B 204 i0 _ 5 48 Tryz.underlying195 hi hz0 hz1 hz2 rfl (by omega) lv r.ins.length (rows insl r.ins) (by rfl) (show _ from hown.alloc _)
          ⟨W2.heap.size,0,none⟩ 1 1 [.int .i64 k,.int .i64 ov,.int .i64 r.size,.string sv,.int .i64 np] (by rfl) (by rfl) (World.news_of_block (cs:=#[.int .i64 k,.int .i64 ov,.int .i64 r.size,.string sv,.int .i64 np]) (t:=204) (fr:=(0,0)) (heap_alloc_new W2 _)) h1c
          (by omega) hc63 hcby (by simp;omega) (W2.heap.size + 1) (by simp) ?_;intro gg cap w3 hown3 hgrow hat hlt3;have hR3:Blk w3 rb 197 #[.map (some mc),.map (some ml),lv,.int .i64 (sz:Int)]:=(hgrow.block rb (by simp;omega) (fun hh=>hnb hh.symm)).trans ((Below.heap_alloc W2 _ rb hrl2).trans hR2);have m23:w3.cell? ⟨rb,2,none⟩=some lv:=(hR3.cell 2).trans rfl;have f23:w3.frozen? ⟨rb,2,none⟩=false:=hR3.frozen 2;have hrl3:rb < w3.heap.size:=hR3.lt)
       all_goals go_wp2_with fail
       all_goals go_end0
       all_goals (rw [← HXS.out] at hown3)
       all_goals (have hfin:=RdIs.appended HW2.out (by first | exact ((Below.refl _ _).alloc (Nat.le_refl _) _).drew | exact ((Below.refl _ _).drew.alloc (Nat.le_refl _) _) | exact ((Below.refl _ _).alloc (Nat.le_refl _) _)) hgrow hR2 hown hR3 hown3 HC2.out HL2.out HRM.out (HSZ.out.trans (by rw [HWD.out])) (by have:=HSZ.out;have:=HF.out;omega) hwB)
       all_goals (refine ⟨hfin.1.1,?_⟩)
       all_goals (rw [HI.out])
       all_goals exact ⟨rfl,_,hfin.2,hfin.1.2⟩
  ·have f1:decide ((1:Int) < 1 + (wd:Int))=false:=decide_eq_false (by omega)
   rw [if_neg hwd] at hins
   have hut:∀ t ∈ rest,t.s.length ≤ 4294967296∧t.pos ≤ 4294967296:=fun t ht=>hu t (List.mem_cons_of_mem _ ht)
   obtain ⟨rt,hrt⟩:∃ rt,rt=rest:=⟨_,rfl⟩
   rw [← hrt] at hut HTT hc1
   have hdone:insL r u rest=endL r u k 0 noTok rt:=hrt ▸ hins
   have hc2:rt.length ≤ c - 1:=hrt ▸ hc1
   have hnr:rest.length=rt.length:=by rw [hrt]
   rw [hnr]
   clear hins hwd hrt hc1 hnr
   have HHD:=Lib.hid hdone
   have r3:(w1).cell? ⟨rb,3,none⟩=some (.int .i64 (r.size:Int)):=(hRt.blk.cell 3).trans rfl
   have hrl:rb < (w1).heap.size:=hRt.blk.lt
   have HRT:=Lib.hid hRt
   have HXT:=Lib.hid hXt
   have HW:=Lib.hid hbw
   have HU:Hid (∀ t ∈ rt,t.s.length ≤ 4294967296∧t.pos ≤ 4294967296):=Lib.hid hut
   clear hdone hRt hXt hbw hut
   cases rt with
   | cons x rx =>
    have HI:=Lib.hid (HHD.out.trans (show endL r u k (0) noTok (x :: rx)=.error (9,x.pos) from rfl))
    obtain ⟨b2,o2,rfl,hb2,hcell2⟩:=reads_flat HTT.out (by simp) (by omega)
    have x1:(w1).cell? ⟨b2,o2 + 1,none⟩=some (.int .i64 x.pos):=hcell2 1 _ rfl
    have hb2w:b2 < (w1).heap.size:=Nat.lt_of_lt_of_le hb2 HW0.out
    have g1:decide ((0:Int) < ((x :: rx).length:Int))=true:=decide_eq_true (by rw [List.length_cons];omega)
    have g2:decide (0 < (x :: rx).length)=true:=decide_eq_true (by simp)
    have hlx:0 < (x :: rx).length:=by simp
    obtain ⟨nx,hnx⟩:∃ nx,nx=(x :: rx).length:=⟨_,rfl⟩
    rw [← hnx] at g1 g2 hlx ⊢
    clear hcell2 hnx
    go_wp2_with (go_at_call 139;refine (fail_any _ _ _).mono ?_;rintro r w2 ⟨hr,hw⟩;subst hr;subst hw)
    refine ⟨rfl,HW.out.mono hE.size,?_⟩
    rw [HI.out]
    rfl
   | nil =>
    by_cases hfull:512 < r.size + (1 + wd)
    ·have HI:=Lib.hid (HHD.out.trans (show endL r u k (0) noTok []=.error (2,u.pos) by unfold endL;rw [← HWD.out,if_pos hfull]))
     have q1:decide ((512:Int) < (r.size:Int) + (1 + (wd:Int)))=true:=decide_eq_true (by omega)
     have hrs:=HRS.out
     clear hfull
     go_wp2_with (go_at_call 139;refine (fail_any _ _ _).mono ?_;rintro r w2 ⟨hr,hw⟩;subst hr;subst hw)
     refine ⟨rfl,HW.out.mono hE.size,?_⟩
     rw [HI.out]
     rfl
    ·have HI:=Lib.hid (HHD.out.trans (show endL r u k (0) noTok []=.ok ⟨r.labels,r.ins ++ [⟨k,0,r.size,noTok⟩]⟩ by unfold endL;rw [← HWD.out,if_neg hfull]))
     have q1:decide ((512:Int) < (r.size:Int) + (1 + (wd:Int)))=false:=decide_eq_false (by omega)
     have hrs:=HRS.out
     have f3:(w1).frozen? ⟨rb,3,none⟩=false:=HRT.out.blk.frozen 3
     have HF:=Lib.hid hfull
     clear hfull
     go_upto_region 16 with fail
     obtain ⟨sz,hsz⟩:∃ sz,sz=r.size + (1 + wd):=⟨_,rfl⟩
     obtain ⟨W2,hW2⟩:∃ W2,W2=(w1).setCell ⟨rb,3,none⟩ (.int .i64 ((r.size:Int) + (1 + (wd:Int)))):=⟨_,rfl⟩
     rw [← hW2]
     have hR2:Blk W2 rb 197 #[.map (some mc),.map (some ml),lv,.int .i64 (sz:Int)]:=by
      rw [hW2,hsz]
      have:=HRT.out.blk.set_ 3 (.int .i64 ((r.size:Int) + (1 + (wd:Int))))
      rw [show (((r.size + (1 + wd):Nat)):Int)=(r.size:Int) + (1 + (wd:Int)) by omega]
      exact this
     have hX2:Blk W2 xb 204 (insC k 0 r.size noTok):=hW2 ▸ HXT.out.far (p:=⟨rb,3,none⟩) (HXT.out.ne_ HRT.out.blk (by decide)) _
     have hown:W2.ownsRow B 204 5 lv r.ins.length (rows insl r.ins):=hW2 ▸ own_set HRT.out.own HRT.out.blk (by decide) _
     have HC2:Hid (SMap W2 mc 41 codeF):=Lib.hid (HRT.out.codes.kept (by rw [hW2];exact Below.heap_setCell _ ⟨rb,3,none⟩ _ mc (HRT.out.codes.ne_blk HRT.out.blk)))
     have HL2:Hid (SMap W2 ml r.labels.length (labF2 r.labels)):=Lib.hid (HRT.out.labs.kept (by rw [hW2];exact Below.heap_setCell _ ⟨rb,3,none⟩ _ ml (HRT.out.labs.ne_blk HRT.out.blk)))
     have HW2:Hid (Frm w W2 (RdS rb ml lv)):=Lib.hid (hW2 ▸ (Frm.of_below (S:=RdS rb ml lv) HW.out).set rb 3 _ (.inl (.inl rfl)))
     have HSZ:=Lib.hid hsz
     have HRM:=Lib.hid (And.intro HRT.out.rbB (And.intro HRT.out.mcB (And.intro HRT.out.mlB (And.intro HRT.out.ne HRT.out.len))))
     have hwB:B ≤ w.heap.size:=hE.size
     have hWB:B ≤ W2.heap.size:=Nat.le_trans hwB HW2.out.size
     have m2:W2.cell? ⟨rb,2,none⟩=some lv:=(hR2.cell 2).trans rfl
     have n0:W2.cell? ⟨xb,0,none⟩=some (.int .i64 k):=(hX2.cell 0).trans rfl
     obtain ⟨ov,hov⟩:∃ ov:Int,ov=0:=⟨_,rfl⟩
     obtain ⟨sv,hsv⟩:∃ sv:ByteArray,sv=⟨(noTok).s.toArray⟩:=⟨_,rfl⟩
     obtain ⟨np,hnp⟩:∃ np:Int,np=(noTok).pos:=⟨_,rfl⟩
     have HXS:Hid (insl ⟨k,0,r.size,noTok⟩=[.int .i64 k,.int .i64 ov,.int .i64 r.size,.string sv,.int .i64 np]):=Lib.hid (by rw [hov,hsv,hnp];rfl)
     have n1:W2.cell? ⟨xb,1,none⟩=some (.int .i64 ov):=hov ▸ (hX2.cell 1).trans rfl
     have n2:W2.cell? ⟨xb,2,none⟩=some (.int .i64 r.size):=(hX2.cell 2).trans rfl
     have n3:W2.cell? ⟨xb,3,none⟩=some (.string sv):=hsv ▸ (hX2.cell 3).trans rfl
     have n4:W2.cell? ⟨xb,4,none⟩=some (.int .i64 np):=hnp ▸ (hX2.cell 4).trans rfl
     have hxl:xb < W2.heap.size:=hX2.lt
     have hrl2:rb < W2.heap.size:=hR2.lt
     have hnb:=own_ne_blk hown hR2 (by decide)
     have hlen:=HRT.out.len
     have hc63:r.ins.length + 1 ≤ maxLen:=by unfold maxLen;omega
     have hcby:(r.ins.length + 1) * 48 ≤ 140737488355328:=by omega
     have h1c:∀ v ∈ [Value.int .i64 k,.int .i64 ov,.int .i64 r.size,.string sv,.int .i64 np],v.oneCell'=true:=by intro v hv;simp at hv;rcases hv with rfl | rfl | rfl | rfl | rfl <;> rfl
     obtain ⟨i0,hi,hz0,hz1,hz2⟩:=info_parts info_ins
     clear hW2 hsz r3 hrl f3 c0 c1 q1 hov hsv hnp
     go_region_law
      (refine step_append_lies _ (by rfl) _ _ _ (by rfl) B 204 i0 _ 5 48 Tryz.underlying195 hi hz0 hz1 hz2 rfl (by omega) lv r.ins.length (rows insl r.ins) (by rfl) (show _ from hown.alloc _)
        ⟨W2.heap.size,0,none⟩ 1 1 [.int .i64 k,.int .i64 ov,.int .i64 r.size,.string sv,.int .i64 np] (by rfl) (by rfl) (World.news_of_block (cs:=#[.int .i64 k,.int .i64 ov,.int .i64 r.size,.string sv,.int .i64 np]) (t:=204) (fr:=(0,0)) (heap_alloc_new W2 _)) h1c
        (by omega) hc63 hcby (by simp;omega) (W2.heap.size + 1) (by simp) ?_;intro gg cap w3 hown3 hgrow hat hlt3;have hR3:Blk w3 rb 197 #[.map (some mc),.map (some ml),lv,.int .i64 (sz:Int)]:=(hgrow.block rb (by simp;omega) (fun hh=>hnb hh.symm)).trans ((Below.heap_alloc W2 _ rb hrl2).trans hR2);have m23:w3.cell? ⟨rb,2,none⟩=some lv:=(hR3.cell 2).trans rfl;have f23:w3.frozen? ⟨rb,2,none⟩=false:=hR3.frozen 2;have hrl3:rb < w3.heap.size:=hR3.lt)
     all_goals go_wp2_with fail
     all_goals go_end0
     all_goals (rw [← HXS.out] at hown3)
     all_goals (have hfin:=RdIs.appended HW2.out (by first | exact ((Below.refl _ _).alloc (Nat.le_refl _) _).drew | exact ((Below.refl _ _).drew.alloc (Nat.le_refl _) _) | exact ((Below.refl _ _).alloc (Nat.le_refl _) _)) hgrow hR2 hown hR3 hown3 HC2.out HL2.out HRM.out (HSZ.out.trans (by rw [HWD.out])) (by have:=HSZ.out;have:=HF.out;omega) hwB)
     all_goals (refine ⟨hfin.1.1,?_⟩)
     all_goals (rw [HI.out])
     all_goals exact ⟨rfl,_,hfin.2,hfin.1.2⟩
end Go.Proofs.YtiheggkkgbfndaaGreatDoor
