/- The variables of the library, carried; a label. -/
import Derived.Test.YtiheggkkgbfndaaGreatDoorL08
import Derived.Test.YtiheggkkgbfndaaGreatDoorL05
import Derived.Test.YtiheggkkgbfndaaGreatDoorL03
import Derived.Test.YtiheggkkgbfndaaGreatDoorL01
import Derived.Deep.LoopGhost
import Derived.WalkLawsBesides
import Derived.Test.YtiheggkkgbfndaaGreatDoorL06
namespace Go.Proofs.YtiheggkkgbfndaaGreatDoor
open Go.RowKit Go.Joins Go.ChangeShapes Go.WideShapes Go.Deep Go.Maps Go.Sort
set_option linter.unusedVariables false
set_option linter.unusedSimpArgs false
set_option maxRecDepth 100000
structure Env (w:World):Prop where
 shapes:ShapesAt w
 pow:Lib.TabIs Tryz.prog w "internal/strconv.uint64pow10" .u64 Lib.pow10Tab
 ascii:Lib.TabIs Tryz.prog w "strings.asciiSpace" .u8 Lib.asciiSpaceTab
 white:Lib.WhiteTab 2 w
def EnvIn (B:Nat) (w:World):Prop:=B ≤ w.heap.size∧∀ w',Below B w w'→Env w'
theorem EnvIn.here {B:Nat} {w:World} (h:EnvIn B w):Env w:=h.2 w (Below.refl _ _)
theorem EnvIn.below {B B':Nat} {w w':World} (h:EnvIn B w) (hb:Below B' w w') (hB:B ≤ B'):EnvIn B w':=⟨Nat.le_trans h.1 hb.size,fun w2 h2=>h.2 w2 ((hb.mono hB).trans h2)⟩
theorem below_grow (w:World) (k:Nat) (os:Array Obj):Below w.heap.size w (grow (w.drewN k) os):=by
 refine ⟨rfl,rfl,rfl,by simp [grow,World.drewN],fun q hq=>?_⟩
 show (w.heap ++ os)[q]?=w.heap[q]?
 rw [Array.getElem?_append_left hq]
theorem itoa_any {B:Nat} {w:World} (hE:EnvIn B w) (n:Int) (hn:i64ok n):Calls Tryz.prog 69 #[.int .i64 n] w fun e w'=>e=.returned (.string ⟨(Lib.itoa n).toArray⟩)∧Below w.heap.size w w' :=
 (Tryz.strconv_Itoa n hn.1 hn.2 w hE.here.pow).mono fun e w' ⟨h1,k,os,h2⟩=>⟨h1,h2 ▸ below_grow w k os⟩
theorem formatInt_any {B:Nat} {w:World} (hE:EnvIn B w) (n:Int) (hn:i64ok n):Calls Tryz.prog 70 #[.int .i64 n,.int .i64 10] w fun e w'=>e=.returned (.string ⟨(Lib.itoa n).toArray⟩)∧Below w.heap.size w w' :=
 (Tryz.strconv_FormatInt_10 n hn.1 hn.2 w hE.here.pow).mono fun e w' ⟨h1,k,os,h2⟩=>⟨h1,h2 ▸ below_grow w k os⟩
def LabPost (w:World) (b:Nat) (l:List UInt8) (e:Ending) (w':World):Prop:=e=.returned (.tuple #[])∧Bld b l w'∧Frm w w' (BldS w b)
theorem nDigits_le:∀ (k u:Nat),u < 10 ^ (k + 1)→Lib.nDigits u ≤ k + 1
 | 0,u,h=>by rw [Lib.nDigits_small (by simpa using h)];exact Nat.le_refl _
 | k + 1,u,h=>by
  by_cases h9:u < 10
  ·rw [Lib.nDigits_small h9]
   omega
  ·rw [Lib.nDigits_big h9]
   have:=nDigits_le k (u / 10) (by rw [Nat.pow_succ] at h;omega)
   omega
theorem itoa_len (n : Int) (h : i64ok n) : (Lib.itoa n).length ≤ 21 := by
  obtain ⟨h1, h2⟩ := h
  unfold Lib.itoa
  split
  · have := nDigits_le 19 n.natAbs (by have : (10 : Nat) ^ (19 + 1) = 100000000000000000000 := by decide
                                       omega)
    rw [List.length_cons, Lib.decDigits_length]
    omega
  · have := nDigits_le 19 n.toNat (by have : (10 : Nat) ^ (19 + 1) = 100000000000000000000 := by decide
                                      omega)
    rw [Lib.decDigits_length]
    omega
set_option maxHeartbeats 2000000 in
theorem label_any {B:Nat} {w:World} (hE:EnvIn B w) (p:Nat) (hp:p ≤ 512) (b13 mm n bb:Nat) (S:Int→Bool) (l:List UInt8) (hl:l.length ≤ 1000000) (h13:w.cell? ⟨b13,0,none⟩=some (.map (some mm))) (hM:BMap w mm n S) (hb:Bld bb l w) :
  Calls Tryz.prog 68 #[.int .i64 p,.pointer (some ⟨b13,0,none⟩),.pointer (some ⟨bb,0,none⟩)] w (LabPost w bb (l ++ if S p then labelB p else [])):=by
 have h13l:b13 < w.heap.size:=World.block_lt_of_cell? _ _ h13
 have hlk:=hM.look (p:Int) ⟨by omega,by omega⟩
 cases hS:S (p:Int)
 ·rw [hS] at hlk
  clear hS
  have HB:=Lib.hid hb
  clear hb hM
  go_enter Tryz.func68,Tryz.ntmps68
  go_wp2
  go_end0
  exact ⟨rfl,by simpa using HB.out,Frm.refl _ _⟩
 ·rw [hS] at hlk
  clear hS
  have HIT:=Lib.hid (itoa_any hE (p:Int) ⟨by omega,by omega⟩)
  have HB:=Lib.hid hb
  clear hb hM hE
  go_enter Tryz.func68,Tryz.ntmps68
  have hll:(Lib.itoa (p:Int)).length ≤ 21:=itoa_len _ ⟨by omega,by omega⟩
  have HLL:=Lib.hid hll
  go_wp2_with (go_at_call 69;refine (HIT.out).mono ?_;rintro e w1 ⟨rfl,hb1⟩)
  have hsz:l.length + (⟨#[76]⟩ ++ ⟨(Lib.itoa (p:Int)).toArray⟩ ++ ⟨#[58,10]⟩:ByteArray).size ≤ 140737488355328:=by
   have e1:(⟨#[76]⟩ ++ ⟨(Lib.itoa (p:Int)).toArray⟩ ++ ⟨#[58,10]⟩:ByteArray).size=1 + (Lib.itoa (p:Int)).length + 2:=by
    simp [ByteArray.size,ByteArray.data_append]
    omega
   rw [e1]
   omega
  refine (writeString_any bb l _ w1 (HB.out.keep hb1) hsz).mono ?_
  rintro e w2 ⟨rfl,hB2,hF2⟩
  have HF2:=Lib.hid hF2
  clear hF2
  go_wp2
  go_end0
  refine ⟨rfl,?_,?_⟩
  ·have e:(⟨#[76]⟩ ++ ⟨(Lib.itoa (p:Int)).toArray⟩ ++ ⟨#[58,10]⟩:ByteArray).data.toList=labelB p:=by simp [labelB]
   rw [e] at hB2
   exact hB2
  ·exact (Frm.of_below hb1).trans HF2.out fun q hq=>by
    rcases hq with rfl | ⟨h1,cs,h2⟩
    ·exact .inl (.inl rfl)
    ·by_cases hlt:q < w.heap.size
     ·exact .inl (.inr ⟨h1,cs,(hb1.block q hlt).symm.trans h2⟩)
     ·exact .inr (by omega)
end Go.Proofs.YtiheggkkgbfndaaGreatDoor
namespace Go.Proofs.YtiheggkkgbfndaaGreatDoor
open Go.RowKit Go.Joins Go.ChangeShapes Go.WideShapes Go.Deep
set_option linter.unusedVariables false
set_option linter.unusedSimpArgs false
set_option maxRecDepth 100000
def faultV (e at_:Int):Value:=.iface 191 (.agg #[.int .i64 e,.int .i64 at_])
theorem fail_any (e p:Int) (w:World):Calls Tryz.prog 139 #[.int .i64 e,.int .i64 p] w fun r w'=>r=.panicked [{ v:=faultV e p,recovered:=false }]∧w'=w:=by
 go_enter Tryz.func139,Tryz.ntmps139
 go_wp2
 exact ⟨rfl,rfl,rfl⟩
theorem end_any (s:ByteArray) (p:Nat) (hp:p + s.size ≤ 9223372036854775807) (w:World):Calls Tryz.prog 170 #[.agg #[.string s,.int .i64 p]] w fun r w'=>r=.returned (.int .i64 ((p + s.size:Nat):Int))∧Below w.heap.size w w':=by
 go_enter Tryz.func170,Tryz.ntmps170
 go_wp2
 go_ret
 exact ⟨by simp,by repeat (first | with_reducible exact Below.refl _ _ | with_reducible refine Below.drew ?_ | with_reducible refine below_drewN ?_ _ | ((with_reducible refine Below.alloc ?_ ?_ _);(rotate_left;focus (first | with_reducible exact Nat.le_refl _ | omega | (simp;done) | (simp;omega) | (simp [World.setCell];done) | (simp [World.setCell];omega)))) | ((with_reducible refine Below.setCell ?_ ?_ _);(rotate_left;focus (first | with_reducible exact Nat.le_refl _ | omega | (simp;done) | (simp;omega) | (simp [World.setCell];done) | (simp [World.setCell];omega)))))⟩
structure EnvP (B:Nat) (w:World):Prop where
 env:EnvIn B w
 lt:12 ≤ B
 m:∃ m,w.cell? ⟨4,0,none⟩=some (.int .i64 m)
 es:∃ tp p,w.cell? ⟨5,0,none⟩=some (.iface tp p)
 er:∃ tp p,w.cell? ⟨6,0,none⟩=some (.iface tp p)
theorem EnvP.below {B : Nat} {w w' : World} (h : EnvP B w) (hb : Below B w w') : EnvP B w' :=
  ⟨h.env.below hb (Nat.le_refl _), h.lt,
   h.m.imp fun m hm => (hb.cell (p := ⟨4, 0, none⟩) (Nat.lt_of_lt_of_le (by decide) h.lt)).trans hm,
   h.es.imp fun tp hp => hp.imp fun p hm => (hb.cell (p := ⟨5, 0, none⟩) (Nat.lt_of_lt_of_le (by decide) h.lt)).trans hm,
   h.er.imp fun tp hp => hp.imp fun p hm => (hb.cell (p := ⟨6, 0, none⟩) (Nat.lt_of_lt_of_le (by decide) h.lt)).trans hm⟩
theorem EnvP.size {B:Nat} {w:World} (h:EnvP B w):B ≤ w.heap.size:=h.env.1
def PintPost (s : ByteArray) (w : World) (e : Ending) (w' : World) : Prop :=
  Below w.heap.size w w' ∧
  ((∃ v, i64ok v ∧ Go.Lib.parseIntB 64 s.data.toList = .ok v ∧ e = .returned (.tuple #[.int .i64 v, .nilIface])) ∨
   ((∀ v, Go.Lib.parseIntB 64 s.data.toList ≠ .ok v) ∧ ∃ v N, e = .returned (.tuple #[.int .i64 v, .iface 187 (.pointer (some ⟨N, 0, none⟩))])))
theorem pint_any {B:Nat} {w:World} (hE:EnvP B w) (s:ByteArray) (hs:s.size ≤ 281474976710656) :
  Calls Tryz.prog 77 #[.string s,.int .i64 10,.int .i64 64] w (PintPost s w):=by
 cases h:Go.Lib.parseIntB 64 s.data.toList with
 | ok v =>
  refine (Tryz.strconv_ParseInt_10_at64_ok s (by omega) v h w).mono ?_
  rintro e w' ⟨he,hw⟩
  have hv:=Go.Lib.parseIntB_bounds h
  refine ⟨?_,.inl ⟨v,by unfold i64ok;omega,h,he⟩⟩
  rcases hw with rfl | ⟨t,rfl⟩
  ·exact Below.refl _ _
  ·exact below_bytesWorld _ _ _ _ (Nat.le_refl _)
 | range =>
  obtain ⟨tp,p,hp⟩:=hE.er
  refine (Tryz.strconv_ParseInt_10_at64_range s hs h _ w hp (.inr ⟨tp,p,rfl⟩)).mono ?_
  rintro e w' ⟨N,he,_,_,hb⟩
  exact ⟨hb,.inr ⟨fun v hv=>(by rw [h] at hv;cases hv),_,N,he⟩⟩
 | _ =>
  obtain ⟨tp,p,hp⟩:=hE.es
  refine (Tryz.strconv_ParseInt_10_at64_syntax s hs (h.trans rfl) _ w hp (.inr ⟨tp,p,rfl⟩)).mono ?_
  rintro e w' ⟨N,he,_,_,hb⟩
  exact ⟨hb,.inr ⟨fun v hv=>(by rw [h] at hv;cases hv),_,N,he⟩⟩
set_option maxHeartbeats 2000000 in
theorem enc_no (c:Nat) (v:Int) (A n cc:Nat) (w:World) (hS:ShapesAt w) (hA:Reads w w.heap.size 2 (some ⟨A,0,none⟩) 1 (rows opc [⟨c,v⟩])) (hc:c < 41) (hf:fitsF (shapeF c) v=false) :
  Calls Tryz.prog 100 #[.slice (some ⟨A,0,none⟩) 1 cc] w fun e w'=>e=.returned (.tuple #[.string ⟨#[]⟩,.int .i64 12,.int .i64 0])∧Below w.heap.size w w':=by
 have hlt:=hS.lt
 go_enter Tryz.func100,Tryz.ntmps100
 go_wp2_with fail
 go_loopg [12] 1 (fun gk iv wr=>iv=.int .i64 0∧wr=w)
 case atStart=>exact ⟨rfl,rfl⟩
 case round =>
  obtain ⟨rfl,rfl⟩:=hrel
  obtain ⟨b,off,hbo,hb,hcx⟩:=reads_flat hA (by omega) (by omega)
  cases hbo
  have cx0:wr.cell? ⟨A,0,none⟩=some (.int .i64 c):=hcx 0 _ rfl
  have cx1:wr.cell? ⟨A,1,none⟩=some (.int .i64 v):=hcx 1 _ rfl
  have hsh:=hS.cell c hc
  have h7:shapeF c < 7:=by rcases shape_cases c hc with h | h | h | h | h | h | h <;> omega
  obtain ⟨sh,hshh⟩:∃ sh,sh=shapeF c:=⟨_,rfl⟩
  rw [← hshh] at hsh h7 hf
  have HF0:∀ W,Calls Tryz.prog 119 #[.int .u8 sh,.int .i64 v] W fun r w'=>r=.returned (.bool false)∧w'=W:=fun W=>(fits_any sh h7 v W).mono fun r w' h=>⟨by rw [h.1,hf],h.2⟩
  have HF:=Lib.hid HF0
  have d0:decide ((c:Int) < 0)=false:=decide_eq_false (by omega)
  have d1:decide ((41:Int) ≤ (c:Int))=false:=decide_eq_false (by omega)
  have d2:decide (41 ≤ c)=false:=decide_eq_false (by omega)
  clear hcx hshh HF0 hA
  go_wp2_with (go_at_call 119;refine (HF.out _).mono ?_;rintro r w1 ⟨hr,hw⟩;subst hr;subst hw)
  go_ret3
  exact ⟨rfl,by repeat (first | with_reducible exact Below.refl _ _ | with_reducible refine Below.drew ?_ | with_reducible refine below_drewN ?_ _ | ((with_reducible refine Below.alloc ?_ ?_ _);(rotate_left;focus (first | with_reducible exact Nat.le_refl _ | omega | (simp;done) | (simp;omega) | (simp [World.setCell];done) | (simp [World.setCell];omega)))) | ((with_reducible refine Below.setCell ?_ ?_ _);(rotate_left;focus (first | with_reducible exact Nat.le_refl _ | omega | (simp;done) | (simp;omega) | (simp [World.setCell];done) | (simp [World.setCell];omega)))))⟩
def NumberPost (s:ByteArray) (lo hi:Int) (w:World) (e:Ending) (w':World):Prop:=Below w.heap.size w w'∧∃ (n:Int) (b:Bool),e=.returned (.tuple #[.int .i64 n,.bool b])∧b=(numIn s.data.toList lo hi).isSome∧∀ m,numIn s.data.toList lo hi=some m→m=n
theorem numIn_bad {s:List UInt8} {lo hi:Int} (h:∀ v,Go.Lib.parseIntB 64 s=.ok v→Go.Lib.itoa v=s→lo ≤ v→v ≤ hi→False):numIn s lo hi=none:=by
 unfold numIn
 cases hn:numF s with
 | none=>rfl
 | some n =>
  simp only
  obtain ⟨h1,h2⟩:=(prog_num s n).2 hn
  rw [if_neg fun hh=>h n h1 h2 hh.1 hh.2]
theorem numIn_good {s:List UInt8} {lo hi v:Int} (h1:Go.Lib.parseIntB 64 s=.ok v) (h2:Go.Lib.itoa v=s) (h3:lo ≤ v) (h4:v ≤ hi):numIn s lo hi=some v:=by
 unfold numIn
 rw [(prog_num s v).1 ⟨h1,h2⟩]
 simp only
 rw [if_pos ⟨h3,h4⟩]
set_option maxHeartbeats 2000000 in
theorem number_fit {B:Nat} {w:World} (hE:EnvP B w) (s:ByteArray) (hs:s.size ≤ 4294967296) (lo hi:Int):Calls Tryz.prog 44 #[.string s,.int .i64 lo,.int .i64 hi] w (NumberPost s lo hi w):=by
 have HP:=Lib.hid (pint_any hE s (by omega))
 by_cases hok:∃ v,Go.Lib.parseIntB 64 s.data.toList=.ok v
 ·obtain ⟨v,hv⟩:=hok
  have hv64:i64ok v:=by have:=Go.Lib.parseIntB_bounds hv;unfold i64ok;omega
  have HPN:Hid (Calls Tryz.prog 77 #[.string s,.int .i64 10,.int .i64 64] w fun e w'=>Below w.heap.size w w'∧e=.returned (.tuple #[.int .i64 v,.nilIface])):=Lib.hid (HP.out.mono fun e w' h=>⟨h.1,by
   rcases h.2 with ⟨v',_,h2,h3⟩ | ⟨h2,_⟩
   ·rw [hv] at h2;injection h2 with h2;rw [h2];exact h3
   ·exact absurd hv (h2 v)⟩)
  have HV:=Lib.hid hv
  clear HP
  by_cases hlo:lo ≤ v
  ·have q0:decide (lo ≤ v)=true:=decide_eq_true hlo
   by_cases hhi:v ≤ hi
   ·have q1:decide (v ≤ hi)=true:=decide_eq_true hhi
    have HFI0:=Lib.hid (fun (W:World) (hW:Below w.heap.size w W)=>formatInt_any (hE.below (hW.mono hE.size)).env v hv64)
    obtain ⟨s2,hs2e⟩:∃ s2:ByteArray,s2=⟨(Go.Lib.itoa v).toArray⟩:=⟨_,rfl⟩
    rw [← hs2e] at HFI0
    have HFI:=Lib.hid HFI0.out
    have HLO:=Lib.hid (And.intro hlo hhi)
    clear HFI0 hlo hhi hv hE hv64
    by_cases hit:Go.Lib.itoa v=s.data.toList
    ·have HR:Hid (numIn s.data.toList lo hi=some v):=Lib.hid (numIn_good HV.out hit HLO.out.1 HLO.out.2)
     have q2:(s2.toList == s.toList)=true:=by rw [beq_iff_eq,ByteArray.toList_eq,ByteArray.toList_eq,hs2e];exact hit
     clear hs2e hit
     go_enter Tryz.func44,Tryz.ntmps44
     go_upto_region 2 with (go_at_call 77;refine (HPN.out).mono ?_;rintro e w1 ⟨hb1,rfl⟩)
     have HB1:=Lib.hid hb1
     clear hb1
     go_wp2_with (go_at_call 70;refine (HFI.out _ (by first | exact HB1.out | exact HB1.out.drew)).mono ?_;rintro e w2 ⟨rfl,hb2⟩)
     go_ret2
     exact ⟨HB1.out.trans (hb2.mono HB1.out.size),v,true,rfl,by rw [HR.out];rfl,fun m hm=>by rw [HR.out] at hm;injection hm with hm;exact hm.symm⟩
    ·have HR:Hid (numIn s.data.toList lo hi=none):=Lib.hid (numIn_bad fun v' h1 h2 _ _=>hit (by rw [HV.out] at h1;injection h1 with h1;rw [h1];exact h2))
     have q2:(s2.toList == s.toList)=false:=by rw [beq_eq_false_iff_ne,ByteArray.toList_eq,ByteArray.toList_eq,hs2e];exact hit
     clear hs2e hit
     go_enter Tryz.func44,Tryz.ntmps44
     go_upto_region 2 with (go_at_call 77;refine (HPN.out).mono ?_;rintro e w1 ⟨hb1,rfl⟩)
     have HB1:=Lib.hid hb1
     clear hb1
     go_wp2_with (go_at_call 70;refine (HFI.out _ (by first | exact HB1.out | exact HB1.out.drew)).mono ?_;rintro e w2 ⟨rfl,hb2⟩)
     go_ret2
     exact ⟨HB1.out.trans (hb2.mono HB1.out.size),v,false,rfl,by rw [HR.out];rfl,fun m hm=>by rw [HR.out] at hm;cases hm⟩
   ·have q1:decide (v ≤ hi)=false:=decide_eq_false hhi
    have HR:Hid (numIn s.data.toList lo hi=none):=Lib.hid (numIn_bad fun v' h1 _ _ h4=>hhi (by rw [HV.out] at h1;injection h1 with h1;rw [h1];exact h4))
    clear hlo hhi hv hE hv64
    go_enter Tryz.func44,Tryz.ntmps44
    go_upto_region 2 with (go_at_call 77;refine (HPN.out).mono ?_;rintro e w1 ⟨hb1,rfl⟩)
    go_wp2
    go_ret2
    exact ⟨hb1,v,false,rfl,by rw [HR.out];rfl,fun m hm=>by rw [HR.out] at hm;cases hm⟩
  ·have q0:decide (lo ≤ v)=false:=decide_eq_false hlo
   have HR:Hid (numIn s.data.toList lo hi=none):=Lib.hid (numIn_bad fun v' h1 _ h3 _=>hlo (by rw [HV.out] at h1;injection h1 with h1;rw [h1];exact h3))
   clear hlo hv hE hv64
   go_enter Tryz.func44,Tryz.ntmps44
   go_upto_region 2 with (go_at_call 77;refine (HPN.out).mono ?_;rintro e w1 ⟨hb1,rfl⟩)
   go_wp2
   go_ret2
   exact ⟨hb1,v,false,rfl,by rw [HR.out];rfl,fun m hm=>by rw [HR.out] at hm;cases hm⟩
 ·have HPN:Hid (Calls Tryz.prog 77 #[.string s,.int .i64 10,.int .i64 64] w fun e w'=>Below w.heap.size w w'∧∃ v N,e=.returned (.tuple #[.int .i64 v,.iface 187 (.pointer (some ⟨N,0,none⟩))])):=Lib.hid (HP.out.mono fun e w' h=>⟨h.1,by
   rcases h.2 with ⟨v,_,h2,_⟩ | ⟨_,v,N,h2⟩
   ·exact absurd ⟨v,h2⟩ hok
   ·exact ⟨v,N,h2⟩⟩)
  have HR:Hid (numIn s.data.toList lo hi=none):=Lib.hid (numIn_bad fun v' h1 _ _ _=>hok ⟨v',h1⟩)
  clear HP hok hE
  go_enter Tryz.func44,Tryz.ntmps44
  go_upto_region 2 with (go_at_call 77;refine (HPN.out).mono ?_;rintro e w1 ⟨hb1,v,N,rfl⟩)
  go_wp2
  go_ret2
  exact ⟨hb1,v,false,rfl,by rw [HR.out];rfl,fun m hm=>by rw [HR.out] at hm;cases hm⟩
def StV (c:Cfg) (rv pv tv lv:Value) (e pl part k:Nat):Array Value:=#[.int .i64 c.raw,.int .i64 c.ring,.int .i64 c.writes,.int .i64 c.stamps,.bool c.multi,.int .i64 c.tries,rv,pv,tv,lv,.int .i64 e,.int .i64 pl,.int .i64 part,.int .i64 k]
theorem rfails_any (p:Nat) (c:Cfg) (rv pv tv lv:Value) (e pl part k x y:Nat) (w:World) (hb:Blk w p 61 (StV c rv pv tv lv e pl part k)) :
  Calls Tryz.prog 56 #[.pointer (some ⟨p,0,none⟩),.int .i64 x,.int .i64 y] w fun r w'=>r=.returned (.tuple #[])∧Frm w w' (fun q=>q=p)∧Blk w' p 61 (StV c rv pv tv lv x y part k):=by
 have x10:w.cell? ⟨p,10,none⟩=some (.int .i64 e):=(hb.cell 10).trans rfl
 have f10:w.frozen? ⟨p,10,none⟩=false:=hb.frozen 10
 have hb1:=hb.set_ 10 (.int .i64 x)
 have y11:(w.setCell ⟨p,10,none⟩ (.int .i64 x)).cell? ⟨p,11,none⟩=some (.int .i64 pl):=(hb1.cell 11).trans rfl
 have f11:(w.setCell ⟨p,10,none⟩ (.int .i64 x)).frozen? ⟨p,11,none⟩=false:=hb1.frozen 11
 have HF:Hid (Frm w ((w.setCell ⟨p,10,none⟩ (.int .i64 x)).setCell ⟨p,11,none⟩ (.int .i64 y)) (fun q=>q=p)):=Lib.hid (((Frm.refl w (fun q=>q=p)).set p 10 _ (.inl rfl)).set p 11 _ (.inl rfl))
 have HB:Hid (Blk ((w.setCell ⟨p,10,none⟩ (.int .i64 x)).setCell ⟨p,11,none⟩ (.int .i64 y)) p 61 (StV c rv pv tv lv x y part k)):=Lib.hid ((hb.set_ 10 _).set_ 11 _)
 clear hb hb1
 go_enter Tryz.func56,Tryz.ntmps56
 go_wp2
 go_end0
 exact ⟨rfl,HF.out,HB.out⟩
theorem rgoes_yes (p:Nat) (c:Cfg) (rv pv tv lv:Value) (e pl part k q y:Nat) (w:World) (hb:Blk w p 61 (StV c rv pv tv lv e pl part k)) (hq:part ≤ q) :
  Calls Tryz.prog 53 #[.pointer (some ⟨p,0,none⟩),.int .i64 q,.int .i64 y] w fun r w'=>r=.returned (.bool true)∧Frm w w' (fun q=>q=p)∧Blk w' p 61 (StV c rv pv tv lv e pl q k):=by
 have x12:w.cell? ⟨p,12,none⟩=some (.int .i64 part):=(hb.cell 12).trans rfl
 have f12:w.frozen? ⟨p,12,none⟩=false:=hb.frozen 12
 have e1:decide ((q:Int) < (part:Int))=false:=decide_eq_false (by omega)
 have e2:decide (q < part)=false:=decide_eq_false (by omega)
 have HF:Hid (Frm w (w.setCell ⟨p,12,none⟩ (.int .i64 q)) (fun q=>q=p)):=Lib.hid ((Frm.refl w (fun q=>q=p)).set p 12 _ (.inl rfl))
 have HB:Hid (Blk (w.setCell ⟨p,12,none⟩ (.int .i64 q)) p 61 (StV c rv pv tv lv e pl q k)):=Lib.hid (hb.set_ 12 _)
 clear hb hq
 go_enter Tryz.func53,Tryz.ntmps53
 go_wp2
 go_ret
 exact ⟨rfl,HF.out,HB.out⟩
theorem rgoes_no (p:Nat) (c:Cfg) (rv pv tv lv:Value) (e pl part k q y:Nat) (w:World) (hb:Blk w p 61 (StV c rv pv tv lv e pl part k)) (hq:q < part) :
  Calls Tryz.prog 53 #[.pointer (some ⟨p,0,none⟩),.int .i64 q,.int .i64 y] w fun r w'=>r=.returned (.bool false)∧Frm w w' (fun q=>q=p)∧Blk w' p 61 (StV c rv pv tv lv 9 y part k):=by
 have x12:w.cell? ⟨p,12,none⟩=some (.int .i64 part):=(hb.cell 12).trans rfl
 have e1:decide ((q:Int) < (part:Int))=true:=decide_eq_true (by omega)
 have e2:decide (q < part)=true:=decide_eq_true hq
 have HC:=Lib.hid (rfails_any p c rv pv tv lv e pl part k 9 y w hb)
 clear hb hq
 go_enter Tryz.func53,Tryz.ntmps53
 go_wp2_with (go_at_call 56;refine HC.out.mono ?_;rintro r w1 ⟨rfl,hF,hB⟩)
 go_ret
 exact ⟨rfl,hF,hB⟩
theorem info_str:(Tryz.prog.info? 9).map (fun i=>(i.zero,i.size,i.bytes))=some (some (.string ⟨#[]⟩),1,16):=by kernel_rfl
theorem gets (s:ByteArray) (j:Nat) (h:j < s.size):s.data.toList[j]?=some (s.get! j):=by
 have h1:=get_at s j h
 rw [Nat.add_zero] at h1
 rw [h1,Array.getElem?_toList]
 exact Array.getElem?_eq_getElem h
theorem exts (s:ByteArray) (n i:Nat):(s.extract n i).data.toList=(s.data.toList.take i).drop n:=by
 rw [ByteArray.data_extract,Array.toList_extract]
 simp [List.extract,List.drop_take]
theorem str_back (s:ByteArray):(⟨s.data.toList.toArray⟩:ByteArray)=s:=by cases s;simp
theorem words_hit (s:ByteArray) (n i:Nat) (hn:n ≤ i) (hi:i < s.size) (h:s.get! i=32) (hb:∀ j,n ≤ j→j < i→s.get! j ≠ 32):splitF 32 (s.data.toList.drop n)=(s.extract n i).data.toList :: splitF 32 (s.data.toList.drop (i + 1)):=by
 have hlt:i < s.data.toList.length:=by rw [Array.length_toList];exact hi
 have h3:s.data.toList[i]=32:=by
  have:=gets s i hi
  rw [List.getElem?_eq_getElem hlt,h] at this
  injection this
 have e:s.data.toList.drop n=(s.data.toList.take i).drop n ++ 32 :: s.data.toList.drop (i + 1):=by
  have h1:s.data.toList=s.data.toList.take i ++ 32 :: s.data.toList.drop (i + 1):=by
   conv=>lhs;rw [← List.take_append_drop i s.data.toList]
   rw [List.drop_eq_getElem_cons hlt,h3]
  conv=>lhs;rw [h1]
  rw [List.drop_append,List.length_take,show n - min i s.data.toList.length=0 by omega]
  rfl
 rw [e,exts]
 refine splitF_hit 32 _ _ fun hm=>?_
 obtain ⟨j,hj⟩:=List.getElem?_of_mem hm
 rw [List.getElem?_drop] at hj
 have hlt2:n + j < i:=by
  have:=(List.getElem?_eq_some_iff.1 hj).1
  rw [List.length_take] at this
  omega
 rw [List.getElem?_take_of_lt hlt2,gets s (n + j) (by omega)] at hj
 injection hj with hj
 exact hb _ (by omega) hlt2 hj
theorem words_last (s:ByteArray) (n:Nat) (h:∀ j,n ≤ j→j < s.size→s.get! j ≠ 32):splitF 32 (s.data.toList.drop n)=[s.data.toList.drop n]:=by
 refine splitF_miss 32 _ fun hm=>?_
 obtain ⟨j,hj⟩:=List.getElem?_of_mem hm
 rw [List.getElem?_drop] at hj
 have hlt:n + j < s.size:=by
  have:=(List.getElem?_eq_some_iff.1 hj).1
  rw [Array.length_toList] at this
  exact this
 rw [gets s (n + j) hlt] at hj
 injection hj with hj
 exact h _ (by omega) hlt hj
def SWordsPost (s:ByteArray) (w:World) (r:Ending) (w':World):Prop:=∃ v,r=.returned v∧w'.ownsRow w.heap.size 9 1 v (splitF 32 s.data.toList).length (rows stC (splitF 32 s.data.toList))∧Below w.heap.size w w'
set_option maxHeartbeats 4000000 in
theorem swords_any (s:ByteArray) (hs:s.size ≤ 65535) (w:World):Calls Tryz.prog 50 #[.string s] w (SWordsPost s w):=by
 obtain ⟨i0,hi,hz0,hz1,hz2⟩:=info_parts info_str
 go_enter Tryz.func50,Tryz.ntmps50
 go_wp2
 go_loopg [3,4,5] s.size (fun gk ov fv iv wr=>∃ (D:List (List UInt8)) (n i:Nat),fv=.int .i64 n∧iv=.int .i64 i∧n ≤ i∧i ≤ s.size∧gk=s.size - i∧D.length ≤ i∧wr.ownsRow w.heap.size 9 1 ov D.length (rows stC D)∧Below w.heap.size w wr∧Hid (D ++ splitF 32 (s.data.toList.drop n)=splitF 32 s.data.toList∧∀ j,n ≤ j→j < i→s.get! j ≠ 32))
 case atStart=>exact ⟨[],0,0,rfl,rfl,Nat.le_refl _,Nat.zero_le _,rfl,Nat.le_refl _,World.ownsRow_nil _ _ _ _,Below.refl _ _,Lib.hid ⟨rfl,fun j h1 h2=>absurd h2 (by omega)⟩⟩
 case round =>
  obtain ⟨D,n,i,rfl,rfl,hni,hil0,hgk,hDi,hown,hbw,HI⟩:=hrel
  have HG:=Lib.hid hgk
  clear hgk
  obtain ⟨R,cR,rfl,_,_⟩:=own_shapes hown
  have hw0:=hbw.size
  have hc3:D.length + 1 ≤ maxLen:=(by unfold maxLen;omega)
  have hc4:(D.length + 1) * 16 ≤ 140737488355328:=(by omega)
  have hn0:(0:Int) ≤ (n:Int):=by omega
  by_cases hil:i < s.size
  ·have e1:decide ((i:Int) < (s.size:Int))=true:=decide_eq_true (by omega)
   have e2:decide (i < s.size)=true:=decide_eq_true hil
   have hgi:s.get! i=s[i]'hil:=by have:=get_at s i hil;rwa [Nat.add_zero] at this
   have zw:IntKind.i64.wrap ((i:Int) + 1)=(i:Int) + 1:=by rw [IntKind.wrap_i64];omega
   by_cases h32:s[i]'hil=32
   ·have q32:(((s[i]'hil).toNat:Int) == 32)=true:=by rw [h32];rfl
    have HT:Hid (s.get! i=32):=Lib.hid (by rw [hgi,h32])
    have i2:(n:Int) ≤ (i:Int):=by omega
    have i3:(i:Int) ≤ (s.size:Int):=by omega
    have hc2:∀ u ∈ ([.string (s.extract n i)]:List Value),u.oneCell'=true:=(by intro u hu;simp at hu;subst hu;rfl)
    have hc5:w.heap.size ≤ (wr.alloc (.cells #[.string (s.extract n i)] 9)).heap.size:=(by simp;omega)
    clear hgi h32
    go_wp2_with (at_builtin;go_must (refine wpList_append_own _ rfl _ _ 26 rfl w.heap.size 9 i0 (.string ⟨#[]⟩) 1 16 Tryz.underlying26 hi hz0 hz1 hz2 rfl (by decide) _ _ _ rfl (hown.alloc _) ⟨wr.heap.size,0,none⟩ 1 1 [.string (s.extract n i)] rfl rfl (cell_one_new _ _ _) hc2 hc3 hc4 hc5 ?_;intro v' w2 hown2 hgrow2 _))
    go_roundg (s.size - (i + 1))
    case measure=>have:=HG.out;omega
    case rel =>
     refine ⟨D ++ [(s.extract n i).data.toList],i + 1,i + 1,by simp,by simp,Nat.le_refl _,by omega,rfl,by rw [List.length_append,List.length_singleton];omega,?_,?_,Lib.hid ⟨?_,fun j h1 h2=>absurd h1 (by omega)⟩⟩
     ·rw [List.length_append,List.length_singleton,rows_snoc]
      show w2.ownsRow _ _ _ _ _ (rows stC D ++ [.string ⟨(s.extract n i).data.toList.toArray⟩])
      rw [str_back]
      exact hown2
     ·exact (hbw.alloc hw0 _).trans (below_grown (hown.alloc _) hgrow2 hc5)
     ·rw [← HI.out.1,words_hit s n i hni hil HT.out HI.out.2,List.append_assoc]
      rfl
   ·have q32:(((s[i]'hil).toNat:Int) == 32)=false:=by
     rw [beq_eq_false_iff_ne]
     intro e
     exact h32 (UInt8.toNat_inj.1 (by show _=32;omega))
    have HT:Hid (s.get! i ≠ 32):=Lib.hid (by rw [hgi];exact h32)
    clear hgi h32
    go_wp2
    go_roundg (s.size - (i + 1))
    case measure=>have:=HG.out;omega
    case rel =>
     refine ⟨D,n,i + 1,rfl,by simp,by omega,by omega,rfl,by omega,hown,hbw,Lib.hid ⟨HI.out.1,fun j h1 h2=>?_⟩⟩
     rcases Nat.lt_or_ge j i with h3 | h3
     ·exact HI.out.2 j h1 h3
     ·have:j=i:=by omega
      subst this
      exact HT.out
  ·have e1:decide ((i:Int) < (s.size:Int))=false:=decide_eq_false (by omega)
   have e2:decide (i < s.size)=false:=decide_eq_false hil
   have i3:(n:Int) ≤ (s.size:Int):=by omega
   have hc2:∀ u ∈ ([.string (s.extract n s.size)]:List Value),u.oneCell'=true:=(by intro u hu;simp at hu;subst hu;rfl)
   have hc5:w.heap.size ≤ (wr.alloc (.cells #[.string (s.extract n s.size)] 9)).heap.size:=(by simp;omega)
   go_wp2_with (at_builtin;go_must (refine wpList_append_own _ rfl _ _ 26 rfl w.heap.size 9 i0 (.string ⟨#[]⟩) 1 16 Tryz.underlying26 hi hz0 hz1 hz2 rfl (by decide) _ _ _ rfl (hown.alloc _) ⟨wr.heap.size,0,none⟩ 1 1 [.string (s.extract n s.size)] rfl rfl (cell_one_new _ _ _) hc2 hc3 hc4 hc5 ?_;intro v' w2 hown2 hgrow2 _))
   go_ret
   refine ⟨v',rfl,?_,(hbw.alloc hw0 _).trans (below_grown (hown.alloc _) hgrow2 hc5)⟩
   have hL:splitF 32 s.data.toList=D ++ [(s.extract n s.size).data.toList]:=by
    rw [← HI.out.1,words_last s n fun j h1 h2=>HI.out.2 j h1 (by omega),exts,List.take_of_length_le (by rw [Array.length_toList];exact Nat.le_refl _)]
   rw [hL,List.length_append,List.length_singleton,rows_snoc]
   show w2.ownsRow _ _ _ _ _ (rows stC D ++ [.string ⟨(s.extract n s.size).data.toList.toArray⟩])
   rw [str_back]
   exact hown2
theorem info_reg:(Tryz.prog.info? 67).map (fun i=>(i.zero,i.size,i.bytes))=some (some (.agg #[.int .i64 0,.int .i64 0]),2,16):=by kernel_rfl
theorem info_job:(Tryz.prog.info? 53).map (fun i=>(i.zero,i.size,i.bytes))=some (some (.agg #[.int .i64 0,.slice none 0 0]),2,32):=by kernel_rfl
theorem info_lin:(Tryz.prog.info? 49).map (fun i=>(i.zero,i.size,i.bytes))=some (some (.agg #[.int .i64 0,.slice none 0 0]),2,32):=by kernel_rfl
theorem info_jobs:(Tryz.prog.info? 50).map (fun i=>(i.zero,i.size,i.bytes))=some (some (.slice none 0 0),1,24):=by kernel_rfl
theorem info_i64:(Tryz.prog.info? 2).map (fun i=>(i.zero,i.size,i.bytes))=some (some (.int .i64 0),1,8):=by kernel_rfl
theorem info_in:(Tryz.prog.info? 3).map (fun i=>(i.zero,i.size,i.bytes))=some (some (.int .i64 0),1,8):=by kernel_rfl

structure Oth (t:TypeId):Prop where
 a:67 ≠ t
 b:9 ≠ t
 c:50 ≠ t
 d:53 ≠ t
 e:2 ≠ t
 f:49 ≠ t
 g:3 ≠ t
theorem oth_rd:Oth 56:=⟨by decide,by decide,by decide,by decide,by decide,by decide,by decide⟩
theorem oth_st:Oth 61:=⟨by decide,by decide,by decide,by decide,by decide,by decide,by decide⟩

section
variable {B:Nat} {w WA w3:World} {x:SSt} {rv pv tv lv:Value} {T:List (Value × List (PJob × Value))} {L:List (PLine × Value)} {p:Nat} {t:TypeId} {cs:Array Value}
theorem SetAt.setO (h:SetAt B w x rv pv tv lv T L) {b i:Nat} (hb:Blk w b t cs) (ho:Oth t) (u:Value):SetAt B (w.setCell ⟨b,i,none⟩ u) x rv pv tv lv T L:=h.set hb ho.a ho.b ho.c ho.d ho.e ho.f ho.g u
theorem blk_past {e n k B1:Nat} {v:Value} {xs:List Value} (hb:Blk w p t cs) (hown:w.ownsRow B1 e k v n xs) (hne:e ≠ t) (hA:Below w.heap.size w WA) (hg:WA.grownBy w3 v.ownBlock):Blk w3 p t cs :=
 (hg.block p (Nat.lt_of_lt_of_le hb.lt hA.size) (fun hh=>own_ne_blk hown hb hne hh.symm)).trans ((hA.block p hb.lt).trans hb)
theorem below_past {e n k:Nat} {v:Value} {xs:List Value} (hown:w.ownsRow B e k v n xs) (hBw:B ≤ w.heap.size) (hA:Below w.heap.size w WA) (hg:WA.grownBy w3 v.ownBlock):Below B w w3 :=
 (hA.mono hBw).trans (((Frm.refl WA (fun q=>v.ownBlock=some q)).grown hg (fun q h=>.inl h)).below (Nat.le_trans hBw hA.size) fun q hq=>(hown.lt q hq).1)
theorem below_put {e n k:Nat} {v:Value} {xs:List Value} (hown:w.ownsRow B e k v n xs) (hBw:B ≤ w.heap.size) (hBp:B ≤ p) (hA:Below w.heap.size w WA) (hg:WA.grownBy w3 v.ownBlock) (i:Nat) (u:Value):Below B w (w3.setCell ⟨p,i,none⟩ u) :=
 (below_past hown hBw hA hg).setCell hBp u
theorem SetAt.frm {q:Nat} {w':World} (h:SetAt B w x rv pv tv lv T L) (hb:Blk w q t cs) (ho:Oth t) (hf:Frm w w' fun z=>z=q):SetAt B w' x rv pv tv lv T L:=by
 have key:∀ {e n k:Nat} {v:Value} {xs:List Value},w.ownsRow B e k v n xs→e ≠ t→w'.ownsRow B e k v n xs:=fun hown hne=>own_keep hown fun b hbb=>hf.block b (hown.lt b hbb).2 fun hq=>own_ne_blk hown hb hne (by rw [hbb,hq])
 have key2:∀ {α:Type} {e k:Nat} {enc:α→List Value} {l:List (Value × List α)},Kids B w e k enc l→e ≠ t→Kids B w' e k enc l:=fun hk hne=>hk.keep fun y hy b hbb=>hf.block b (hk.lt hy hbb).2 fun hq=>own_ne_blk (hk.own y hy) hb hne (by rw [hbb,hq])
 exact ⟨key h.regs ho.a,key h.progs ho.b,key h.thr ho.c,key2 h.jobs ho.d,key2 h.args ho.e,h.thrEq,key h.lines ho.f,key2 h.steps ho.g,h.linesEq⟩
theorem SetAt.put_region (h:SetAt B w x rv pv tv lv T L) (hb:Blk w p t cs) (ho:Oth t) (hBw:B ≤ w.heap.size) (hBp:B ≤ p) (hA:Below w.heap.size w WA) (hg:WA.grownBy w3 rv.ownBlock) (r:Reg) {rv':Value}
  (hv:w3.ownsRow B 67 2 rv' (x.set.regs.length + 1) (rows rgC x.set.regs ++ rgC r)) (i:Nat) :
  Blk (w3.setCell ⟨p,i,none⟩ rv') p t (cs.setIfInBounds i rv')∧SetAt B (w3.setCell ⟨p,i,none⟩ rv') { x with set:={ x.set with regs:=x.set.regs ++ [r] } } rv' pv tv lv T L∧Below B w (w3.setCell ⟨p,i,none⟩ rv'):=by
 have hb3:=blk_past hb h.regs ho.a hA hg
 exact ⟨hb3.set_ i _,(h.region hA hg r hv).setO hb3 ho _,below_put h.regs hBw hBp hA hg i _⟩
theorem SetAt.put_program (h:SetAt B w x rv pv tv lv T L) (hb:Blk w p t cs) (ho:Oth t) (hBw:B ≤ w.heap.size) (hBp:B ≤ p) (hA:Below w.heap.size w WA) (hg:WA.grownBy w3 pv.ownBlock) (r:List UInt8) {pv':Value}
  (hv:w3.ownsRow B 9 1 pv' (x.set.progs.length + 1) (rows stC x.set.progs ++ stC r)) (i:Nat) :
  Blk (w3.setCell ⟨p,i,none⟩ pv') p t (cs.setIfInBounds i pv')∧SetAt B (w3.setCell ⟨p,i,none⟩ pv') { x with set:={ x.set with progs:=x.set.progs ++ [r] } } rv pv' tv lv T L∧Below B w (w3.setCell ⟨p,i,none⟩ pv'):=by
 have hb3:=blk_past hb h.progs ho.b hA hg
 exact ⟨hb3.set_ i _,(h.program hA hg r hv).setO hb3 ho _,below_put h.progs hBw hBp hA hg i _⟩
theorem SetAt.put_thread (h:SetAt B w x rv pv tv lv T L) (hb:Blk w p t cs) (ho:Oth t) (hBw:B ≤ w.heap.size) (hBp:B ≤ p) (hA:Below w.heap.size w WA) (hg:WA.grownBy w3 tv.ownBlock) {tv':Value}
  (hv:w3.ownsRow B 50 1 tv' (T.length + 1) (rows valC (T.map (·.1)) ++ [.slice none 0 0])) (i:Nat) :
  Blk (w3.setCell ⟨p,i,none⟩ tv') p t (cs.setIfInBounds i tv')∧SetAt B (w3.setCell ⟨p,i,none⟩ tv') { x with set:={ x.set with thr:=x.set.thr ++ [[]] } } rv pv tv' lv (T ++ [(.slice none 0 0,[])]) L∧Below B w (w3.setCell ⟨p,i,none⟩ tv'):=by
 have hb3:=blk_past hb h.thr ho.c hA hg
 exact ⟨hb3.set_ i _,(h.thread hA hg hv).setO hb3 ho _,below_put h.thr hBw hBp hA hg i _⟩
theorem SetAt.put_line (h:SetAt B w x rv pv tv lv T L) (hb:Blk w p t cs) (ho:Oth t) (hBw:B ≤ w.heap.size) (hBp:B ≤ p) (hA:Below w.heap.size w WA) (hg:WA.grownBy w3 lv.ownBlock) (l:PLine) (n:Nat) {lv' v:Value}
  (hv:w3.ownsRow B 49 2 lv' (L.length + 1) (rows lnC L ++ lnC (l,v))) (ht:w3.ownsRow B 3 1 v l.thr.length (rows natC l.thr)) (hf:∀ q,v.ownBlock=some q→w.heap.size ≤ q) (i:Nat) :
  Blk (w3.setCell ⟨p,i,none⟩ lv') p t (cs.setIfInBounds i lv')∧SetAt B (w3.setCell ⟨p,i,none⟩ lv') ⟨x.set,x.lines ++ [l],n⟩ rv pv tv lv' T (L ++ [(l,v)])∧Below B w (w3.setCell ⟨p,i,none⟩ lv'):=by
 have hb3:=blk_past hb h.lines ho.f hA hg
 exact ⟨hb3.set_ i _,(h.line hA hg hv ht hf).setO hb3 ho _,below_put h.lines hBw hBp hA hg i _⟩
theorem SetAt.put_job {v av:Value} {g gg cap cap':Nat} {T0:List (Value × List (PJob × Value))} {js:List (PJob × Value)} {j:PJob} {wr:World} {N:Nat} (hN:N=T0.length)
  (h:SetAt B w x rv pv (.slice (some ⟨g,0,none⟩) (N + 1) cap) lv (T0 ++ [(v,js)]) L) (hb:Blk w p t cs) (ho:Oth t) (hBw:B ≤ w.heap.size) (hBg:B ≤ g) (hbr:Below w.heap.size w wr) (hA:Below wr.heap.size wr WA)
  (hav:wr.ownsRow w.heap.size 2 1 av j.args.length (rows i64C j.args)) (hg:WA.grownBy w3 v.ownBlock) (hv:w3.ownsRow B 53 2 (.slice (some ⟨gg,0,none⟩) (js.length + 1) cap') (js.length + 1) (rows jbC js ++ jbC (j,av))) (hat:v.ownBlock=some gg ∨ gg=wr.heap.size + 1) :
  Blk (w3.setCell ⟨g,N,none⟩ (.slice (some ⟨gg,0,none⟩) (js.length + 1) cap')) p t cs ∧
  SetAt B (w3.setCell ⟨g,N,none⟩ (.slice (some ⟨gg,0,none⟩) (js.length + 1) cap')) { x with set:={ x.set with thr:=addJob x.set.thr j } } rv pv (.slice (some ⟨g,0,none⟩) (N + 1) cap) lv (T0 ++ [(.slice (some ⟨gg,0,none⟩) (js.length + 1) cap',js ++ [(j,av)])]) L ∧
  Below B w (w3.setCell ⟨g,N,none⟩ (.slice (some ⟨gg,0,none⟩) (js.length + 1) cap')):=by
 subst hN
 have hws:=hbr.size
 have hA':Below w.heap.size w WA:=hbr.trans (hA.mono hws)
 have hjo:w.ownsRow B 53 2 v js.length (rows jbC js):=h.jobs.own (v,js) (by simp)
 have h1:=h.job hA' (own_lower (own_beb hav hA) hBw) (fun q hq=>(hav.lt q hq).1) hg hv (fun q hq=>by
  injection hq with hq
  have hq':gg=q:=hq
  subst hq'
  exact hat.imp id fun h=>by omega)
 have hb3:=blk_past hb hjo ho.d hA' hg
 have hgp:p ≠ g:=fun e=>own_ne_blk h.thr hb ho.c (by rw [e];rfl)
 exact ⟨Blk.far hb3 hgp _,h1,(below_past hjo hBw hA' hg).setCell hBg _⟩
theorem SetAt.lens (h:SetAt B w x rv pv tv lv T L):T.length=x.set.thr.length∧L.length=x.lines.length:=by
 constructor
 ·have:=congrArg List.length h.thrEq
  simpa using this
 ·have:=congrArg List.length h.linesEq
  simpa using this
end
end Go.Proofs.YtiheggkkgbfndaaGreatDoor
