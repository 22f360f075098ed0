/- An instruction's bytes: carouselref13.Bytes. -/
import Derived.Test.YtiheggkkgbfndaaGreatDoorL04
import Derived.Laws.IdiomStrings
import Derived.Lib.BufferRead
import Derived.Test.YtiheggkkgbfndaaGreatDoorL03
import Derived.Shelf.Strings.FieldsAny
import Derived.Shelf.Strconv.Itoa3
import Derived.Test.YtiheggkkgbfndaaGreatDoorL02
import Derived.Test.YtiheggkkgbfndaaGreatDoorRows
namespace Go.Proofs.YtiheggkkgbfndaaGreatDoor
open Go.RowKit Go.Joins Go.ChangeShapes Go.WideShapes Go.Deep
set_option linter.unusedVariables false
set_option linter.unusedSimpArgs false
set_option maxRecDepth 100000
def u64F (v:Int):Nat:=(v % 18446744073709551616).toNat
theorem u64F_lt (v:Int):u64F v < 18446744073709551616:=by unfold u64F;omega
theorem u64_wrap (v:Int):IntKind.u64.wrap v=(u64F v:Int):=by
 unfold u64F
 simp [IntKind.wrap,IntKind.bits,IntKind.signed]
 omega
def byteF (v:Int) (k:Nat):UInt8:=UInt8.ofNat (u64F v / 256 ^ k)
def encB (o:AOp):List UInt8:=UInt8.ofNat o.code :: (List.range (widthF (shapeF o.code))).map (byteF o.operand)
def byc (l:List UInt8):List Value:=l.map fun b=>.int .u8 (b.toNat:Int)
theorem byc_append (l r:List UInt8):byc (l ++ r)=byc l ++ byc r:=by simp [byc]
theorem encB_length (o:AOp):(encB o).length=1 + widthF (shapeF o.code):=by simp [encB];omega
theorem u8_wrap (n:Nat):IntKind.u8.wrap (n:Int)=((UInt8.ofNat n).toNat:Int):=by
 simp [IntKind.wrap,IntKind.bits,IntKind.signed,UInt8.toNat_ofNat']
theorem info_u8:(Tryz.prog.info? 5).map (fun i=>(i.zero,i.size,i.bytes))=some (some (.int .u8 0),1,1):=by kernel_rfl
theorem run_bytes_string {w:World} {B n:Nat} {v:Value} {l:List UInt8} (h:w.ownsRow B 5 1 v n (byc l)) (hn:n=l.length):(convert 73 9 v).run Tryz.prog w=.ok (.string ⟨l.toArray⟩) w:=by
 rcases h.2 with ⟨rfl,rfl⟩ | ⟨g,cap,cur,rfl,_,hh,_⟩
 ·have:l=[]:=List.eq_nil_of_length_eq_zero hn.symm
  subst this
  exact Go.Lib.run_convert_nil_bytes w _ _ _ _ Tryz.underlying73 Tryz.underlying5 Tryz.underlying9
 ·subst hn
  refine run_convert_bytes_back w _ _ _ _ cap l Tryz.underlying73 Tryz.underlying5 Tryz.underlying9 fun j hj=>?_
  have:=h.cells (g:=g) rfl j (.int .u8 (l[j].toNat:Int)) (by simp [byc,hj])
  exact this
theorem own_lit1 {w1:World} {n:Nat} (hs:w1.heap.size=n) {z:Int} {b:UInt8} (h:z=(b.toNat:Int)):(w1.alloc (.cells #[.int .u8 z] 5)).ownsRow n 5 1 (.slice (some ⟨n,0,none⟩) 1 1) 1 (byc [b]):=by
 subst hs h
 exact World.ownsRow_lit _ #[.int .u8 (b.toNat:Int)] 1 (Nat.le_refl _) (by unfold maxLen;omega) rfl
set_option maxHeartbeats 1000000 in
theorem bytes_any (o:AOp) (hc:o.code < 41) (w:World) :
  Calls Tryz.prog 115 #[.agg #[.int .i64 o.code,.int .i64 o.operand]] w fun e w'=>e=.returned (.string ⟨(encB o).toArray⟩)∧Below w.heap.size w w':=by
 obtain ⟨c,v⟩:=o
 simp only at hc ⊢
 have HW:=Lib.hid (fun W=>rwidth_any c hc W)
 obtain ⟨i0,hi,hz0,hz1,hz2⟩:=info_parts info_u8
 obtain ⟨wd,hwd⟩:∃ wd,wd=widthF (shapeF c):=⟨_,rfl⟩
 have hw8:wd ≤ 8:=by rw [hwd];unfold widthF;split <;> (try split) <;> (try split) <;> omega
 have HE:Hid (encB ⟨c,v⟩=UInt8.ofNat c :: (List.range wd).map (byteF v)):=Lib.hid (by rw [hwd];rfl)
 rw [← hwd] at HW
 clear hwd
 have HCM:Hid ((c:Int)=((UInt8.ofNat c).toNat:Int)):=Lib.hid (by simp [UInt8.toNat_ofNat'];omega)
 have hvu:=u64_wrap v
 have hvl:=u64F_lt v
 go_enter Tryz.func115,Tryz.ntmps115
 go_wp2_with (go_at_call 73;refine (HW.out _).mono ?_;rintro r w1 ⟨hr,hw⟩;subst hr;subst hw)
 go_loopg [3,4,6] wd (fun gk bv nv iv wr=>∃ k:Nat,iv=.int .i64 k∧k ≤ wd∧gk=wd - k∧nv=.int .u64 (u64F v / 256 ^ k:Nat)∧wr.ownsRow (w.heap.size + 1) 5 1 bv (k + 1) (byc (UInt8.ofNat c :: (List.range k).map (byteF v)))∧Below w.heap.size w wr)
 case atStart=>exact ⟨0,rfl,Nat.zero_le _,rfl,by rw [Nat.pow_zero,Nat.div_one],own_lit1 (by simp) HCM.out,by repeat (first | with_reducible exact Below.refl _ _ | with_reducible refine Below.drew ?_ | with_reducible refine below_drewN ?_ _ | ((with_reducible refine Below.alloc ?_ ?_ _);(rotate_left;focus (first | with_reducible exact Nat.le_refl _ | omega | (simp;done) | (simp;omega) | (simp [World.setCell];done) | (simp [World.setCell];omega)))) | ((with_reducible refine Below.setCell ?_ ?_ _);(rotate_left;focus (first | with_reducible exact Nat.le_refl _ | omega | (simp;done) | (simp;omega) | (simp [World.setCell];done) | (simp [World.setCell];omega)))))⟩
 case round =>
  obtain ⟨k,rfl,hk,hgk,rfl,hown,hbel⟩:=hrel
  have HG:=Lib.hid hgk
  clear hgk
  have HBE:=Lib.hid hbel
  have hbs:=hbel.size
  clear hbel
  by_cases hkw:k < wd
  ·have e1:decide ((k:Int) < (wd:Int))=true:=decide_eq_true (by omega)
   have e2:decide (k < wd)=true:=decide_eq_true hkw
   have hcv:IntKind.u8.wrap ((u64F v / 256 ^ k:Nat):Int)=((byteF v k).toNat:Int):=u8_wrap _
   have hXl:u64F v / 256 ^ k ≤ u64F v:=Nat.div_le_self _ _
   have HX:Hid (u64F v / 256 ^ k / 256=u64F v / 256 ^ (k + 1)):=Lib.hid (by rw [Nat.div_div_eq_div_mul,Nat.pow_succ])
   obtain ⟨X,hX⟩:∃ X,X=u64F v / 256 ^ k:=⟨_,rfl⟩
   rw [← hX] at hcv hXl HX ⊢
   clear hX
   have hc2:∀ u ∈ ([.int .u8 ((byteF v k).toNat:Int)]:List Value),u.oneCell'=true:=(by intro u hu;simp at hu;subst hu;rfl)
   have hc3:k + 1 + 1 ≤ maxLen:=(by unfold maxLen;omega)
   have hc4:(k + 1 + 1) * 1 ≤ 140737488355328:=(by omega)
   have hc5:w.heap.size + 1 ≤ (wr.alloc (.cells #[.int .u8 ((byteF v k).toNat:Int)] 5)).heap.size:=(by simp;omega)
   go_wp2_with (at_builtin;go_must (refine wpList_append_own _ rfl _ _ 73 rfl (w.heap.size + 1) 5 i0 (.int .u8 0) 1 1 Tryz.underlying73 hi hz0 hz1 hz2 rfl (by decide) _ _ _ rfl (hown.alloc _) ⟨wr.heap.size,0,none⟩ 1 1 [.int .u8 ((byteF v k).toNat:Int)] rfl rfl (cell_one_new _ _ _) hc2 hc3 hc4 hc5 ?_;intro v' w1 hown' hgrow _))
   have hbf:Below w.heap.size w w1:=(HBE.out.alloc hbs _).trans ((below_grown (hown.alloc _) hgrow hc5).mono (by omega))
   clear hgrow
   go_roundg (wd - (k + 1))
   case measure=>have:=HG.out;omega
   case rel=>exact ⟨k + 1,by simp,by omega,rfl,by rw [← HX.out];simp,by
    have:=hown'
    rw [List.range_succ,List.map_append,← List.cons_append,byc_append]
    exact this,hbf⟩
  ·obtain rfl:k=wd:=by omega
   have e1:decide ((k:Int) < (k:Int))=false:=decide_eq_false (by omega)
   have hrun:=run_bytes_string hown (by simp)
   rw [← HE.out] at hrun
   go_wp2
   go_ret
   exact ⟨rfl,HBE.out⟩
def bytesOf (L:List AOp):List UInt8:=L.flatMap encB
theorem bytesOf_take (L:List AOp) (i:Nat) (h:i < L.length):bytesOf (L.take (i + 1))=bytesOf (L.take i) ++ encB L[i]:=by
 unfold bytesOf
 rw [List.take_succ_eq_append_getElem h,List.flatMap_append,List.flatMap_cons,List.flatMap_nil,List.append_nil]
theorem bytesOf_le (L:List AOp) (i:Nat):(bytesOf (L.take i)).length ≤ (bytesOf L).length:=by
 have h:bytesOf L=bytesOf (L.take i) ++ bytesOf (L.drop i):=by
  unfold bytesOf
  rw [← List.flatMap_append,List.take_append_drop]
 rw [h,List.length_append]
 omega
theorem opc_at (L:List AOp) (i:Nat) (h:i < L.length):(rows opc L)[i * 2]?=some (.int .i64 (L[i]).code)∧(rows opc L)[i * 2 + 1]?=some (.int .i64 (L[i]).operand) :=
 ⟨by have:=rows_at opc 2 opc_len L i 0 h (by omega);simpa [opc] using this,by have:=rows_at opc 2 opc_len L i 1 h (by omega);simpa [opc] using this⟩
theorem shr_byte (v:Int) (k:Nat):IntKind.u8.wrap ((u64F v:Int) / 2 ^ (8 * k))=((byteF v k).toNat:Int):=by
 have e:((u64F v:Int) / 2 ^ (8 * k))=((u64F v / 256 ^ k:Nat):Int):=by
  have:(256:Nat) ^ k=2 ^ (8 * k):=by rw [Nat.pow_mul]
  rw [this]
  simp
 rw [e]
 exact u8_wrap _
set_option maxHeartbeats 2000000 in
theorem enc_ok (L:List AOp) (A:Option Addr) (n c:Nat) (w:World) (hS:ShapesAt w) (hA:Reads w w.heap.size 2 A n (rows opc L)) (hn:n ≤ 512)
  (hL:∀ o ∈ L,o.code < 41∧fitsF (shapeF o.code) o.operand=true) (ht:(bytesOf L).length ≤ 512) :
  Calls Tryz.prog 100 #[.slice A n c] w fun e w'=>e=.returned (.tuple #[.string ⟨(bytesOf L).toArray⟩,.int .i64 0,.int .i64 0])∧Below w.heap.size w w':=by
 have hlen:L.length=n:=by have:=hA.1;rw [rows_length opc 2 opc_len] at this;omega
 have HL:=Lib.hid hlen
 clear hlen
 have HLL:=Lib.hid hL
 clear hL
 obtain ⟨i0,hi,hz0,hz1,hz2⟩:=info_parts info_u8
 have HT:=Lib.hid ht
 clear ht
 have hlt:=hS.lt
 go_enter Tryz.func100,Tryz.ntmps100
 go_wp2_with fail
 go_loopg [5,12] n (fun gk bv iv wr=>∃ i:Nat,iv=.int .i64 i∧i ≤ n∧gk=n - i∧wr.ownsRow w.heap.size 5 1 bv (bytesOf (L.take i)).length (byc (bytesOf (L.take i)))∧Below w.heap.size w wr)
 case atStart=>exact ⟨0,rfl,Nat.zero_le _,rfl,World.ownsRow_nil _ _ _ _,Below.refl _ _⟩
 case round =>
  obtain ⟨i,rfl,hi1,hgk,hown,hbel⟩:=hrel
  have HG:=Lib.hid hgk
  clear hgk
  by_cases hin:i < n
  ·have e1:decide ((i:Int) < (n:Int))=true:=decide_eq_true (by omega)
   have e2:decide (i < n)=true:=decide_eq_true hin
   obtain ⟨b,off,rfl,hb,hc⟩:=reads_flat (hA.below hbel) (by omega) (by omega)
   have hil:i < L.length:=by rw [HL.out];exact hin
   obtain ⟨p0,p1⟩:=opc_at L i hil
   obtain ⟨hcl,hfit⟩:=HLL.out L[i] (List.getElem_mem hil)
   have hbt:=bytesOf_take L i hil
   have hble:=bytesOf_le L (i + 1)
   obtain ⟨⟨co,v⟩,ho⟩:∃ o,o=L[i]:=⟨_,rfl⟩
   rw [← ho] at p0 p1 hcl hfit hbt
   have cx0:wr.cell? ⟨b,off + i * 2,none⟩=some (.int .i64 co):=hc _ _ p0
   have cx1:wr.cell? ⟨b,off + i * 2 + 1,none⟩=some (.int .i64 v):=hc _ _ p1
   simp only at hcl hfit
   have HSA:ShapesAt wr:=hS.below hbel hS.lt
   have hlt2:=HSA.lt
   have hsh:=HSA.cell co hcl
   have h7:shapeF co < 7:=by rcases shape_cases co hcl with h | h | h | h | h | h | h <;> omega
   obtain ⟨sh,hshh⟩:∃ sh,sh=shapeF co:=⟨_,rfl⟩
   rw [← hshh] at hsh h7 hfit
   have HW:=Lib.hid (fun W=>width_any sh h7 W)
   have HF0:∀ W,Calls Tryz.prog 119 #[.int .u8 sh,.int .i64 v] W fun r w'=>r=.returned (.bool true)∧w'=W:=fun W=>(fits_any sh h7 v W).mono fun r w' h=>⟨by rw [h.1,hfit],h.2⟩
   have HF:=Lib.hid HF0
   obtain ⟨wd,hwd⟩:∃ wd,wd=widthF sh:=⟨_,rfl⟩
   have hw8:wd ≤ 8:=by rw [hwd];unfold widthF;split <;> (try split) <;> (try split) <;> omega
   rw [← hwd] at HW
   have hencl:encB ⟨co,v⟩=UInt8.ofNat co :: (List.range wd).map (byteF v):=by rw [hwd,hshh];rfl
   have d0:decide ((co:Int) < 0)=false:=decide_eq_false (by omega)
   have d1:decide ((41:Int) ≤ (co:Int))=false:=decide_eq_false (by omega)
   have d2:decide (41 ≤ co)=false:=decide_eq_false (by omega)
   have hcu:IntKind.u8.wrap (co:Int)=((UInt8.ofNat co).toNat:Int):=u8_wrap co
   have hvu:=u64_wrap v
   have hvl:=u64F_lt v
   obtain ⟨pre,hpre⟩:∃ pre,pre=bytesOf (L.take i):=⟨_,rfl⟩
   rw [← hpre] at hown hbt
   have hpl:pre.length + 1 + wd ≤ 512:=by
    have:=HT.out
    rw [hbt,List.length_append,hencl] at hble
    simp at hble
    omega
   have HBT:=Lib.hid hbt
   have HEN:=Lib.hid hencl
   have HBE:=Lib.hid hbel
   have hbs:=hbel.size
   clear hc p0 p1 hfit hbt hble ho hshh HF0 hwd hencl hpre hbel HSA
   have hc2:∀ u ∈ ([.int .u8 ((UInt8.ofNat co).toNat:Int)]:List Value),u.oneCell'=true:=(by intro u hu;simp at hu;subst hu;rfl)
   have hc3:pre.length + 1 ≤ maxLen:=(by unfold maxLen;omega)
   have hc4:(pre.length + 1) * 1 ≤ 140737488355328:=(by omega)
   have hown1:=(hown.alloc (.cells #[.int .i64 co,.int .i64 v] 113)).alloc (.cells #[.int .u8 ((UInt8.ofNat co).toNat:Int)] 5)
   have hc5:w.heap.size ≤ ((wr.alloc (.cells #[.int .i64 co,.int .i64 v] 113)).alloc (.cells #[.int .u8 ((UInt8.ofNat co).toNat:Int)] 5)).heap.size:=(by simp;omega)
   go_upto_region 11 with (first
    | (go_at_call 119;refine (HF.out _).mono ?_;rintro r w1 ⟨hr,hw⟩;subst hr;subst hw)
    | (at_builtin;go_must (refine wpList_append_own _ rfl (.tmp 36) (.tmp 40) 73 rfl w.heap.size 5 i0 (.int .u8 0) 1 1 Tryz.underlying73 hi hz0 hz1 hz2 rfl (by decide) _ _ _ rfl hown1 ⟨wr.heap.size + 1,0,none⟩ 1 1 [.int .u8 ((UInt8.ofNat co).toNat:Int)] rfl rfl (World.news_of_block (cs:=#[.int .u8 ((UInt8.ofNat co).toNat:Int)]) (t:=5) (fr:=(0,0)) (by have:=heap_alloc_new (wr.alloc (.cells #[.int .i64 co,.int .i64 v] 113)) (.cells #[.int .u8 ((UInt8.ofNat co).toNat:Int)] 5);simpa using this)) hc2 hc3 hc4 hc5 ?_;intro v' w2 hown2 hgrow2 _)))
   have hB2:Blk w2 wr.heap.size 113 #[.int .i64 co,.int .i64 v]:=((Blk.new wr _ _).alloc _).grown hgrow2 (fun hh=>own_ne_blk hown1 ((Blk.new wr _ _).alloc _) (by decide) hh.symm)
   have hb2:Below w.heap.size w w2:=((HBE.out.alloc hbs _).alloc (by simp;omega) _).trans (below_grown hown1 hgrow2 hc5)
   clear hgrow2 hown1 hc2 hc3 hc4 hc5 cx0 cx1 hsh hown
   have HB2:=Lib.hid hb2
   have hbs2:=hb2.size
   clear hb2
   obtain ⟨gb,hgb⟩:∃ gb,gb=wr.heap.size:=⟨_,rfl⟩
   rw [← hgb] at hB2 ⊢
   have HGB:=Lib.hid hgb
   clear hgb
   go_wp2_with (go_at_call 117;refine (HW.out _).mono ?_;rintro r w1 ⟨hr,hw⟩;subst hr;subst hw)
   obtain ⟨wo,rfl⟩:∃ wo,wo=wr:=⟨_,rfl⟩
   go_loopg [5,9,44] wd (fun gk bv _ kv W=>∃ k:Nat,kv=.int .i64 k∧k ≤ wd∧gk=wd - k∧W.ownsRow w.heap.size 5 1 bv (pre.length + 1 + k) (byc (pre ++ UInt8.ofNat co :: (List.range k).map (byteF v)))∧Blk W gb 113 #[.int .i64 co,.int .i64 v]∧Below w.heap.size w W)
   case atStart=>exact ⟨0,rfl,Nat.zero_le _,rfl,by rw [byc_append];exact hown2,hB2,HB2.out⟩
   case round =>
    obtain ⟨k,rfl,hk,hgk,howk,hBk,hbk⟩:=hrel
    have HGK:=Lib.hid hgk
    clear hgk
    have HBK:=Lib.hid hbk
    have hbks:=hbk.size
    clear hbk
    have x0:wr.cell? ⟨gb,0,none⟩=some (.int .i64 co):=(hBk.cell 0).trans rfl
    have x1:wr.cell? ⟨gb,1,none⟩=some (.int .i64 v):=(hBk.cell 1).trans rfl
    have hgl:=hBk.lt
    by_cases hkw:k < wd
    ·have f1:decide ((k:Int) < (wd:Int))=true:=decide_eq_true (by omega)
     have f2:decide (k < wd)=true:=decide_eq_true hkw
     have hsb:=shr_byte v k
     obtain ⟨y,hy⟩:∃ y,y=byteF v k:=⟨_,rfl⟩
     rw [← hy] at hsb
     have HY:=Lib.hid hy
     clear hy
     have hc2:∀ u ∈ ([.int .u8 (y.toNat:Int)]:List Value),u.oneCell'=true:=(by intro u hu;simp at hu;subst hu;rfl)
     have hc3:pre.length + 1 + k + 1 ≤ maxLen:=(by unfold maxLen;omega)
     have hc4:(pre.length + 1 + k + 1) * 1 ≤ 140737488355328:=(by omega)
     have hown1:=howk.alloc (.cells #[.int .u8 (y.toNat:Int)] 5)
     have hc5:w.heap.size ≤ (wr.alloc (.cells #[.int .u8 (y.toNat:Int)] 5)).heap.size:=(by simp;omega)
     go_wp2_with (at_builtin;go_must (refine wpList_append_own _ rfl _ _ 73 rfl w.heap.size 5 i0 (.int .u8 0) 1 1 Tryz.underlying73 hi hz0 hz1 hz2 rfl (by decide) _ _ _ rfl hown1 ⟨wr.heap.size,0,none⟩ 1 1 [.int .u8 (y.toNat:Int)] rfl rfl (cell_one_new _ _ _) hc2 hc3 hc4 hc5 ?_;intro v' w3 hown3 hgrow3 _))
     have hB3:Blk w3 gb 113 #[.int .i64 co,.int .i64 v]:=(hBk.alloc _).grown hgrow3 (fun hh=>own_ne_blk hown1 (hBk.alloc _) (by decide) hh.symm)
     have hb3:Below w.heap.size w w3:=(HBK.out.alloc hbks _).trans (below_grown hown1 hgrow3 hc5)
     clear hgrow3
     go_roundg (wd - (k + 1))
     case measure=>have:=HGK.out;omega
     case rel=>exact ⟨k + 1,by simp,by omega,rfl,by
      have:=hown3
      rw [List.range_succ,List.map_append,← List.cons_append,← List.append_assoc,byc_append _ (List.map _ [k]),List.map_cons,List.map_nil,← HY.out]
      exact this,hB3,hb3⟩
    ·obtain rfl:k=wd:=by omega
     have f1:decide ((k:Int) < (k:Int))=false:=decide_eq_false (by omega)
     obtain ⟨R,c3,rfl,_,_⟩:=own_shapes howk
     have f2:decide ((512:Int) < ((pre.length + 1 + k:Nat):Int))=false:=decide_eq_false (by omega)
     have f3:decide (512 < pre.length + 1 + k)=false:=decide_eq_false (by omega)
     have f4:decide ((512:Int) < (pre.length:Int) + 1 + (k:Int))=false:=decide_eq_false (by omega)
     go_wp2_with fail
     go_roundg (n - (i + 1))
     case measure=>have:=HG.out;omega
     case rel=>exact ⟨i + 1,by simp,by omega,rfl,by
      rw [HBT.out,HEN.out,List.length_append,List.length_cons,List.length_map,List.length_range]
      rw [show pre.length + (k + 1)=pre.length + 1 + k by omega]
      exact howk,HBK.out⟩
  ·obtain rfl:i=n:=by omega
   have e1:decide ((i:Int) < (i:Int))=false:=decide_eq_false (by omega)
   have htk:L.take i=L:=List.take_of_length_le (by rw [HL.out];exact Nat.le_refl _)
   rw [htk] at hown
   have hrun:=run_bytes_string hown rfl
   clear htk
   go_wp2
   go_ret3
   exact ⟨rfl,hbel⟩
def sizeF (L:List AOp):Nat:=(L.map fun o=>1 + widthF (shapeF o.code)).sum
theorem sizeF_snoc (L:List AOp) (o:AOp):sizeF (L ++ [o])=sizeF L + (1 + widthF (shapeF o.code)):=by simp [sizeF]
theorem sizeF_take (L:List AOp) (i:Nat) (h:i < L.length):sizeF (L.take (i + 1))=sizeF (L.take i) + (1 + widthF (shapeF L[i].code)):=by
 rw [List.take_succ_eq_append_getElem h,sizeF_snoc]
theorem sizeF_le (L:List AOp) (i:Nat):sizeF (L.take i) ≤ sizeF L:=by
 have h:sizeF L=sizeF (L.take i) + sizeF (L.drop i):=by
  have:=List.sum_append (l₁:=(L.take i).map fun o=>1 + widthF (shapeF o.code)) (l₂:=(L.drop i).map fun o=>1 + widthF (shapeF o.code))
  rw [← List.map_append,List.take_append_drop] at this
  exact this
 omega
theorem Dec.size {s:List Nat} {L:List AOp} {p:Nat} (h:Dec s L p):p=sizeF L:=by
 induction h with
 | nil=>rfl
 | snoc h1 h2 h3 ih=>rw [sizeF_snoc,(atF_bound h3).2.2.1,← ih]
theorem Dec.good {s:List Nat} {L:List AOp} {p:Nat} (h:Dec s L p):∀ o ∈ L,o.code < 41∧fitsF (shapeF o.code) o.operand=true:=by
 induction h with
 | nil=>intro o ho;cases ho
 | snoc h1 h2 h3 ih =>
  intro o ho
  rcases List.mem_append.1 ho with ho | ho
  ·exact ih o ho
  ·obtain rfl:=List.mem_singleton.1 ho
   exact ⟨(atF_bound h3).2.1,(atF_bound h3).2.2.2.2⟩

def leadsF (c:Nat):Bool:=c == 24 || c == 25 || c == 26
def begF (L:List AOp) (m:Nat) (n:Int):Bool:=n == (sizeF L:Int) || (List.range m).any fun i=>n == (sizeF (L.take i):Int)
theorem begF_succ (L:List AOp) (m:Nat) (n:Int):begF L (m + 1) n=(begF L m n || n == (sizeF (L.take m):Int)):=by
 unfold begF
 rw [List.range_succ,List.any_append,List.any_cons,List.any_nil,Bool.or_false,Bool.or_assoc]
def toF (o:AOp) (p:Nat):Int:=if o.code=26 then o.operand else o.operand + p + 3
def tgtF (L:List AOp) (o:AOp) (p:Nat):Option Int:=if leadsF o.code && begF L L.length (toF o p) then some (toF o p) else none
def tgtAt (L:List AOp) (i:Nat):Option Int:=tgtF L (L.getD i ⟨0,0⟩) (sizeF (L.take i))
def markF (L:List AOp) (m:Nat) (n:Int):Bool:=(List.range m).any fun i=>tgtAt L i == some n
theorem markF_some (L:List AOp) (m:Nat) {t:Int} (h:tgtAt L m=some t) (n:Int):markF L (m + 1) n=(markF L m n || n == t):=by
 unfold markF
 rw [List.range_succ,List.any_append,List.any_cons,List.any_nil,Bool.or_false,h]
 congr 1
 rw [Bool.eq_iff_iff]
 simp
 exact eq_comm
theorem markF_none (L:List AOp) (m:Nat) (h:tgtAt L m=none) (n:Int):markF L (m + 1) n=markF L m n:=by
 unfold markF
 rw [List.range_succ,List.any_append,List.any_cons,List.any_nil,Bool.or_false,h]
 simp
def labelB (n:Int):List UInt8:=76 :: (Lib.itoa n ++ [58,10])
def labF (L:List AOp) (p:Nat):List UInt8:=if markF L L.length p then labelB p else []
def wordsText:List UInt8:=[99,111,109,109,105,116,32,112,117,115,104,56,32,112,117,115,104,49,54,32,112,117,115,104,54,52,32,100,117,112,32,100,114,111,112,32,115,119,97,112,32,111,118,101,114,32,97,100,100,32,115,117,98,32,109,117,108,32,100,105,118,32,114,101,109,32,97,110,100,32,111,114,32,120,111,114,32,110,111,116,32,115,104,108,32,115,104,114,32,117,115,104,114,32,101,113,32,108,116,32,117,108,116,32,99,111,110,118,32,106,117,109,112,32,106,117,109,112,122,32,99,97,108,108,32,114,101,116,32,97,114,103,32,116,101,108,108,32,97,98,111,114,116,32,108,111,97,100,32,115,116,111,114,101,32,99,97,100,100,32,99,103,101,116,32,99,112,117,116,32,99,100,101,108,32,99,108,101,110,32,99,104,97,115,32,99,108,101,97,115,116,32,99,110,101,120,116]
def wordsB:List (List UInt8):=[[99,111,109,109,105,116],[112,117,115,104,56],[112,117,115,104,49,54],[112,117,115,104,54,52],[100,117,112],[100,114,111,112],[115,119,97,112],[111,118,101,114],[97,100,100],[115,117,98],[109,117,108],[100,105,118],[114,101,109],[97,110,100],[111,114],[120,111,114],[110,111,116],[115,104,108],[115,104,114],[117,115,104,114],[101,113],[108,116],[117,108,116],[99,111,110,118],[106,117,109,112],[106,117,109,112,122],[99,97,108,108],[114,101,116],[97,114,103],[116,101,108,108],[97,98,111,114,116],[108,111,97,100],[115,116,111,114,101],[99,97,100,100],[99,103,101,116],[99,112,117,116],[99,100,101,108],[99,108,101,110],[99,104,97,115],[99,108,101,97,115,116],[99,110,101,120,116]]
theorem words_fields:Lib.fieldsD wordsText=wordsB:=by decide +kernel
theorem words_len:wordsB.length=41:=by decide
def oprF (L:List AOp) (i:Nat):List UInt8:=match tgtAt L i with
 | some t=>32 :: 76 :: Lib.itoa t
 | none=>if 0 < widthF (shapeF (L.getD i ⟨0,0⟩).code) then 32 :: Lib.itoa (L.getD i ⟨0,0⟩).operand else []
def lineF (L:List AOp) (i:Nat):List UInt8:=labF L (sizeF (L.take i)) ++ wordsB.getD (L.getD i ⟨0,0⟩).code [] ++ oprF L i ++ [10]
def linesF (L:List AOp) (m:Nat):List UInt8:=(List.range m).flatMap (lineF L)
theorem linesF_succ (L:List AOp) (m:Nat):linesF L (m + 1)=linesF L m ++ lineF L m:=by
 unfold linesF
 rw [List.range_succ,List.flatMap_append,List.flatMap_cons,List.flatMap_nil,List.append_nil]
def printF (L:List AOp):List UInt8:=linesF L L.length ++ labF L (sizeF L)
theorem word_len (c:Nat):(wordsB.getD c []).length ≤ 6:=by
 have h:∀ x ∈ wordsB,x.length ≤ 6:=by decide
 rw [List.getD_eq_getElem?_getD]
 cases hx:wordsB[c]? with
 | none=>simp
 | some x=>exact h x (List.mem_of_getElem? hx)
end Go.Proofs.YtiheggkkgbfndaaGreatDoor
namespace Go.Proofs.YtiheggkkgbfndaaGreatDoor
open Go Go.Lib
set_option linter.unusedVariables false
set_option linter.unusedSimpArgs false
def isLet (c:UInt8):Bool:=c == 95 || (decide (97 ≤ c.toNat) && decide (c.toNat ≤ 122)) || (decide (65 ≤ c.toNat) && decide (c.toNat ≤ 90))
def chF (i:Nat) (c:UInt8):Bool:=isLet c || (decide (0 < i) && isDig c)
def nameF (s:List UInt8):Bool:=!s.isEmpty && decide (s.length ≤ 16) && (List.range s.length).all fun i=>chF i (s.getD i 0)
def codeF (s:List UInt8):Option Nat:=(List.range 41).find? fun i=>wordsB.getD i [] == s
structure Ins where
 code:Nat
 operand:Int
 pos:Nat
 name:Tok
def noTok:Tok:=⟨[],0⟩
structure RSt where
 labels:List (List UInt8 × Nat)
 ins:List Ins
def Ins.op (x:Ins):AOp:=⟨x.code,x.operand⟩
def RSt.size (r:RSt):Nat:=sizeF (r.ins.map Ins.op)
def labF2 (l:List (List UInt8 × Nat)) (n:List UInt8):Option Nat:=(l.find? fun p=>p.1 == n).map (·.2)
def oprL (c:Nat) (u:Tok):Except Nat (Int × Tok):=match numF u.s with
 | some n=>if fitsF (shapeF c) n then .ok (n,noTok) else .error 12
 | none=>if leadsF c && nameF u.s then .ok (0,u) else .error 9
def endL (r:RSt) (t:Tok) (c:Nat) (o:Int) (nm:Tok) (rest:List Tok):Except (Nat × Nat) RSt:=match rest with
 | x :: _=>.error (9,x.pos)
 | []=>if 512 < r.size + (1 + widthF (shapeF c)) then .error (2,t.pos) else .ok ⟨r.labels,r.ins ++ [⟨c,o,r.size,nm⟩]⟩
def insL (r:RSt) (t:Tok) (rest:List Tok):Except (Nat × Nat) RSt:=match codeF t.s with
 | none=>.error (9,t.pos)
 | some c=>if 0 < widthF (shapeF c) then (match rest with
   | []=>.error (9,t.pos + t.s.length)
   | u :: rest'=>match oprL c u with
    | .error e=>.error (e,u.pos)
    | .ok (o,nm)=>endL r t c o nm rest')
  else endL r t c 0 noTok rest
def lineL (r:RSt) (l:List Tok):Except (Nat × Nat) RSt:=match l with
 | []=>.ok r
 | t :: rest=>if t.s.getLast? == some 58 then (
   if nameF t.s.dropLast=false then .error (9,t.pos)
   else if (labF2 r.labels t.s.dropLast).isSome then .error (11,t.pos)
   else match rest with
    | []=>.ok ⟨r.labels ++ [(t.s.dropLast,r.size)],r.ins⟩
    | u :: rest'=>insL ⟨r.labels ++ [(t.s.dropLast,r.size)],r.ins⟩ u rest')
  else insL r t rest
def linesL:RSt→List (List Tok)→Except (Nat × Nat) RSt
 | r,[]=>.ok r
 | r,l :: ls=>match lineL r l with
  | .error e=>.error e
  | .ok r'=>linesL r' ls
def resOne (labels:List (List UInt8 × Nat)) (x:Ins):Except (Nat × Nat) AOp :=
 if x.name.s=[] then .ok x.op else match labF2 labels x.name.s with
  | none=>.error (11,x.name.pos)
  | some k=>.ok ⟨x.code,if x.code=26 then (k:Int) else (k:Int) - (x.pos + 3)⟩
def resL (labels:List (List UInt8 × Nat)):List Ins→Except (Nat × Nat) (List AOp)
 | []=>.ok []
 | x :: r=>match resOne labels x with
  | .error e=>.error e
  | .ok o=>match resL labels r with
   | .error e=>.error e
   | .ok L=>.ok (o :: L)
def parseF (t:List UInt8):Except (Nat × Nat) (List AOp):=match linesL ⟨[],[]⟩ (lineToks t) with
 | .error e=>.error e
 | .ok r=>resL r.labels r.ins
end Go.Proofs.YtiheggkkgbfndaaGreatDoor
namespace Go.Proofs.YtiheggkkgbfndaaGreatDoor
structure Reg where
 kind:Int
 cap:Int
structure Cfg where
 raw:Int
 ring:Int
 writes:Int
 stamps:Int
 multi:Bool
 tries:Int
def regOk (r:Reg):Prop:=1 ≤ r.kind∧r.kind ≤ 4∧0 ≤ r.cap∧r.cap ≤ 16
instance (r:Reg):Decidable (regOk r):=by unfold regOk;infer_instance
def cfgOk (c:Cfg) (l:List Reg):Prop :=
 1 ≤ c.raw∧c.raw ≤ 64∧1 ≤ c.ring∧c.ring ≤ 16∧1 ≤ c.writes∧c.writes ≤ 24∧1 ≤ c.stamps∧c.stamps ≤ 1099511627776∧1 ≤ c.tries∧c.tries ≤ 255∧l.length ≤ 8∧∀ r ∈ l,regOk r
instance (c:Cfg) (l:List Reg):Decidable (cfgOk c l):=by unfold cfgOk;infer_instance
end Go.Proofs.YtiheggkkgbfndaaGreatDoor
namespace Go.Proofs.YtiheggkkgbfndaaGreatDoor
open Go Go.Lib
set_option linter.unusedVariables false
set_option linter.unusedSimpArgs false
structure PJob where
 prog:Nat
 args:List Int
structure PSet where
 cfg:Cfg
 regs:List Reg
 progs:List (List UInt8)
 thr:List (List PJob)
structure PLine where
 kind:Nat
 thr:List Nat
structure SSt where
 set:PSet
 lines:List PLine
 steps:Nat
def maxI:Int:=9223372036854775807
def minI:Int:=-9223372036854775808
def numIn (s:List UInt8) (lo hi:Int):Option Int:=match numF s with
 | some n=>if lo ≤ n∧n ≤ hi then some n else none
 | none=>none
def wConfig:List UInt8:=[99,111,110,102,105,103]
def wSingle:List UInt8:=[115,105,110,103,108,101]
def wMulti:List UInt8:=[109,117,108,116,105]
def wRegion:List UInt8:=[114,101,103,105,111,110]
def wProgram:List UInt8:=[112,114,111,103,114,97,109]
def wThread:List UInt8:=[116,104,114,101,97,100]
def wJob:List UInt8:=[106,111,98]
def wRun:List UInt8:=[114,117,110]
def wEnd:List UInt8:=[101,110,100]
def kindsL:List (List UInt8):=[[99,111,117,110,116,101,114],[113,117,101,117,101],[100,105,99,116],[99,104,97,105,110]]
def looksL:List (List UInt8):=[[99,101,108,108,115],[115,104,97,112,101,115],[114,105,110,103],[115,116,97,116,101],[111,114,100,101,114],[119,111,114,100,115]]
def kindF (s:List UInt8):Option Nat:=((List.range 4).find? fun i=>kindsL.getD i [] == s).map (· + 1)
def lookF (s:List UInt8):Option Nat:=((List.range 6).find? fun i=>looksL.getD i [] == s).map (· + 2)
def nextL (t:List UInt8):Option (List UInt8 × List UInt8):=match t with
 | []=>none
 | c :: r=>if c=10 then some ([],r) else (nextL r).map fun x=>(c :: x.1,x.2)
def configL (l : List UInt8) : Option Cfg := match splitF 32 l with
  | [w, a, b, c, d, e, k] =>
    if w = wConfig ∧ (k = wSingle ∨ k = wMulti) then
      (match numIn a 0 maxI, numIn b 0 maxI, numIn c 0 maxI, numIn d 0 maxI, numIn e 0 maxI with
       | some a, some b, some c, some d, some e => some ⟨a, b, c, d, k == wMulti, e⟩
       | _, _, _, _, _ => none)
    else none
  | _ => none
def regionL (w:List (List UInt8)):Option Reg:=match w with
 | [_,k,c]=>(match numIn c 0 maxI,kindF k with
  | some n,some k=>some ⟨k,n⟩
  | _,_=>none)
 | _=>none
def argsL:List (List UInt8)→Option (List Int)
 | []=>some []
 | s :: l=>match numIn s minI maxI,argsL l with
  | some n,some r=>some (n :: r)
  | _,_=>none
def addJob (thr:List (List PJob)) (j:PJob):List (List PJob):=thr.dropLast ++ [thr.getLast?.getD [] ++ [j]]
def jobL (s:PSet) (w:List (List UInt8)):Except Nat PSet:=match w with
 | _ :: p :: rs=>if s.thr.isEmpty then .error 9 else (match numIn p 0 maxI,argsL rs with
  | some n,some args=>if 4 < args.length ∨ (s.thr.getLast?.getD []).length=32 then .error 2
   else if (s.progs.length:Int) ≤ n then .error 11
   else .ok { s with thr:=addJob s.thr ⟨n.toNat,args⟩ }
  | _,_=>.error 9)
 | _=>.error 9
def cutAt (c:UInt8):List UInt8→Option (List UInt8 × List UInt8)
 | []=>none
 | b :: r=>if b=c then some ([],r) else (cutAt c r).map fun x=>(b :: x.1,x.2)
def itemL (s:List UInt8):Option (Nat × Nat):=match cutAt 42 s with
 | none=>(numIn s 0 99).map fun n=>(n.toNat,1)
 | some (a,b)=>match numIn a 0 99,numIn b 2 20000 with
  | some n,some k=>some (n.toNat,k.toNat)
  | _,_=>none
def itemsL:List (List UInt8)→Option (List (Nat × Nat))
 | []=>some []
 | s :: l=>match itemL s,itemsL l with
  | some x,some r=>some (x :: r)
  | _,_=>none
def manyF (l:List (Nat × Nat)):Nat:=(l.map (·.2)).sum
def spread (l:List (Nat × Nat)):List Nat:=l.flatMap fun x=>List.replicate x.2 x.1
def runL (x:SSt) (w:List (List UInt8)):Except Nat SSt:=match w with
 | _ :: i :: is=>(match itemsL (i :: is) with
  | none=>.error 9
  | some l=>if 20000 < x.steps + manyF l then .error 2 else .ok ⟨x.set,x.lines ++ [⟨1,spread l⟩],x.steps + manyF l⟩)
 | _=>.error 9
def partL (w:List UInt8):Nat:=if w=wRegion then 1 else if w=wProgram then 2 else if w=wThread ∨ w=wJob then 3 else 4
def bodyL:Nat→List UInt8→Option (List UInt8 × List UInt8)
 | 0,_=>none
 | f + 1,t=>match nextL t with
  | none=>none
  | some (l,r)=>if l=wEnd then some ([],r) else (bodyL f r).map fun x=>(l ++ 10 :: x.1,x.2)
def plainL (x:SSt) (l:List UInt8) (w:List (List UInt8)):Except Nat SSt :=
 if w.head?=some wRegion then (match regionL w with | some r=>.ok { x with set:={ x.set with regs:=x.set.regs ++ [r] } } | none=>.error 9)
 else if l=wThread then (if x.set.thr.length=8 then .error 2 else .ok { x with set:={ x.set with thr:=x.set.thr ++ [[]] } })
 else if w.head?=some wJob then (match jobL x.set w with | .ok s=>.ok { x with set:=s } | .error e=>.error e)
 else if w.head?=some wRun then runL x w
 else match lookF l with
  | some k=>.ok { x with lines:=x.lines ++ [⟨k,[]⟩] }
  | none=>.error 9
def goesL : Nat → Nat → Nat → SSt → List UInt8 → Except (Nat × Nat) SSt
 | 0, _, _, x, _ => .ok x
 | f + 1, pos, part, x, t => if t = [] then .ok x else match nextL t with
  | none => .error (9, pos)
  | some (l, r) =>
   let p := partL ((splitF 32 l).head?.getD [])
   if p < part then .error (9, pos)
   else if l = wProgram then
    (if x.set.progs.length = 16 then .error (2, pos) else match bodyL (r.length + 1) r with
     | none => .error (9, pos + t.length)
     | some (b, r') => match parseF b with
      | .error e => .error (e.1, pos + l.length + 1 + e.2)
      | .ok L => goesL f (pos + (t.length - r'.length)) p { x with set := { x.set with progs := x.set.progs ++ [bytesOf L] } } r')
   else match plainL x l (splitF 32 l) with
    | .error e => .error (e, pos)
    | .ok x' => goesL f (pos + l.length + 1) p x' r
def parseS (t:List UInt8):Except (Nat × Nat) SSt :=
 if 65535 < t.length then .error (9,65535) else match nextL t with
 | none=>.error (9,0)
 | some (l,r)=>match configL l with
  | none=>.error (9,0)
  | some c=>match goesL (r.length + 1) (l.length + 1) 1 ⟨⟨c,[],[],[]⟩,[],0⟩ r with
   | .error e=>.error e
   | .ok x=>if cfgOk x.set.cfg x.set.regs then .ok x else .error (13,0)
/-! ### Print -/
def rowT (w:List UInt8) (l:List Int):List UInt8:=w ++ (l.flatMap fun n=>32 :: itoa n) ++ [10]
def runsF:List Nat→List (Nat × Nat)
 | []=>[]
 | a :: l=>match runsF l with
  | (b,k) :: r=>if a=b then (b,k + 1) :: r else (a,1) :: (b,k) :: r
  | []=>[(a,1)]
def itemT (x:Nat × Nat):List UInt8:=32 :: (itoa (x.1:Int) ++ if 1 < x.2 then 42 :: itoa (x.2:Int) else [])
def stepsT (l:List Nat):List UInt8:=wRun ++ (runsF l).flatMap itemT ++ [10]
def configT (c:Cfg):List UInt8:=wConfig ++ (32 :: itoa c.raw) ++ (32 :: itoa c.ring) ++ (32 :: itoa c.writes) ++ (32 :: itoa c.stamps) ++ (32 :: itoa c.tries) ++ 32 :: ((if c.multi then wMulti else wSingle) ++ [10])
def regionT (r:Reg):List UInt8:=rowT (wRegion ++ 32 :: kindsL.getD (r.kind.toNat - 1) []) [r.cap]
def progT (p:List UInt8):List UInt8:=wProgram ++ [10] ++ p ++ wEnd ++ [10]
def jobT (j:PJob):List UInt8:=rowT wJob ((j.prog:Int) :: j.args)
def threadT (l:List PJob):List UInt8:=wThread ++ [10] ++ l.flatMap jobT
def lineT (x:PLine):List UInt8:=if x.kind=1 then stepsT x.thr else looksL.getD (x.kind - 2) [] ++ [10]
def textS (s:PSet) (ps:List (List UInt8)) (l:List PLine):List UInt8:=configT s.cfg ++ s.regs.flatMap regionT ++ ps.flatMap progT ++ s.thr.flatMap threadT ++ l.flatMap lineT
end Go.Proofs.YtiheggkkgbfndaaGreatDoor
