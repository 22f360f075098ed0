/- carousel/code.At. -/
import Derived.Test.YtiheggkkgbfndaaGreatDoorL02
import Derived.Lib.EndianBits
import Derived.Deep.CutRange
import Derived.Deep.RegionWith
namespace Go.Proofs.YtiheggkkgbfndaaGreatDoor
open Go.RowKit Go.Joins Go.ChangeShapes Go.WideShapes Go.Deep
set_option linter.unusedVariables false
set_option linter.unusedSimpArgs false
set_option maxRecDepth 100000
structure ShapesAt (w:World):Prop where
 lt:1 < w.heap.size
 cell:∀ c,c < 41→w.cell? ⟨1,c,none⟩=some (.int .u8 (shapeF c))
def bytesL (s:ByteArray):List Nat:=s.data.toList.map UInt8.toNat
theorem bytesL_length (s:ByteArray):(bytesL s).length=s.size:=by simp [bytesL]
theorem bytesL_at (s:ByteArray) (i:Nat) (h:i < s.size):(bytesL s)[i]'(by rw [bytesL_length];exact h)=(s[i]).toNat:=by
 simp [bytesL];rfl
theorem or_byte (k z y:Nat) (hk:k < 8) (hz:z < 256 ^ k) (hy:y < 256):bits BinOp.or IntKind.u64 (z:Int) (IntKind.u64.wrap (IntKind.u64.wrap (y:Int) * 2 ^ (8 * k)))=((z + 256 ^ k * y:Nat):Int):=by
 have e:(256:Nat) ^ k=2 ^ (8 * k):=by rw [Nat.pow_mul]
 rw [e] at hz ⊢
 have hb:(2:Nat) ^ (8 * k) ≤ 2 ^ 56:=Nat.pow_le_pow_right (by decide) (by omega)
 have h56:(2:Nat) ^ 56=72057594037927936:=by decide
 have hx:y * 2 ^ (8 * k) ≤ 255 * 2 ^ 56:=Nat.mul_le_mul (by omega) hb
 have hw:IntKind.u64.wrap (y:Int)=y:=Go.u64_wrap_id (y:Int) (by omega) (by omega)
 have hc:((2:Int) ^ (8 * k))=((2 ^ (8 * k):Nat):Int):=by simp
 have hw2:IntKind.u64.wrap (IntKind.u64.wrap (y:Int) * 2 ^ (8 * k))=((y * 2 ^ (8 * k):Nat):Int):=by
  rw [hw,hc,← Int.natCast_mul]
  exact Go.u64_wrap_id _ (by omega) (by omega)
 rw [hw2]
 have h64:(2:Int) ^ 64=18446744073709551616:=by decide
 have hm:((y * 2 ^ (8 * k):Nat):Int) % 2 ^ (8 * k)=0:=by
  rw [hc,← Int.natCast_emod,Nat.mul_mod_left]
  rfl
 have:=Go.bits_join_low .u64 64 (by decide) Go.wraps_u64 (8 * k) (z:Int) ((y * 2 ^ (8 * k):Nat):Int) (by omega) (by rw [hc];omega) (by omega) (by omega) hm (by omega)
 rw [this,Nat.mul_comm y]
 omega
def partF (s:ByteArray) (i k:Nat):Nat:=leF (((bytesL s).drop (i + 1)).take k)
theorem partF_succ (s:ByteArray) (i k:Nat) (h:k < (s.extract (i + 1) s.size).size):partF s i (k + 1)=partF s i k + 256 ^ k * ((s.extract (i + 1) s.size)[k]).toNat:=by
 have hl:i + 1 + k < s.size:=by
  rw [ByteArray.size_extract] at h
  omega
 have hd:k < ((bytesL s).drop (i + 1)).length:=by rw [List.length_drop,bytesL_length];omega
 unfold partF
 rw [List.take_succ_eq_append_getElem hd,leF_snoc,List.length_take,Nat.min_eq_left (Nat.le_of_lt hd),List.getElem_drop,bytesL_at s (i + 1 + k) hl,ByteArray.getElem_extract]
theorem partF_lt (s:ByteArray) (i k:Nat) (h:k ≤ s.size - (i + 1)):partF s i k < 256 ^ k:=by
 unfold partF
 have:=leF_lt (((bytesL s).drop (i + 1)).take k) (fun b hb=>by
  have:=List.mem_of_mem_drop (List.mem_of_mem_take hb)
  simp only [bytesL,List.mem_map] at this
  obtain ⟨u,_,rfl⟩:=this
  exact u.toNat_lt)
 rw [List.length_take,List.length_drop,bytesL_length,Nat.min_eq_left h] at this
 exact this
def atV:Option (AOp × Nat)→Value
 | none=>.tuple #[.agg #[.int .i64 0,.int .i64 0],.int .i64 0,.int .i64 10]
 | some (o,n)=>.tuple #[.agg #[.int .i64 o.code,.int .i64 o.operand],.int .i64 n,.int .i64 0]
theorem bytesL_getD (s:ByteArray) (i:Nat) (h:i < s.size):(bytesL s).getD i 0=(s[i]).toNat:=by
 rw [List.getD_eq_getElem?_getD,List.getElem?_eq_getElem (by rw [bytesL_length];exact h),Option.getD_some,bytesL_at s i h]
theorem atF_no41 (s:ByteArray) (i:Nat) (h:i < s.size) (hc:¬ (s[i]).toNat < 41):atF (bytesL s) i=none:=by
 unfold atF
 simp only [bytesL_length,h,if_true,bytesL_getD s i h,hc,if_false]
theorem atF_short (s:ByteArray) (i:Nat) (h:i < s.size) (hc:(s[i]).toNat < 41) (hw:¬ widthF (shapeF (s[i]).toNat) ≤ s.size - (i + 1)):atF (bytesL s) i=none:=by
 unfold atF
 simp only [bytesL_length,h,if_true,bytesL_getD s i h,hc,hw,if_false]
theorem atF_bad (s:ByteArray) (i:Nat) (h:i < s.size) (hc:(s[i]).toNat < 41) (hw:widthF (shapeF (s[i]).toNat) ≤ s.size - (i + 1)) (hf:fitsF (shapeF (s[i]).toNat) (valueF (shapeF (s[i]).toNat) (partF s i (widthF (shapeF (s[i]).toNat))))=false):atF (bytesL s) i=none:=by
 unfold partF at hf
 unfold atF
 simp only [bytesL_length,h,if_true,bytesL_getD s i h,hc,hw,hf]
 rfl
theorem atF_good (s:ByteArray) (i:Nat) (h:i < s.size) (hc:(s[i]).toNat < 41) (hw:widthF (shapeF (s[i]).toNat) ≤ s.size - (i + 1)) (hf:fitsF (shapeF (s[i]).toNat) (valueF (shapeF (s[i]).toNat) (partF s i (widthF (shapeF (s[i]).toNat))))=true):atF (bytesL s) i=some (⟨(s[i]).toNat,valueF (shapeF (s[i]).toNat) (partF s i (widthF (shapeF (s[i]).toNat)))⟩,1 + widthF (shapeF (s[i]).toNat)):=by
 unfold partF at hf ⊢
 unfold atF
 simp only [bytesL_length,h,if_true,bytesL_getD s i h,hc,hw,hf]
def AtPost (w:World) (r:Option (AOp × Nat)) (e:Ending) (w':World):Prop:=e=.returned (atV r)∧Below w.heap.size w w'
theorem at_41 (s:ByteArray) (i:Nat) (w:World) (hs:s.size ≤ 4611686018427387904) (hi:i < s.size) (hc:¬ (s[i]).toNat < 41) :
  Calls Tryz.prog 97 #[.string s,.int .i64 i] w (AtPost w none):=by
 have d1:decide ((i:Int) < 0)=false:=decide_eq_false (by omega)
 have d2:decide ((s.size:Int) ≤ (i:Int))=false:=decide_eq_false (by omega)
 have d3:decide (s.size ≤ i)=false:=decide_eq_false (by omega)
 have d4:decide ((41:Int) ≤ ((s[i]).toNat:Int))=true:=decide_eq_true (by omega)
 have d5:decide (41 ≤ (s[i]).toNat)=true:=decide_eq_true (by omega)
 clear hc
 go_enter Tryz.func97,Tryz.ntmps97
 go_wp2
 refine bodyPost_ret (v:=.tuple #[.agg #[.int .i64 0,.int .i64 0],.int .i64 0,.int .i64 10]) (by simp [results,Tryz.results97,go_sem]) rfl ?_
 exact ⟨rfl,by repeat (first | with_reducible exact Below.refl _ _ | with_reducible refine Below.drew ?_ | with_reducible refine below_drewN ?_ _ | ((with_reducible refine Below.alloc ?_ ?_ _);(rotate_left;focus (first | with_reducible exact Nat.le_refl _ | omega | (simp;done) | (simp;omega) | (simp [World.setCell];done) | (simp [World.setCell];omega)))) | ((with_reducible refine Below.setCell ?_ ?_ _);(rotate_left;focus (first | with_reducible exact Nat.le_refl _ | omega | (simp;done) | (simp;omega) | (simp [World.setCell];done) | (simp [World.setCell];omega)))))⟩
set_option maxHeartbeats 1000000 in
theorem at_long (s:ByteArray) (i:Nat) (w:World) (hS:ShapesAt w) (hs:s.size ≤ 4611686018427387904) (hi:i < s.size) (hc:(s[i]).toNat < 41) (hle0:widthF (shapeF (s[i]).toNat) ≤ s.size - (i + 1)) :
    Calls Tryz.prog 97 #[.string s,.int .i64 i] w (AtPost w (atF (bytesL s) i)):=by
  have hsh:=hS.cell (s[i]).toNat hc
  have HAB:=Lib.hid (atF_bad s i hi hc hle0)
  have HAG:=Lib.hid (atF_good s i hi hc hle0)
  have h7:shapeF (s[i]).toNat < 7:=by rcases shape_cases (s[i]).toNat hc with h | h | h | h | h | h | h <;> omega
  obtain ⟨sh,hshh⟩:∃ sh,sh=shapeF (s[i]).toNat:=⟨_,rfl⟩
  have d4:decide ((41:Int) ≤ ((s[i]).toNat:Int))=false:=decide_eq_false (by omega)
  have d5:decide (41 ≤ (s[i]).toNat)=false:=decide_eq_false (by omega)
  rw [← hshh] at hsh h7 hle0 HAB HAG
  have HW:=Lib.hid (fun W=>width_any sh h7 W)
  have d1:decide ((i:Int) < 0)=false:=decide_eq_false (by omega)
  have d2:decide ((s.size:Int) ≤ (i:Int))=false:=decide_eq_false (by omega)
  have d3:decide (s.size ≤ i)=false:=decide_eq_false (by omega)
  have hlt:=hS.lt
  have HSH:=Lib.hid hshh
  have wi:IntKind.i64.wrap ((i:Int) + 1)=(i:Int) + 1:=IntWalk.i64_in _ ⟨by omega,by omega⟩
  have hi2:(i:Int) + 1 ≤ (s.size:Int):=by omega
  clear hS hshh
  have hle:=hle0
  clear hle0
  have hwl:widthF sh ≤ 8:=by unfold widthF;split <;> (try split) <;> (try split) <;> omega
  have d6:decide (s.size - (i + 1) < widthF sh)=false:=decide_eq_false (by omega)
  go_enter Tryz.func97,Tryz.ntmps97
  go_upto_region 8 with (go_at_call 117;refine (HW.out _).mono ?_;rintro r w1 ⟨hr,hw⟩;subst hr;subst hw)
  obtain ⟨wd,hwd⟩:∃ wd,wd=widthF sh:=⟨_,rfl⟩
  rw [← hwd] at hwl hle HAB HAG ⊢
  have HWD:=Lib.hid hwd
  clear hwd
  have HB0:=Lib.hid (Blk.new w 113 #[.int .i64 0,.int .i64 0])
  have HB1:=Lib.hid (show Below w.heap.size w (w.alloc (.cells #[.int .i64 0,.int .i64 0] 113)) from (Below.refl _ _).alloc (Nat.le_refl _) _)
  generalize w.alloc (.cells #[.int .i64 0,.int .i64 0] 113)=W1 at *
  go_wp2_with fail
  go_loopg [10,45] wd (fun gk nv kv wr=>∃ k:Nat,kv=.int .i64 k∧k ≤ wd∧gk=wd - k∧nv=.int .u64 (partF s i k:Nat)∧wr=W1)
  case atStart=>exact ⟨0,rfl,Nat.zero_le _,rfl,by simp [partF,leF],rfl⟩
  case round =>
    obtain ⟨k,rfl,hk,hgk,rfl,rfl⟩:=hrel
    by_cases hkw:k < wd
    · have e1:decide ((k:Int) < (wd:Int))=true:=decide_eq_true (by omega)
      go_upto_region 13 with fail
      have hx:k < (s.extract (i + 1) s.size).size:=by rw [ByteArray.size_extract];omega
      have PX:=partF_succ s i k hx
      have PL:=partF_lt s i k (by omega)
      obtain ⟨b,hb⟩:∃ b,b=((s.extract (i + 1) s.size)[k]).toNat:=⟨_,rfl⟩
      have hb2:b < 256:=by rw [hb];exact UInt8.toNat_lt _
      have OB:=or_byte k (partF s i k) b (by omega) PL hb2
      rw [← hb] at PX
      rw [← PX] at OB
      rw [← hb,OB]
      clear OB PX PL hb hb2
      (have HGK:=Lib.hid hgk);clear hgk
      go_wp2_with fail
      go_roundg (wd - (k + 1))
      case measure=>have:=HGK.out;omega
      case rel=>exact ⟨k + 1,by simp,by omega,rfl,rfl,rfl⟩
    · obtain rfl:k=wd:=by omega
      (have HGK:=Lib.hid hgk);clear hgk
      go_upto_region 14 with fail
      have HV:=Lib.hid (fun W=>value_any sh (partF s i k) h7 (by rw [← HWD.out];exact partF_lt s i k (by omega)) W)
      obtain ⟨c,hcc⟩:∃ c,c=(s[i]).toNat:=⟨_,rfl⟩
      rw [← hcc] at hc d4 d5 hsh HSH HAG ⊢
      have HCC:=Lib.hid hcc
      clear hcc
      obtain ⟨V,hV⟩:∃ V,V=valueF sh (partF s i k):=⟨_,rfl⟩
      rw [← hV] at HV HAB HAG
      have HVV:=Lib.hid hV
      clear hV
      go_cut [12] from 58 to 65 (fun p wc=>p=.pointer (some ⟨wr.heap.size,0,none⟩)∧wc=(wr.alloc (.cells #[.int .i64 (IntKind.i64.wrap (c:Int)),.int .i64 V] 113)).drew)
      case first =>
       go_region_with (go_at_call 118;refine (HV.out _).mono ?_;rintro r w1 ⟨hr,hw⟩;subst hr;subst hw)
       all_goals (go_wp2_with fail)
       all_goals go_meet
       all_goals (refine ⟨rfl,?_⟩;first | rfl | (rw [HCC.out]))
      case rest =>
       obtain ⟨rfl,rfl⟩:=hcut
       have hcw:IntKind.i64.wrap (c:Int)=c:=IntWalk.i64_in _ ⟨by omega,by omega⟩
       rw [hcw]
       have B1:Blk ((wr.alloc (.cells #[.int .i64 (c:Int),.int .i64 V] 113)).drew) wr.heap.size 113 #[.int .i64 (c:Int),.int .i64 V]:=(Blk.new wr _ _).drew
       have B0:Blk ((wr.alloc (.cells #[.int .i64 (c:Int),.int .i64 V] 113)).drew) w.heap.size 113 #[.int .i64 0,.int .i64 0]:=(HB0.out.alloc _).drew
       have hne:w.heap.size ≠ wr.heap.size:=Nat.ne_of_lt HB0.out.lt
       have hne':wr.heap.size ≠ w.heap.size:=Ne.symm hne
       have x0:((wr.alloc (.cells #[.int .i64 (c:Int),.int .i64 V] 113)).drew).cell? ⟨wr.heap.size,0,none⟩=some (.int .i64 (c:Int)):=(B1.cell 0).trans rfl
       have x1:((wr.alloc (.cells #[.int .i64 (c:Int),.int .i64 V] 113)).drew).cell? ⟨wr.heap.size,1,none⟩=some (.int .i64 V):=(B1.cell 1).trans rfl
       have y0:((wr.alloc (.cells #[.int .i64 (c:Int),.int .i64 V] 113)).drew).cell? ⟨w.heap.size,0,none⟩=some (.int .i64 0):=(B0.cell 0).trans rfl
       have y1:((wr.alloc (.cells #[.int .i64 (c:Int),.int .i64 V] 113)).drew).cell? ⟨w.heap.size,1,none⟩=some (.int .i64 0):=(B0.cell 1).trans rfl
       have f0:((wr.alloc (.cells #[.int .i64 (c:Int),.int .i64 V] 113)).drew).frozen? ⟨w.heap.size,0,none⟩=false:=B0.frozen 0
       have f1:((wr.alloc (.cells #[.int .i64 (c:Int),.int .i64 V] 113)).drew).frozen? ⟨w.heap.size,1,none⟩=false:=B0.frozen 1
       have HBE:=Lib.hid (show Below w.heap.size w ((wr.alloc (.cells #[.int .i64 (c:Int),.int .i64 V] 113)).drew) from (HB1.out.alloc HB1.out.size _).drew)
       have hl1:=B1.lt
       have hl0:=B0.lt
       have HX1:=Lib.hid B1
       have HX0:=Lib.hid B0
       clear B1 B0 hcw
       generalize (wr.alloc (.cells #[.int .i64 (c:Int),.int .i64 V] 113)).drew=W2 at *
       obtain ⟨G,hG⟩:∃ G,G=wr.heap.size:=⟨_,rfl⟩
       obtain ⟨R,hR⟩:∃ R,R=w.heap.size:=⟨_,rfl⟩
       rw [← hG] at x0 x1 hne hne' hl1 HX1 ⊢
       rw [← hR] at y0 y1 f0 f1 hne hne' hl0 HX0 HBE ⊢
       have HGW:=Lib.hid hG
       have HRW:=Lib.hid hR
       clear hG hR
       have HF:=Lib.hid (fun W=>fits_any sh h7 V W)
       obtain ⟨F,hF⟩:∃ F,F=fitsF sh V:=⟨_,rfl⟩
       rw [← hF] at HF HAB HAG
       have HFF:=Lib.hid hF
       clear hF
       cases F
       · have HAX:=Lib.hid (HAB.out rfl)
         clear HAB HAG
         go_upto_region 16 with (go_at_call 119;refine (HF.out _).mono ?_;rintro r w1 ⟨hr,hw⟩;subst hr;subst hw)
         go_wp2
         refine bodyPost_ret (v:=.tuple #[.agg #[.int .i64 0,.int .i64 0],.int .i64 0,.int .i64 10]) (by simp [results,Tryz.results97,go_sem,y0,y1]) rfl ?_
         exact ⟨by rw [HAX.out];rfl,by rw [← HRW.out];exact (HBE.out.setCell (Nat.le_refl _) _).setCell (Nat.le_refl _) _⟩
       · have HAX:=Lib.hid (HAG.out rfl)
         clear HAB HAG
         go_upto_region 17 with (go_at_call 119;refine (HF.out _).mono ?_;rintro r w1 ⟨hr,hw⟩;subst hr;subst hw)
         go_wp2
         refine bodyPost_ret (v:=.tuple #[.agg #[.int .i64 c,.int .i64 V],.int .i64 (1 + k),.int .i64 0]) (by simp [results,Tryz.results97,go_sem,y0,y1]) rfl ?_
         exact ⟨by rw [HAX.out];simp only [atV];rfl,by rw [← HRW.out];exact (HBE.out.setCell (Nat.le_refl _) _).setCell (Nat.le_refl _) _⟩
theorem at_short (s:ByteArray) (i:Nat) (w:World) (hS:ShapesAt w) (hs:s.size ≤ 4611686018427387904) (hi:i < s.size) (hc:(s[i]).toNat < 41) (hw:¬ widthF (shapeF (s[i]).toNat) ≤ s.size - (i + 1)) :
  Calls Tryz.prog 97 #[.string s,.int .i64 i] w (AtPost w none):=by
 have hsh:=hS.cell (s[i]).toNat hc
 have h7:shapeF (s[i]).toNat < 7:=by rcases shape_cases (s[i]).toNat hc with h | h | h | h | h | h | h <;> omega
 obtain ⟨sh,hshh⟩:∃ sh,sh=shapeF (s[i]).toNat:=⟨_,rfl⟩
 have d4:decide ((41:Int) ≤ ((s[i]).toNat:Int))=false:=decide_eq_false (by omega)
 have d5:decide (41 ≤ (s[i]).toNat)=false:=decide_eq_false (by omega)
 rw [← hshh] at hsh h7 hw
 have HW:=Lib.hid (fun W=>width_any sh h7 W)
 have d1:decide ((i:Int) < 0)=false:=decide_eq_false (by omega)
 have d2:decide ((s.size:Int) ≤ (i:Int))=false:=decide_eq_false (by omega)
 have d3:decide (s.size ≤ i)=false:=decide_eq_false (by omega)
 have hlt:=hS.lt
 have wi:IntKind.i64.wrap ((i:Int) + 1)=(i:Int) + 1:=IntWalk.i64_in _ ⟨by omega,by omega⟩
 have hi2:(i:Int) + 1 ≤ (s.size:Int):=by omega
 clear hS hshh
 have d6:decide (s.size - (i + 1) < widthF sh)=true:=decide_eq_true (by omega)
 clear hw
 go_enter Tryz.func97,Tryz.ntmps97
 go_wp2_with (go_at_call 117;refine (HW.out _).mono ?_;rintro r w1 ⟨hr,hw⟩;subst hr;subst hw)
 refine bodyPost_ret (v:=.tuple #[.agg #[.int .i64 0,.int .i64 0],.int .i64 0,.int .i64 10]) (by simp [results,Tryz.results97,go_sem]) rfl ?_
 exact ⟨rfl,by repeat (first | with_reducible exact Below.refl _ _ | with_reducible refine Below.drew ?_ | with_reducible refine below_drewN ?_ _ | ((with_reducible refine Below.alloc ?_ ?_ _);(rotate_left;focus (first | with_reducible exact Nat.le_refl _ | omega | (simp;done) | (simp;omega) | (simp [World.setCell];done) | (simp [World.setCell];omega)))) | ((with_reducible refine Below.setCell ?_ ?_ _);(rotate_left;focus (first | with_reducible exact Nat.le_refl _ | omega | (simp;done) | (simp;omega) | (simp [World.setCell];done) | (simp [World.setCell];omega)))))⟩
theorem at_any (s:ByteArray) (i:Nat) (w:World) (hS:ShapesAt w) (hs:s.size ≤ 4611686018427387904) (hi:i < s.size) :
  Calls Tryz.prog 97 #[.string s,.int .i64 i] w (AtPost w (atF (bytesL s) i)):=by
 by_cases hc:(s[i]).toNat < 41
 ·by_cases hw:widthF (shapeF (s[i]).toNat) ≤ s.size - (i + 1)
  ·exact at_long s i w hS hs hi hc hw
  ·rw [atF_short s i hi hc hw]
   exact at_short s i w hS hs hi hc hw
 ·rw [atF_no41 s i hi hc]
  exact at_41 s i w hs hi hc
def loF (sh:Nat):Int:=if sh=1 then -128 else if sh=2 then -32768 else if sh=3 then -9223372036854775808 else 0
def hiF (sh:Nat):Int:=if sh=1 then 127 else if sh=2 then 32767 else if sh=3 then 9223372036854775807 else if sh=4 then 5 else if sh=5 then 255 else if sh=6 then 65535 else 0
theorem fits_range (sh:Nat) (h:sh < 7) (n:Int) (h1:-9223372036854775808 ≤ n) (h2:n ≤ 9223372036854775807):fitsF sh n=decide (loF sh ≤ n∧n ≤ hiF sh):=by
 match sh,h with
 | 0,_=>rw [Bool.eq_iff_iff];simp [fitsF,loF,hiF];omega
 | 1,_=>rw [Bool.eq_iff_iff];simp [fitsF,loF,hiF]
 | 2,_=>rw [Bool.eq_iff_iff];simp [fitsF,loF,hiF]
 | 3,_=>rw [Bool.eq_iff_iff];simp [fitsF,loF,hiF];omega
 | 4,_=>rw [Bool.eq_iff_iff];simp [fitsF,loF,hiF];omega
 | 5,_=>rw [Bool.eq_iff_iff];simp [fitsF,loF,hiF]
 | 6,_=>rw [Bool.eq_iff_iff];simp [fitsF,loF,hiF]
theorem rwidth_any (c:Nat) (hc:c < 41) (w:World):Calls Tryz.prog 73 #[.int .i64 c] w fun r w'=>r=.returned (.int .i64 (widthF (shapeF c):Nat))∧w'=w:=by
 have hcs:c=0 ∨ c=1 ∨ c=2 ∨ c=3 ∨ c=4 ∨ c=5 ∨ c=6 ∨ c=7 ∨ c=8 ∨ c=9 ∨ c=10 ∨ c=11 ∨ c=12 ∨ c=13 ∨ c=14 ∨ c=15 ∨ c=16 ∨ c=17 ∨ c=18 ∨ c=19 ∨ c=20 ∨ c=21 ∨ c=22 ∨ c=23 ∨ c=24 ∨ c=25 ∨ c=26 ∨ c=27 ∨ c=28 ∨ c=29 ∨ c=30 ∨ c=31 ∨ c=32 ∨ c=33 ∨ c=34 ∨ c=35 ∨ c=36 ∨ c=37 ∨ c=38 ∨ c=39 ∨ c=40:=by omega
 clear hc
 rcases hcs with rfl | rfl | rfl | rfl | rfl | rfl | rfl | rfl | rfl | rfl | rfl | rfl | rfl | rfl | rfl | rfl | rfl | rfl | rfl | rfl | rfl | rfl | rfl | rfl | rfl | rfl | rfl | rfl | rfl | rfl | rfl | rfl | rfl | rfl | rfl | rfl | rfl | rfl | rfl | rfl | rfl
 ·(go_enter Tryz.func73,Tryz.ntmps73);go_wp2;go_ret;exact ⟨rfl,rfl⟩
 ·(go_enter Tryz.func73,Tryz.ntmps73);go_wp2;go_ret;exact ⟨rfl,rfl⟩
 ·(go_enter Tryz.func73,Tryz.ntmps73);go_wp2;go_ret;exact ⟨rfl,rfl⟩
 ·(go_enter Tryz.func73,Tryz.ntmps73);go_wp2;go_ret;exact ⟨rfl,rfl⟩
 ·(go_enter Tryz.func73,Tryz.ntmps73);go_wp2;go_ret;exact ⟨rfl,rfl⟩
 ·(go_enter Tryz.func73,Tryz.ntmps73);go_wp2;go_ret;exact ⟨rfl,rfl⟩
 ·(go_enter Tryz.func73,Tryz.ntmps73);go_wp2;go_ret;exact ⟨rfl,rfl⟩
 ·(go_enter Tryz.func73,Tryz.ntmps73);go_wp2;go_ret;exact ⟨rfl,rfl⟩
 ·(go_enter Tryz.func73,Tryz.ntmps73);go_wp2;go_ret;exact ⟨rfl,rfl⟩
 ·(go_enter Tryz.func73,Tryz.ntmps73);go_wp2;go_ret;exact ⟨rfl,rfl⟩
 ·(go_enter Tryz.func73,Tryz.ntmps73);go_wp2;go_ret;exact ⟨rfl,rfl⟩
 ·(go_enter Tryz.func73,Tryz.ntmps73);go_wp2;go_ret;exact ⟨rfl,rfl⟩
 ·(go_enter Tryz.func73,Tryz.ntmps73);go_wp2;go_ret;exact ⟨rfl,rfl⟩
 ·(go_enter Tryz.func73,Tryz.ntmps73);go_wp2;go_ret;exact ⟨rfl,rfl⟩
 ·(go_enter Tryz.func73,Tryz.ntmps73);go_wp2;go_ret;exact ⟨rfl,rfl⟩
 ·(go_enter Tryz.func73,Tryz.ntmps73);go_wp2;go_ret;exact ⟨rfl,rfl⟩
 ·(go_enter Tryz.func73,Tryz.ntmps73);go_wp2;go_ret;exact ⟨rfl,rfl⟩
 ·(go_enter Tryz.func73,Tryz.ntmps73);go_wp2;go_ret;exact ⟨rfl,rfl⟩
 ·(go_enter Tryz.func73,Tryz.ntmps73);go_wp2;go_ret;exact ⟨rfl,rfl⟩
 ·(go_enter Tryz.func73,Tryz.ntmps73);go_wp2;go_ret;exact ⟨rfl,rfl⟩
 ·(go_enter Tryz.func73,Tryz.ntmps73);go_wp2;go_ret;exact ⟨rfl,rfl⟩
 ·(go_enter Tryz.func73,Tryz.ntmps73);go_wp2;go_ret;exact ⟨rfl,rfl⟩
 ·(go_enter Tryz.func73,Tryz.ntmps73);go_wp2;go_ret;exact ⟨rfl,rfl⟩
 ·(go_enter Tryz.func73,Tryz.ntmps73);go_wp2;go_ret;exact ⟨rfl,rfl⟩
 ·(go_enter Tryz.func73,Tryz.ntmps73);go_wp2;go_ret;exact ⟨rfl,rfl⟩
 ·(go_enter Tryz.func73,Tryz.ntmps73);go_wp2;go_ret;exact ⟨rfl,rfl⟩
 ·(go_enter Tryz.func73,Tryz.ntmps73);go_wp2;go_ret;exact ⟨rfl,rfl⟩
 ·(go_enter Tryz.func73,Tryz.ntmps73);go_wp2;go_ret;exact ⟨rfl,rfl⟩
 ·(go_enter Tryz.func73,Tryz.ntmps73);go_wp2;go_ret;exact ⟨rfl,rfl⟩
 ·(go_enter Tryz.func73,Tryz.ntmps73);go_wp2;go_ret;exact ⟨rfl,rfl⟩
 ·(go_enter Tryz.func73,Tryz.ntmps73);go_wp2;go_ret;exact ⟨rfl,rfl⟩
 ·(go_enter Tryz.func73,Tryz.ntmps73);go_wp2;go_ret;exact ⟨rfl,rfl⟩
 ·(go_enter Tryz.func73,Tryz.ntmps73);go_wp2;go_ret;exact ⟨rfl,rfl⟩
 ·(go_enter Tryz.func73,Tryz.ntmps73);go_wp2;go_ret;exact ⟨rfl,rfl⟩
 ·(go_enter Tryz.func73,Tryz.ntmps73);go_wp2;go_ret;exact ⟨rfl,rfl⟩
 ·(go_enter Tryz.func73,Tryz.ntmps73);go_wp2;go_ret;exact ⟨rfl,rfl⟩
 ·(go_enter Tryz.func73,Tryz.ntmps73);go_wp2;go_ret;exact ⟨rfl,rfl⟩
 ·(go_enter Tryz.func73,Tryz.ntmps73);go_wp2;go_ret;exact ⟨rfl,rfl⟩
 ·(go_enter Tryz.func73,Tryz.ntmps73);go_wp2;go_ret;exact ⟨rfl,rfl⟩
 ·(go_enter Tryz.func73,Tryz.ntmps73);go_wp2;go_ret;exact ⟨rfl,rfl⟩
 ·(go_enter Tryz.func73,Tryz.ntmps73);go_wp2;go_ret;exact ⟨rfl,rfl⟩
theorem range_any (c:Nat) (hc:c < 41) (w:World):Calls Tryz.prog 126 #[.int .i64 c] w fun r w'=>r=.returned (.tuple #[.int .i64 (loF (shapeF c)),.int .i64 (hiF (shapeF c))])∧w'=w:=by
 have HW:=Lib.hid (fun W=>rwidth_any c hc W)
 have hcs:c=0 ∨ c=1 ∨ c=2 ∨ c=3 ∨ c=4 ∨ c=5 ∨ c=6 ∨ c=7 ∨ c=8 ∨ c=9 ∨ c=10 ∨ c=11 ∨ c=12 ∨ c=13 ∨ c=14 ∨ c=15 ∨ c=16 ∨ c=17 ∨ c=18 ∨ c=19 ∨ c=20 ∨ c=21 ∨ c=22 ∨ c=23 ∨ c=24 ∨ c=25 ∨ c=26 ∨ c=27 ∨ c=28 ∨ c=29 ∨ c=30 ∨ c=31 ∨ c=32 ∨ c=33 ∨ c=34 ∨ c=35 ∨ c=36 ∨ c=37 ∨ c=38 ∨ c=39 ∨ c=40:=by omega
 clear hc
 rcases hcs with rfl | rfl | rfl | rfl | rfl | rfl | rfl | rfl | rfl | rfl | rfl | rfl | rfl | rfl | rfl | rfl | rfl | rfl | rfl | rfl | rfl | rfl | rfl | rfl | rfl | rfl | rfl | rfl | rfl | rfl | rfl | rfl | rfl | rfl | rfl | rfl | rfl | rfl | rfl | rfl | rfl
 ·(go_enter Tryz.func126,Tryz.ntmps126);go_wp2_with (go_at_call 73;refine (HW.out _).mono ?_;rintro r w1 ⟨hr,hw⟩;subst hr;subst hw);go_ret2;exact ⟨rfl,rfl⟩
 ·(go_enter Tryz.func126,Tryz.ntmps126);go_wp2_with (go_at_call 73;refine (HW.out _).mono ?_;rintro r w1 ⟨hr,hw⟩;subst hr;subst hw);go_ret2;exact ⟨rfl,rfl⟩
 ·(go_enter Tryz.func126,Tryz.ntmps126);go_wp2_with (go_at_call 73;refine (HW.out _).mono ?_;rintro r w1 ⟨hr,hw⟩;subst hr;subst hw);go_ret2;exact ⟨rfl,rfl⟩
 ·(go_enter Tryz.func126,Tryz.ntmps126);go_wp2_with (go_at_call 73;refine (HW.out _).mono ?_;rintro r w1 ⟨hr,hw⟩;subst hr;subst hw);go_ret2;exact ⟨rfl,rfl⟩
 ·(go_enter Tryz.func126,Tryz.ntmps126);go_wp2_with (go_at_call 73;refine (HW.out _).mono ?_;rintro r w1 ⟨hr,hw⟩;subst hr;subst hw);go_ret2;exact ⟨rfl,rfl⟩
 ·(go_enter Tryz.func126,Tryz.ntmps126);go_wp2_with (go_at_call 73;refine (HW.out _).mono ?_;rintro r w1 ⟨hr,hw⟩;subst hr;subst hw);go_ret2;exact ⟨rfl,rfl⟩
 ·(go_enter Tryz.func126,Tryz.ntmps126);go_wp2_with (go_at_call 73;refine (HW.out _).mono ?_;rintro r w1 ⟨hr,hw⟩;subst hr;subst hw);go_ret2;exact ⟨rfl,rfl⟩
 ·(go_enter Tryz.func126,Tryz.ntmps126);go_wp2_with (go_at_call 73;refine (HW.out _).mono ?_;rintro r w1 ⟨hr,hw⟩;subst hr;subst hw);go_ret2;exact ⟨rfl,rfl⟩
 ·(go_enter Tryz.func126,Tryz.ntmps126);go_wp2_with (go_at_call 73;refine (HW.out _).mono ?_;rintro r w1 ⟨hr,hw⟩;subst hr;subst hw);go_ret2;exact ⟨rfl,rfl⟩
 ·(go_enter Tryz.func126,Tryz.ntmps126);go_wp2_with (go_at_call 73;refine (HW.out _).mono ?_;rintro r w1 ⟨hr,hw⟩;subst hr;subst hw);go_ret2;exact ⟨rfl,rfl⟩
 ·(go_enter Tryz.func126,Tryz.ntmps126);go_wp2_with (go_at_call 73;refine (HW.out _).mono ?_;rintro r w1 ⟨hr,hw⟩;subst hr;subst hw);go_ret2;exact ⟨rfl,rfl⟩
 ·(go_enter Tryz.func126,Tryz.ntmps126);go_wp2_with (go_at_call 73;refine (HW.out _).mono ?_;rintro r w1 ⟨hr,hw⟩;subst hr;subst hw);go_ret2;exact ⟨rfl,rfl⟩
 ·(go_enter Tryz.func126,Tryz.ntmps126);go_wp2_with (go_at_call 73;refine (HW.out _).mono ?_;rintro r w1 ⟨hr,hw⟩;subst hr;subst hw);go_ret2;exact ⟨rfl,rfl⟩
 ·(go_enter Tryz.func126,Tryz.ntmps126);go_wp2_with (go_at_call 73;refine (HW.out _).mono ?_;rintro r w1 ⟨hr,hw⟩;subst hr;subst hw);go_ret2;exact ⟨rfl,rfl⟩
 ·(go_enter Tryz.func126,Tryz.ntmps126);go_wp2_with (go_at_call 73;refine (HW.out _).mono ?_;rintro r w1 ⟨hr,hw⟩;subst hr;subst hw);go_ret2;exact ⟨rfl,rfl⟩
 ·(go_enter Tryz.func126,Tryz.ntmps126);go_wp2_with (go_at_call 73;refine (HW.out _).mono ?_;rintro r w1 ⟨hr,hw⟩;subst hr;subst hw);go_ret2;exact ⟨rfl,rfl⟩
 ·(go_enter Tryz.func126,Tryz.ntmps126);go_wp2_with (go_at_call 73;refine (HW.out _).mono ?_;rintro r w1 ⟨hr,hw⟩;subst hr;subst hw);go_ret2;exact ⟨rfl,rfl⟩
 ·(go_enter Tryz.func126,Tryz.ntmps126);go_wp2_with (go_at_call 73;refine (HW.out _).mono ?_;rintro r w1 ⟨hr,hw⟩;subst hr;subst hw);go_ret2;exact ⟨rfl,rfl⟩
 ·(go_enter Tryz.func126,Tryz.ntmps126);go_wp2_with (go_at_call 73;refine (HW.out _).mono ?_;rintro r w1 ⟨hr,hw⟩;subst hr;subst hw);go_ret2;exact ⟨rfl,rfl⟩
 ·(go_enter Tryz.func126,Tryz.ntmps126);go_wp2_with (go_at_call 73;refine (HW.out _).mono ?_;rintro r w1 ⟨hr,hw⟩;subst hr;subst hw);go_ret2;exact ⟨rfl,rfl⟩
 ·(go_enter Tryz.func126,Tryz.ntmps126);go_wp2_with (go_at_call 73;refine (HW.out _).mono ?_;rintro r w1 ⟨hr,hw⟩;subst hr;subst hw);go_ret2;exact ⟨rfl,rfl⟩
 ·(go_enter Tryz.func126,Tryz.ntmps126);go_wp2_with (go_at_call 73;refine (HW.out _).mono ?_;rintro r w1 ⟨hr,hw⟩;subst hr;subst hw);go_ret2;exact ⟨rfl,rfl⟩
 ·(go_enter Tryz.func126,Tryz.ntmps126);go_wp2_with (go_at_call 73;refine (HW.out _).mono ?_;rintro r w1 ⟨hr,hw⟩;subst hr;subst hw);go_ret2;exact ⟨rfl,rfl⟩
 ·(go_enter Tryz.func126,Tryz.ntmps126);go_wp2_with (go_at_call 73;refine (HW.out _).mono ?_;rintro r w1 ⟨hr,hw⟩;subst hr;subst hw);go_ret2;exact ⟨rfl,rfl⟩
 ·(go_enter Tryz.func126,Tryz.ntmps126);go_wp2_with (go_at_call 73;refine (HW.out _).mono ?_;rintro r w1 ⟨hr,hw⟩;subst hr;subst hw);go_ret2;exact ⟨rfl,rfl⟩
 ·(go_enter Tryz.func126,Tryz.ntmps126);go_wp2_with (go_at_call 73;refine (HW.out _).mono ?_;rintro r w1 ⟨hr,hw⟩;subst hr;subst hw);go_ret2;exact ⟨rfl,rfl⟩
 ·(go_enter Tryz.func126,Tryz.ntmps126);go_wp2_with (go_at_call 73;refine (HW.out _).mono ?_;rintro r w1 ⟨hr,hw⟩;subst hr;subst hw);go_ret2;exact ⟨rfl,rfl⟩
 ·(go_enter Tryz.func126,Tryz.ntmps126);go_wp2_with (go_at_call 73;refine (HW.out _).mono ?_;rintro r w1 ⟨hr,hw⟩;subst hr;subst hw);go_ret2;exact ⟨rfl,rfl⟩
 ·(go_enter Tryz.func126,Tryz.ntmps126);go_wp2_with (go_at_call 73;refine (HW.out _).mono ?_;rintro r w1 ⟨hr,hw⟩;subst hr;subst hw);go_ret2;exact ⟨rfl,rfl⟩
 ·(go_enter Tryz.func126,Tryz.ntmps126);go_wp2_with (go_at_call 73;refine (HW.out _).mono ?_;rintro r w1 ⟨hr,hw⟩;subst hr;subst hw);go_ret2;exact ⟨rfl,rfl⟩
 ·(go_enter Tryz.func126,Tryz.ntmps126);go_wp2_with (go_at_call 73;refine (HW.out _).mono ?_;rintro r w1 ⟨hr,hw⟩;subst hr;subst hw);go_ret2;exact ⟨rfl,rfl⟩
 ·(go_enter Tryz.func126,Tryz.ntmps126);go_wp2_with (go_at_call 73;refine (HW.out _).mono ?_;rintro r w1 ⟨hr,hw⟩;subst hr;subst hw);go_ret2;exact ⟨rfl,rfl⟩
 ·(go_enter Tryz.func126,Tryz.ntmps126);go_wp2_with (go_at_call 73;refine (HW.out _).mono ?_;rintro r w1 ⟨hr,hw⟩;subst hr;subst hw);go_ret2;exact ⟨rfl,rfl⟩
 ·(go_enter Tryz.func126,Tryz.ntmps126);go_wp2_with (go_at_call 73;refine (HW.out _).mono ?_;rintro r w1 ⟨hr,hw⟩;subst hr;subst hw);go_ret2;exact ⟨rfl,rfl⟩
 ·(go_enter Tryz.func126,Tryz.ntmps126);go_wp2_with (go_at_call 73;refine (HW.out _).mono ?_;rintro r w1 ⟨hr,hw⟩;subst hr;subst hw);go_ret2;exact ⟨rfl,rfl⟩
 ·(go_enter Tryz.func126,Tryz.ntmps126);go_wp2_with (go_at_call 73;refine (HW.out _).mono ?_;rintro r w1 ⟨hr,hw⟩;subst hr;subst hw);go_ret2;exact ⟨rfl,rfl⟩
 ·(go_enter Tryz.func126,Tryz.ntmps126);go_wp2_with (go_at_call 73;refine (HW.out _).mono ?_;rintro r w1 ⟨hr,hw⟩;subst hr;subst hw);go_ret2;exact ⟨rfl,rfl⟩
 ·(go_enter Tryz.func126,Tryz.ntmps126);go_wp2_with (go_at_call 73;refine (HW.out _).mono ?_;rintro r w1 ⟨hr,hw⟩;subst hr;subst hw);go_ret2;exact ⟨rfl,rfl⟩
 ·(go_enter Tryz.func126,Tryz.ntmps126);go_wp2_with (go_at_call 73;refine (HW.out _).mono ?_;rintro r w1 ⟨hr,hw⟩;subst hr;subst hw);go_ret2;exact ⟨rfl,rfl⟩
 ·(go_enter Tryz.func126,Tryz.ntmps126);go_wp2_with (go_at_call 73;refine (HW.out _).mono ?_;rintro r w1 ⟨hr,hw⟩;subst hr;subst hw);go_ret2;exact ⟨rfl,rfl⟩
 ·(go_enter Tryz.func126,Tryz.ntmps126);go_wp2_with (go_at_call 73;refine (HW.out _).mono ?_;rintro r w1 ⟨hr,hw⟩;subst hr;subst hw);go_ret2;exact ⟨rfl,rfl⟩
end Go.Proofs.YtiheggkkgbfndaaGreatDoor
