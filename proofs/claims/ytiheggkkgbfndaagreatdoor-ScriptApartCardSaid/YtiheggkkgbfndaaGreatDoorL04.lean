/- carouselref13: operand, At. -/
import Derived.Test.YtiheggkkgbfndaaGreatDoorL03
import Derived.Test.YtiheggkkgbfndaaGreatDoorL01
import Derived.Deep.LoopGhost
import Derived.Deep.DeepMust
import Derived.BigQuiet
namespace Go.Proofs.YtiheggkkgbfndaaGreatDoor
open Go.RowKit Go.Joins Go.ChangeShapes Go.WideShapes Go.Deep
set_option linter.unusedVariables false
set_option linter.unusedSimpArgs false
set_option maxRecDepth 100000

theorem value_lo (sh n:Nat) (h:sh < 7) (hn:n < 256 ^ widthF sh):loF sh ≤ valueF sh n∧-9223372036854775808 ≤ valueF sh n∧valueF sh n ≤ 9223372036854775807:=by
 match sh,h with
 | 0,_ =>
  have hn':n < 1:=hn
  simp [loF,valueF]
  omega
 | 1,_ =>
  have hn':n < 256:=hn
  simp [loF,valueF]
  omega
 | 2,_ =>
  have hn':n < 65536:=hn
  simp [loF,valueF]
  omega
 | 3,_ =>
  have hn':n < 18446744073709551616:=hn
  simp [loF,valueF]
  omega
 | 4,_ =>
  have hn':n < 256:=hn
  simp [loF,valueF]
  omega
 | 5,_ =>
  have hn':n < 256:=hn
  simp [loF,valueF]
  omega
 | 6,_ =>
  have hn':n < 65536:=hn
  simp [loF,valueF]
  omega
def opc (o:AOp):List Value:=[.int .i64 o.code,.int .i64 o.operand]
theorem opc_len (o:AOp):(opc o).length=2:=rfl
theorem info_op:(Tryz.prog.info? 113).map (fun i=>(i.zero,i.size,i.bytes))=some (some (.agg #[.int .i64 0,.int .i64 0]),2,16):=by kernel_rfl
inductive Dec (s:List Nat):List AOp→Nat→Prop
 | nil:Dec s [] 0
 | snoc {L:List AOp} {p:Nat} {o:AOp} {k:Nat}:Dec s L p→p < s.length→atF s p=some (o,k)→Dec s (L ++ [o]) (p + k)
theorem atF_bound {s:List Nat} {p:Nat} {o:AOp} {k:Nat} (h:atF s p=some (o,k)):p < s.length∧o.code < 41∧k=1 + widthF (shapeF o.code)∧p + k ≤ s.length∧fitsF (shapeF o.code) o.operand=true:=by
 unfold atF at h
 split at h
 ·rename_i hp
  simp only at h
  split at h
  ·rename_i hc
   split at h
   ·rename_i hw
    split at h
    ·rename_i hf
     injection h with h
     injection h with h1 h2
     subst h1 h2
     exact ⟨hp,hc,rfl,by omega,hf⟩
    ·cases h
   ·cases h
  ·cases h
 ·cases h
theorem Dec.le {s:List Nat} {L:List AOp} {p:Nat} (h:Dec s L p):p ≤ s.length∧L.length ≤ p:=by
 induction h with
 | nil=>exact ⟨Nat.zero_le _,Nat.le_refl _⟩
 | snoc h1 h2 h3 ih =>
  obtain ⟨_,_,hk,hb,_⟩:=atF_bound h3
  refine ⟨hb,?_⟩
  rw [List.length_append,List.length_singleton]
  omega
def DecPost (s : ByteArray) (w : World) (e : Ending) (w' : World) : Prop :=
  Below w.heap.size w w' ∧
  ((512 < s.size ∧ e = .returned (.tuple #[.slice none 0 0, .int .i64 2, .int .i64 0])) ∨
   (s.size ≤ 512 ∧ ∃ L p, Dec (bytesL s) L p ∧ p < s.size ∧ atF (bytesL s) p = none ∧ e = .returned (.tuple #[.slice none 0 0, .int .i64 10, .int .i64 p])) ∨
   (s.size ≤ 512 ∧ ∃ L v, Dec (bytesL s) L s.size ∧ w'.ownsRow w.heap.size 113 2 v L.length (rows opc L) ∧ e = .returned (.tuple #[v, .int .i64 0, .int .i64 0])))
theorem ShapesAt.below {w w':World} {B:Nat} (h:ShapesAt w) (hb:Below B w w') (hB:1 < B):ShapesAt w':=⟨Nat.lt_of_lt_of_le h.lt hb.size,fun c hc=>(hb.cell (p:=⟨1,c,none⟩) hB).trans (h.cell c hc)⟩
set_option maxHeartbeats 1000000 in
theorem decode_any (s:ByteArray) (w:World) (hS:ShapesAt w) (hs:s.size ≤ 4611686018427387904) :
  Calls Tryz.prog 63 #[.string s] w (DecPost s w):=by
 by_cases h512:512 < s.size
 ·have d1:decide ((512:Int) < (s.size:Int))=true:=decide_eq_true (by omega)
  have d2:decide (512 < s.size)=true:=decide_eq_true h512
  have H5:=Lib.hid h512
  clear h512
  go_enter Tryz.func63,Tryz.ntmps63
  go_wp2
  go_ret3
  exact ⟨Below.refl _ _,.inl ⟨H5.out,rfl⟩⟩
 ·have hle:s.size ≤ 512:=by omega
  have d1:decide ((512:Int) < (s.size:Int))=false:=decide_eq_false (by omega)
  have d2:decide (512 < s.size)=false:=decide_eq_false h512
  clear h512
  obtain ⟨i0,hi,hz0,hz1,hz2⟩:=info_parts info_op
  go_enter Tryz.func63,Tryz.ntmps63
  go_wp2
  go_loopg [5,6] s.size (fun gk v i wr=>∃ (L:List AOp) (p:Nat),i=.int .i64 p∧gk=s.size - p∧Dec (bytesL s) L p∧wr.ownsRow w.heap.size 113 2 v L.length (rows opc L)∧Below w.heap.size w wr)
  case atStart=>exact ⟨[],0,rfl,rfl,.nil,World.ownsRow_nil _ _ _ _,Below.refl _ _⟩
  case round =>
   obtain ⟨L,p,rfl,hgk,hD,hown,hbel⟩:=hrel
   have HG:=Lib.hid hgk
   clear hgk
   have hple:=hD.le
   rw [bytesL_length] at hple
   obtain ⟨hpl,hLp⟩:=hple
   have HD:=Lib.hid hD
   clear hD
   by_cases hp:p < s.size
   ·have e1:decide ((p:Int) < (s.size:Int))=true:=decide_eq_true (by omega)
    have e2:decide (p < s.size)=true:=decide_eq_true hp
    have hAT:=at_any s p wr (hS.below hbel hS.lt) hs hp
    cases hat:atF (bytesL s) p with
    | none =>
     have HAT:=Lib.hid hat
     rw [hat] at hAT
     have HC:=Lib.hid hAT
     clear hat hAT
     go_wp2_with (go_at_call 97;refine (HC.out).mono ?_;rintro e w1 ⟨rfl,hb1⟩;simp only [atV])
     go_ret3
     exact ⟨((hbel.trans (hb1.mono hbel.size)).alloc (Nat.le_trans hbel.size hb1.size) _),.inr (.inl ⟨hle,L,p,HD.out,hp,HAT.out,rfl⟩)⟩
    | some r =>
     obtain ⟨⟨c,V⟩,k⟩:=r
     have HAT:=Lib.hid hat
     obtain ⟨_,hcl,hk,hkl,_⟩:=atF_bound hat
     rw [bytesL_length] at hkl
     have hk1:1 ≤ k:=by rw [hk];omega
     rw [hat] at hAT
     have HC:=Lib.hid hAT
     clear hat hAT hk
     have hc2:∀ u ∈ ([.int .i64 c,.int .i64 V]:List Value),u.oneCell'=true:=(by intro u hu;simp at hu;rcases hu with rfl | rfl <;> rfl)
     have hc3:L.length + 1 ≤ maxLen:=(by unfold maxLen;omega)
     have hc4:(L.length + 1) * 16 ≤ 140737488355328:=(by omega)
     have HBE:=Lib.hid hbel
     have hbs:=hbel.size
     clear hbel
     go_upto_region 9 with (go_at_call 97;refine (HC.out).mono ?_;rintro e w1 ⟨rfl,hb1⟩;simp only [atV])
     have hown1:=(own_beb hown hb1).alloc (.cells #[.int .i64 c,.int .i64 V] 113)
     have HB1:=Lib.hid hb1
     have hbz:=hb1.size
     clear hb1
     have hc5:w.heap.size ≤ ((w1.alloc (.cells #[.int .i64 c,.int .i64 V] 113)).alloc (.cells #[.int .i64 c,.int .i64 V] 113)).heap.size:=(by simp;omega)
     go_wp2_with (at_builtin;go_must (refine wpList_append_own _ rfl _ _ 108 rfl w.heap.size 113 i0 _ 2 16 Tryz.underlying108 hi hz0 hz1 hz2 rfl (by decide) _ _ _ rfl (hown1.alloc _) ⟨w1.heap.size + 1,0,none⟩ 1 1 [.int .i64 c,.int .i64 V] rfl rfl (World.news_of_block (cs:=#[.int .i64 c,.int .i64 V]) (t:=113) (fr:=(0,0)) (by have:=heap_alloc_new (w1.alloc (.cells #[.int .i64 c,.int .i64 V] 113)) (.cells #[.int .i64 c,.int .i64 V] 113);simpa using this)) hc2 hc3 hc4 hc5 ?_;intro v' w2 hown2 hgrow _))
     have hbf:Below w.heap.size w w2:=((HBE.out.trans (HB1.out.mono hbs)).alloc (by omega) _).alloc (by simp;omega) _ |>.trans (below_grown (hown1.alloc _) hgrow hc5)
     clear hgrow
     go_roundg (s.size - (p + k))
     case measure=>have:=HG.out;omega
     case rel=>exact ⟨L ++ [⟨c,V⟩],p + k,by simp,rfl,HD.out.snoc (by rw [bytesL_length];exact hp) HAT.out,by rw [List.length_append,rows_snoc];exact hown2,hbf⟩
   ·have e1:decide ((p:Int) < (s.size:Int))=false:=decide_eq_false (by omega)
    have e2:decide (p < s.size)=false:=decide_eq_false hp
    have hpe:p=s.size:=by omega
    have HPE:=Lib.hid hpe
    clear hpe
    go_wp2
    go_ret3
    exact ⟨hbel,.inr (.inr ⟨hle,L,_,HPE.out ▸ HD.out,hown,rfl⟩)⟩
end Go.Proofs.YtiheggkkgbfndaaGreatDoor
