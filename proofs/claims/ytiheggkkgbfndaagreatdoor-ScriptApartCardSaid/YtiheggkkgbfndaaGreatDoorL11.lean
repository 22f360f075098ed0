/- What stands while the lines of a text are written. -/
import Derived.Test.YtiheggkkgbfndaaGreatDoorL09
namespace Go.Proofs.YtiheggkkgbfndaaGreatDoor
open Go.RowKit Go.Joins Go.ChangeShapes Go.WideShapes Go.Deep Go.Maps Go.Sort
set_option linter.unusedVariables false
set_option linter.unusedSimpArgs false
set_option maxRecDepth 100000

def wordV:List Value:=wordsB.map fun x=>Value.string ⟨x.toArray⟩
structure PSt (L:List AOp) (B:Nat) (W7:World) (b8 bm b13 mm bb A gx c:Nat) (v:Int) (l:List UInt8) (W:World):Prop where
 box:Blk W gx 113 #[.int .i64 c,.int .i64 v]
 bld:Bld bb l W
 e8:Blk W b8 111 #[.map (some bm)]
 e13:Blk W b13 111 #[.map (some mm)]
 m8:∃ n,BMap W bm n (begF L L.length)
 m13:∃ n,BMap W mm n (markF L L.length)
 words:∃ cs,Blk W A 9 cs∧∀ k,k < 41→cs[k]?=wordV[k]?
 env:EnvIn B W
 frm:Frm W7 W (fun q=>q=bb)
 z7:W7.heap.size=bb + 1
 lt:b8 < bb∧bm < bb∧b13 < bb∧mm < bb∧A < bb∧B ≤ bb∧bb < gx
section
variable {L:List AOp} {B:Nat} {W7 W W':World} {b8 bm b13 mm bb A gx c:Nat} {v:Int} {l l':List UInt8}
theorem PSt.step (h:PSt L B W7 b8 bm b13 mm bb A gx c v l W) (hf:Frm W W' (BldS W bb)) (hb:Bld bb l' W'):PSt L B W7 b8 bm b13 mm bb A gx c v l' W':=by
 obtain ⟨l1,l2,l3,l4,l5,l6,l7⟩:=h.lt
 have hbw:=h.bld.lt
 have hk:∀ q,q < bb→W'.heap[q]?=W.heap[q]?:=fun q hq=>hf.block q (by omega) fun hh=>by
  rcases hh with rfl | ⟨h1,_⟩ <;> omega
 obtain ⟨n8,h8⟩:=h.m8
 obtain ⟨n13,h13⟩:=h.m13
 obtain ⟨cs,hw1,hw2⟩:=h.words
 refine ⟨?_,hb,(hk _ l1).trans h.e8,(hk _ l3).trans h.e13,⟨n8,h8.kept (hk _ l2)⟩,⟨n13,h13.kept (hk _ l4)⟩,⟨cs,(hk _ l5).trans hw1,hw2⟩,?_,?_,h.z7,h.lt⟩
 ·exact (hf.block gx h.box.lt fun hh=>by
   rcases hh with rfl | ⟨_,cs,h2⟩
   ·omega
   ·exact (h.box.ne_ h2 (by decide)) rfl).trans h.box
 ·exact h.env.below (hf.below (Nat.le_of_lt hbw) (fun q hq=>by rcases hq with rfl | ⟨h1,_⟩ <;> omega):Below bb W W') l6
 ·exact h.frm.trans hf fun q hq=>by
   rcases hq with rfl | ⟨h1,cs,h2⟩
   ·exact .inl rfl
   ·by_cases e:q=bb
    ·exact .inl e
    ·exact .inr (by rw [h.z7];omega)
theorem PSt.keep (h:PSt L B W7 b8 bm b13 mm bb A gx c v l W) (hb:Below W.heap.size W W'):PSt L B W7 b8 bm b13 mm bb A gx c v l W' :=
 h.step (Frm.of_below hb) (h.bld.keep hb)
structure PBase (L:List AOp) (B b8 bm b13 mm bb A:Nat) (W7:World):Prop where
 e8:Blk W7 b8 111 #[.map (some bm)]
 e13:Blk W7 b13 111 #[.map (some mm)]
 m8:∃ n,BMap W7 bm n (begF L L.length)
 m13:∃ n,BMap W7 mm n (markF L L.length)
 words:∃ cs,Blk W7 A 9 cs∧∀ k,k < 41→cs[k]?=wordV[k]?
 env:EnvIn B W7
 z7:W7.heap.size=bb + 1
 lt:b8 < bb∧bm < bb∧b13 < bb∧mm < bb∧A < bb∧B ≤ bb
theorem PBase.start (h:PBase L B b8 bm b13 mm bb A W7) (hF:Frm W7 W (fun q=>q=bb)) (hb:Bld bb l W):PSt L B W7 b8 bm b13 mm bb A W.heap.size c v l (W.alloc (.cells #[.int .i64 c,.int .i64 v] 113)):=by
 obtain ⟨l1,l2,l3,l4,l5,l6⟩:=h.lt
 have hs:=hF.size
 have hz:=h.z7
 have hA:=Below.heap_alloc W (.cells #[.int .i64 c,.int .i64 v] 113)
 have hk:∀ q,q < bb→(W.alloc (.cells #[.int .i64 c,.int .i64 v] 113)).heap[q]?=W7.heap[q]?:=fun q hq=>(hA q (by omega)).trans (hF.block q (by omega) (by omega))
 obtain ⟨n8,h8⟩:=h.m8
 obtain ⟨n13,h13⟩:=h.m13
 obtain ⟨cs,hw1,hw2⟩:=h.words
 refine ⟨Blk.new _ _ _,hb.keep ((Below.refl _ _).alloc (Nat.le_refl _) _),(hk _ l1).trans h.e8,(hk _ l3).trans h.e13,⟨n8,h8.kept (hk _ l2)⟩,⟨n13,h13.kept (hk _ l4)⟩,⟨cs,(hk _ l5).trans hw1,hw2⟩,?_,hF.alloc _,h.z7,l1,l2,l3,l4,l5,l6,by omega⟩
 exact h.env.below ((hF.alloc _).below (by omega) (fun q hq=>by omega):Below bb W7 _) l6
end
end Go.Proofs.YtiheggkkgbfndaaGreatDoor
