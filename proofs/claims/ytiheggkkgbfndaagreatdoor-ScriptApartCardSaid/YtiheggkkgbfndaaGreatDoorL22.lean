/- carouselref14: Words; what Print of the document leans on. -/
import Derived.Test.YtiheggkkgbfndaaGreatDoorL21
import Derived.Test.YtiheggkkgbfndaaGreatDoorL07
import Derived.Test.YtiheggkkgbfndaaGreatDoorL08
import Derived.Test.YtiheggkkgbfndaaGreatDoorL19
import Derived.Test.YtiheggkkgbfndaaGreatDoorL10
import Derived.Test.YtiheggkkgbfndaaGreatDoorL01
import Derived.BigQuiet
namespace Go.Proofs.YtiheggkkgbfndaaGreatDoor
open Go.RowKit Go.Joins Go.ChangeShapes Go.WideShapes Go.Deep Go.Maps Go.Sort
set_option linter.unusedVariables false
set_option linter.unusedSimpArgs false
set_option maxRecDepth 100000
set_option maxHeartbeats 1000000 in
theorem rwords_any (w:World):Calls Tryz.prog 75 #[] w fun e w'=>e=.returned (.slice (some ⟨w.heap.size,0,none⟩) 41 41)∧w'=w.alloc (.cells wordV.toArray 9):=by
 go_enter Tryz.func75,Tryz.ntmps75
 go_wp2
 go_ret
 exact ⟨rfl,rfl⟩
theorem info_int:(Tryz.prog.info? 3).map (fun i=>(i.zero,i.size,i.bytes))=some (some (.int .i64 0),1,8):=by kernel_rfl
end Go.Proofs.YtiheggkkgbfndaaGreatDoor
namespace Go.Proofs.YtiheggkkgbfndaaGreatDoor
open Go.RowKit Go.Joins Go.ChangeShapes Go.WideShapes Go.Deep
set_option linter.unusedVariables false
set_option linter.unusedSimpArgs false
set_option maxRecDepth 100000
def codeV:Option Nat→Int
 | some k=>k
 | none=>-1
theorem codeF_none {s:List UInt8} (h:∀ j,j < 41→wordsB.getD j [] ≠ s):codeF s=none:=by
 unfold codeF
 rw [List.find?_eq_none]
 intro j hj
 simp only [beq_iff_eq]
 exact h j (List.mem_range.1 hj)
theorem codeF_hit {s:List UInt8} (i:Nat) (hi:i < 41) (h:∀ j,j < i→wordsB.getD j [] ≠ s) (e:wordsB.getD i []=s):codeF s=some i:=by
 unfold codeF
 rw [List.find?_range_eq_some]
 refine ⟨by rw [beq_iff_eq];exact e,List.mem_range.2 hi,fun j hj=>?_⟩
 have:=h j hj
 simpa using this
theorem word_at (i:Nat) (hi:i < 41):∃ q:ByteArray,wordV[i]?=some (.string q)∧q.data.toList=wordsB.getD i []:=by
 refine ⟨⟨(wordsB.getD i []).toArray⟩,?_,by simp⟩
 unfold wordV
 rw [List.getElem?_map,List.getElem?_eq_getElem (by rw [words_len];exact hi),List.getD_eq_getElem?_getD,List.getElem?_eq_getElem (by rw [words_len];exact hi)]
 rfl
set_option maxHeartbeats 1000000 in
theorem rcode_any (s:ByteArray) (w:World) :
  Calls Tryz.prog 142 #[.string s] w fun e w'=>e=.returned (.int .i64 (codeV (codeF s.data.toList)))∧Below w.heap.size w w':=by
 have HW:=Lib.hid (rwords_any w)
 go_enter Tryz.func142,Tryz.ntmps142
 go_wp2_with (go_at_call 75;refine HW.out.mono ?_;rintro e w1 ⟨rfl,rfl⟩)
 obtain ⟨w1,hw1⟩:∃ w1,w1=w.alloc (.cells wordV.toArray 9):=⟨_,rfl⟩
 rw [← hw1]
 have hK:Blk w1 w.heap.size 9 wordV.toArray:=hw1 ▸ Blk.new w _ _
 have hB:Below w.heap.size w w1:=hw1 ▸ (Below.refl _ _).alloc (Nat.le_refl _) _
 have hl:=hK.lt
 obtain ⟨A,hA⟩:∃ A,A=w.heap.size:=⟨_,rfl⟩
 rw [← hA] at hK hB hl ⊢
 have HA:=Lib.hid hA
 clear hw1 hA
 go_loopg [4] 41 (fun gk iv wr=>∃ i:Nat,iv=.int .i64 i∧i ≤ 41∧gk=41 - i∧wr=w1∧∀ j,j < i→wordsB.getD j [] ≠ s.data.toList)
 case atStart=>exact ⟨0,rfl,Nat.zero_le _,rfl,rfl,fun j h=>absurd h (by omega)⟩
 case round =>
  obtain ⟨i,rfl,hi,hgk,rfl,hno⟩:=hrel
  have HG:=Lib.hid hgk
  have HNO:=Lib.hid hno
  have HB:=Lib.hid hB
  clear hgk hno hB
  by_cases hil:i < 41
  ·have e1:decide ((i:Int) < 41)=true:=decide_eq_true (by omega)
   have e2:decide (i < 41)=true:=decide_eq_true hil
   obtain ⟨q,hq,hql⟩:=word_at i hil
   have cx:wr.cell? ⟨A,i,none⟩=some (.string q):=by rw [hK.cell i];simpa using hq
   have HQ:=Lib.hid hql
   clear hq hql
   by_cases e:q=s
   ·subst e
    have HC:Hid (codeF q.data.toList=some i):=Lib.hid (codeF_hit i hil HNO.out HQ.out.symm)
    go_wp2
    go_ret
    exact ⟨by rw [HC.out];rfl,HA.out ▸ HB.out⟩
   ·have e4:(q.toList == s.toList)=false:=by
     rw [beq_eq_false_iff_ne,ByteArray.toList_eq,ByteArray.toList_eq]
     exact fun h=>e (bytes_inj h)
    have HE:=Lib.hid e
    clear e
    go_wp2
    go_roundg (41 - (i + 1))
    case measure=>have:=HG.out;omega
    case rel =>
     refine ⟨i + 1,by simp,by omega,rfl,rfl,fun j hj=>?_⟩
     by_cases hji:j=i
     ·subst hji
      rw [← HQ.out]
      exact fun h=>HE.out (bytes_inj h)
     ·exact HNO.out j (by omega)
  ·have e1:decide ((i:Int) < 41)=false:=decide_eq_false (by omega)
   have e2:decide (i < 41)=false:=decide_eq_false (by omega)
   obtain rfl:i=41:=by omega
   have HC:Hid (codeF s.data.toList=none):=Lib.hid (codeF_none HNO.out)
   go_wp2
   go_ret
   exact ⟨by rw [HC.out];rfl,HA.out ▸ HB.out⟩
def labTok (p:List UInt8 × Nat):Tok:=⟨p.1,p.2⟩
def labV:Option Nat→Int
 | some k=>k
 | none=>-1
theorem labF2_hit (l:List (List UInt8 × Nat)) (s:List UInt8) (i:Nat) (hi:i < l.length) (h:∀ j (hj:j < l.length),j < i→l[j].1 ≠ s) (e:l[i].1=s):labF2 l s=some l[i].2:=by
 unfold labF2
 have:l.find? (fun p=>p.1 == s)=some l[i]:=by
  rw [List.find?_eq_some_iff_getElem]
  refine ⟨by simpa using e,i,hi,rfl,fun j hj=>?_⟩
  have:=h j (by omega) hj
  simpa using this
 rw [this]
 rfl
theorem labF2_none (l:List (List UInt8 × Nat)) (s:List UInt8) (h:∀ j (hj:j < l.length),l[j].1 ≠ s):labF2 l s=none:=by
 unfold labF2
 rw [Option.map_eq_none_iff,List.find?_eq_none]
 intro p hp
 obtain ⟨j,hj,rfl⟩:=List.mem_iff_getElem.1 hp
 simpa using h j hj
theorem tk_cells {w:World} {B n:Nat} {A:Option Addr} {l:List Tok} (hT:Reads w B 2 A n (rows tkc l)) (i:Nat) (hi:i < l.length) :
  ∃ b off q,A=some ⟨b,off,none⟩∧b < B∧w.cell? ⟨b,off + i * 2,none⟩=some (.string q)∧w.cell? ⟨b,off + i * 2 + 1,none⟩=some (.int .i64 l[i].pos)∧q.data.toList=l[i].s∧i < n:=by
 have hl:=hT.1
 rw [rows_length tkc 2 tkc_len] at hl
 obtain ⟨b,off,rfl,hb,hc⟩:=reads_flat hT (by omega) (by omega)
 refine ⟨b,off,⟨l[i].s.toArray⟩,rfl,hb,?_,?_,by simp,by omega⟩
 ·have:=hc (i * 2) (.string ⟨l[i].s.toArray⟩) (by
   have:=rows_at tkc 2 tkc_len l i 0 hi (by omega)
   simpa [tkc] using this)
  exact this
 ·have:=hc (i * 2 + 1) (.int .i64 l[i].pos) (by
   have:=rows_at tkc 2 tkc_len l i 1 hi (by omega)
   simpa [tkc] using this)
  exact this
set_option maxHeartbeats 1000000 in
theorem rlabel_any {w:World} {ab n c:Nat} {ov av nv:Value} {A:Option Addr} {z:Int} {ls:List (List UInt8 × Nat)} (hK:Blk w ab 151 #[ov,av,nv,.int .i64 z,.slice A n c]) (hT:Reads w w.heap.size 2 A n (rows tkc (ls.map labTok))) (hn:ls.length ≤ 4294967296) (s:ByteArray) :
  Calls Tryz.prog 114 #[.pointer (some ⟨ab,0,none⟩),.string s] w fun e w'=>e=.returned (.int .i64 (labV (labF2 ls s.data.toList)))∧w'=w:=by
 have hnl:n=ls.length:=by
  have:=hT.1
  rw [rows_length tkc 2 tkc_len,List.length_map] at this
  omega
 have x4:w.cell? ⟨ab,4,none⟩=some (.slice A n c):=(hK.cell 4).trans rfl
 have hal:=hK.lt
 clear hK
 go_enter Tryz.func114,Tryz.ntmps114
 go_wp2_with fail
 go_loopg [5] n (fun gk iv wr=>∃ i:Nat,iv=.int .i64 i∧i ≤ n∧gk=n - i∧wr=w∧∀ j (hj:j < ls.length),j < i→ls[j].1 ≠ s.data.toList)
 case atStart=>exact ⟨0,rfl,Nat.zero_le _,rfl,rfl,fun j _ h=>absurd h (by omega)⟩
 case round =>
  obtain ⟨i,rfl,hi,hgk,rfl,hno⟩:=hrel
  have HG:=Lib.hid hgk
  have HNO:=Lib.hid hno
  have HNL:=Lib.hid hnl
  clear hgk hno hnl
  by_cases hil:i < n
  ·have e1:decide ((i:Int) < (n:Int))=true:=decide_eq_true (by omega)
   have e2:decide (i < n)=true:=decide_eq_true hil
   have hil2:i < ls.length:=by rw [← HNL.out];exact hil
   obtain ⟨b,off,q,rfl,hb,c0,c1',hql,_⟩:=tk_cells hT i (by rw [List.length_map];exact hil2)
   have hq2:q.data.toList=(ls[i]).1:=by rw [hql,List.getElem_map];rfl
   have c1:wr.cell? ⟨b,off + i * 2 + 1,none⟩=some (.int .i64 (ls[i]).2):=by rw [c1',List.getElem_map];rfl
   obtain ⟨k,hk⟩:∃ k,k=(ls[i]).2:=⟨_,rfl⟩
   rw [← hk] at c1
   have HK:=Lib.hid hk
   have HQ:=Lib.hid hq2
   have HT:=Lib.hid hT
   have HIL:=Lib.hid hil2
   clear hql hq2 hk hT c1'
   by_cases e:q=s
   ·subst e
    have HC:Hid (labF2 ls q.data.toList=some k):=Lib.hid (by rw [HK.out];exact labF2_hit ls _ i HIL.out HNO.out HQ.out.symm)
    go_wp2
    go_ret
    exact ⟨by rw [HC.out];rfl,rfl⟩
   ·have e4:(q.toList == s.toList)=false:=by
     rw [beq_eq_false_iff_ne,ByteArray.toList_eq,ByteArray.toList_eq]
     exact fun h=>e (bytes_inj h)
    have HE:=Lib.hid e
    clear e
    go_wp2
    go_roundg (n - (i + 1))
    case measure=>have:=HG.out;omega
    case rel =>
     refine ⟨i + 1,by simp,by omega,rfl,rfl,fun j hj hji=>?_⟩
     by_cases hji:j=i
     ·subst hji
      rw [← HQ.out]
      exact fun h=>HE.out (bytes_inj h)
     ·exact HNO.out j hj (by omega)
  ·have e1:decide ((i:Int) < (n:Int))=false:=decide_eq_false (by omega)
   have e2:decide (i < n)=false:=decide_eq_false (by omega)
   have HC:Hid (labF2 ls s.data.toList=none):=Lib.hid (labF2_none _ _ fun j hj=>HNO.out j hj (by have:=HNL.out;omega))
   go_wp2
   go_ret
   exact ⟨by rw [HC.out];rfl,rfl⟩
structure RaRaw (B:Nat) (w:World) (ab:Nat) (ov av nv lv:Value) (z:Int) (Lo:List AOp) (La:List Nat) (Ln Ll:List Tok):Prop where
 blk:Blk w ab 151 #[ov,av,nv,.int .i64 z,lv]
 ops:w.ownsRow B 113 2 ov Lo.length (rows opc Lo)
 ats:w.ownsRow B 3 1 av La.length (plc La)
 nms:w.ownsRow B 159 2 nv Ln.length (rows tkc Ln)
 lbs:w.ownsRow B 159 2 lv Ll.length (rows tkc Ll)
 ne:∀ q,nv.ownBlock=some q→lv.ownBlock ≠ some q
theorem RaRaw.keep {B:Nat} {w w':World} {ab:Nat} {ov av nv lv:Value} {z:Int} {Lo:List AOp} {La:List Nat} {Ln Ll:List Tok} (h:RaRaw B w ab ov av nv lv z Lo La Ln Ll) (hb:Below w.heap.size w w'):RaRaw B w' ab ov av nv lv z Lo La Ln Ll :=
 ⟨h.blk.below hb h.blk.lt,own_beb h.ops hb,own_beb h.ats hb,own_beb h.nms hb,own_beb h.lbs hb,h.ne⟩
structure RaIs (B:Nat) (w:World) (ab:Nat) (ov av nv lv:Value) (r:RSt):Prop where
 raw:RaRaw B w ab ov av nv lv (r.size:Int) (r.ins.map Ins.op) (r.ins.map Ins.pos) (r.ins.map Ins.name) (r.labels.map labTok)
 size:r.size ≤ 512
 len:r.ins.length ≤ r.size
theorem RaIs.keep {B:Nat} {w w':World} {ab:Nat} {ov av nv lv:Value} {r:RSt} (h:RaIs B w ab ov av nv lv r) (hb:Below w.heap.size w w'):RaIs B w' ab ov av nv lv r:=⟨h.raw.keep hb,h.size,h.len⟩
def RaS (ab B:Nat) (q:Nat):Prop:=q=ab ∨ B ≤ q
theorem put_frm {W WA w3 : World} {B ab k : Nat} {xv u : Value} (hB : B ≤ W.heap.size) (hA : Below W.heap.size W WA) (hg : WA.grownBy w3 xv.ownBlock) (hx : ∀ q, xv.ownBlock = some q → B ≤ q) :
    Frm W (w3.setCell ⟨ab, k, none⟩ u) (RaS ab B) ∧ ∀ q, q < W.heap.size → xv.ownBlock ≠ some q → q ≠ ab → (w3.setCell ⟨ab, k, none⟩ u).heap[q]? = W.heap[q]? :=
  ⟨((((Frm.refl W (RaS ab B)).trans (Frm.of_below (S := fun _ => False) hA) fun q h => h.elim).grown hg fun q h => .inl (.inr (hx q h))).set ab k u (.inl (.inl rfl))),
   fun q hq ho hr => (Below.heap_setCell w3 ⟨ab, k, none⟩ u q hr).trans ((hg.block q (Nat.lt_of_lt_of_le hq hA.size) (fun h => ho h.symm)).trans (hA.block q hq))⟩
section
variable {B:Nat} {W WA w3:World} {ab gg cap:Nat} {ov av nv lv:Value} {z:Int} {Lo:List AOp} {La:List Nat} {Ln Ll:List Tok}
theorem RaRaw.blk3 (h:RaRaw B W ab ov av nv lv z Lo La Ln Ll) (hA:Below W.heap.size W WA) {xv:Value} (hx:xv.ownBlock ≠ some ab) (hg:WA.grownBy w3 xv.ownBlock):Blk w3 ab 151 #[ov,av,nv,.int .i64 z,lv] :=
 (hg.block ab (Nat.lt_of_lt_of_le h.blk.lt hA.size) (fun hh=>hx hh.symm)).trans ((hA.block ab h.blk.lt).trans h.blk)
theorem RaRaw.put_ops (h:RaRaw B W ab ov av nv lv z Lo La Ln Ll) (hB:B ≤ W.heap.size) (hA:Below W.heap.size W WA) (hg:WA.grownBy w3 ov.ownBlock) {m:Nat} (hm:m=Lo.length + 1) {o:AOp} (hown3:w3.ownsRow B 113 2 (.slice (some ⟨gg,0,none⟩) m cap) m (rows opc Lo ++ opc o)) :
  RaRaw B (w3.setCell ⟨ab,0,none⟩ (.slice (some ⟨gg,0,none⟩) m cap)) ab (.slice (some ⟨gg,0,none⟩) m cap) av nv lv z (Lo ++ [o]) La Ln Ll∧Frm W (w3.setCell ⟨ab,0,none⟩ (.slice (some ⟨gg,0,none⟩) m cap)) (RaS ab B):=by
 obtain ⟨hF,hk⟩:=put_frm (k:=0) (ab:=ab) (u:=.slice (some ⟨gg,0,none⟩) m cap) hB hA hg fun q hq=>(h.ops.lt q hq).1
 have h3:=h.blk3 hA (own_ne_blk h.ops h.blk (by decide)) hg
 refine ⟨⟨h3.set_ 0 _,?_,own_keep h.ats fun q hq=>hk q (h.ats.lt q hq).2 (own_ne h.ats h.ops (by decide) hq) (fun e=>own_ne_blk h.ats h.blk (by decide) (e ▸ hq)),own_keep h.nms fun q hq=>hk q (h.nms.lt q hq).2 (own_ne h.nms h.ops (by decide) hq) (fun e=>own_ne_blk h.nms h.blk (by decide) (e ▸ hq)),own_keep h.lbs fun q hq=>hk q (h.lbs.lt q hq).2 (own_ne h.lbs h.ops (by decide) hq) (fun e=>own_ne_blk h.lbs h.blk (by decide) (e ▸ hq)),h.ne⟩,hF⟩
 subst hm
 rw [List.length_append,List.length_singleton,rows_snoc]
 exact own_set hown3 h3 (by decide) _
theorem RaRaw.put_ats (h:RaRaw B W ab ov av nv lv z Lo La Ln Ll) (hB:B ≤ W.heap.size) (hA:Below W.heap.size W WA) (hg:WA.grownBy w3 av.ownBlock) {m:Nat} (hm:m=La.length + 1) {p:Nat} (hown3:w3.ownsRow B 3 1 (.slice (some ⟨gg,0,none⟩) m cap) m (plc La ++ [.int .i64 (p:Int)])) :
  RaRaw B (w3.setCell ⟨ab,1,none⟩ (.slice (some ⟨gg,0,none⟩) m cap)) ab ov (.slice (some ⟨gg,0,none⟩) m cap) nv lv z Lo (La ++ [p]) Ln Ll∧Frm W (w3.setCell ⟨ab,1,none⟩ (.slice (some ⟨gg,0,none⟩) m cap)) (RaS ab B):=by
 obtain ⟨hF,hk⟩:=put_frm (k:=1) (ab:=ab) (u:=.slice (some ⟨gg,0,none⟩) m cap) hB hA hg fun q hq=>(h.ats.lt q hq).1
 have h3:=h.blk3 hA (own_ne_blk h.ats h.blk (by decide)) hg
 refine ⟨⟨h3.set_ 1 _,own_keep h.ops fun q hq=>hk q (h.ops.lt q hq).2 (own_ne h.ops h.ats (by decide) hq) (fun e=>own_ne_blk h.ops h.blk (by decide) (e ▸ hq)),?_,own_keep h.nms fun q hq=>hk q (h.nms.lt q hq).2 (own_ne h.nms h.ats (by decide) hq) (fun e=>own_ne_blk h.nms h.blk (by decide) (e ▸ hq)),own_keep h.lbs fun q hq=>hk q (h.lbs.lt q hq).2 (own_ne h.lbs h.ats (by decide) hq) (fun e=>own_ne_blk h.lbs h.blk (by decide) (e ▸ hq)),h.ne⟩,hF⟩
 subst hm
 rw [List.length_append,List.length_singleton,plc_snoc]
 exact own_set hown3 h3 (by decide) _
theorem RaRaw.put_nms (h:RaRaw B W ab ov av nv lv z Lo La Ln Ll) (hB:B ≤ W.heap.size) (hA:Below W.heap.size W WA) (hg:WA.grownBy w3 nv.ownBlock) (hat:nv.ownBlock=some gg ∨ W.heap.size ≤ gg) {m:Nat} (hm:m=Ln.length + 1) {t:Tok} (hown3:w3.ownsRow B 159 2 (.slice (some ⟨gg,0,none⟩) m cap) m (rows tkc Ln ++ tkc t)) :
  RaRaw B (w3.setCell ⟨ab,2,none⟩ (.slice (some ⟨gg,0,none⟩) m cap)) ab ov av (.slice (some ⟨gg,0,none⟩) m cap) lv z Lo La (Ln ++ [t]) Ll∧Frm W (w3.setCell ⟨ab,2,none⟩ (.slice (some ⟨gg,0,none⟩) m cap)) (RaS ab B):=by
 obtain ⟨hF,hk⟩:=put_frm (k:=2) (ab:=ab) (u:=.slice (some ⟨gg,0,none⟩) m cap) hB hA hg fun q hq=>(h.nms.lt q hq).1
 have h3:=h.blk3 hA (own_ne_blk h.nms h.blk (by decide)) hg
 refine ⟨⟨h3.set_ 2 _,own_keep h.ops fun q hq=>hk q (h.ops.lt q hq).2 (own_ne h.ops h.nms (by decide) hq) (fun e=>own_ne_blk h.ops h.blk (by decide) (e ▸ hq)),own_keep h.ats fun q hq=>hk q (h.ats.lt q hq).2 (own_ne h.ats h.nms (by decide) hq) (fun e=>own_ne_blk h.ats h.blk (by decide) (e ▸ hq)),?_,own_keep h.lbs fun q hq=>hk q (h.lbs.lt q hq).2 (fun e=>h.ne q e hq) (fun e=>own_ne_blk h.lbs h.blk (by decide) (e ▸ hq)),?_⟩,hF⟩
 ·subst hm
  rw [List.length_append,List.length_singleton,rows_snoc]
  exact own_set hown3 h3 (by decide) _
 ·intro q hq he
  have:gg=q:=by simpa [Value.ownBlock] using hq
  subst this
  rcases hat with h1 | h1
  ·exact h.ne gg h1 he
  ·exact absurd (h.lbs.lt gg he).2 (by omega)
theorem RaRaw.put_lbs (h:RaRaw B W ab ov av nv lv z Lo La Ln Ll) (hB:B ≤ W.heap.size) (hA:Below W.heap.size W WA) (hg:WA.grownBy w3 lv.ownBlock) (hat:lv.ownBlock=some gg ∨ W.heap.size ≤ gg) {m:Nat} (hm:m=Ll.length + 1) {t:Tok} (hown3:w3.ownsRow B 159 2 (.slice (some ⟨gg,0,none⟩) m cap) m (rows tkc Ll ++ tkc t)) :
  RaRaw B (w3.setCell ⟨ab,4,none⟩ (.slice (some ⟨gg,0,none⟩) m cap)) ab ov av nv (.slice (some ⟨gg,0,none⟩) m cap) z Lo La Ln (Ll ++ [t])∧Frm W (w3.setCell ⟨ab,4,none⟩ (.slice (some ⟨gg,0,none⟩) m cap)) (RaS ab B):=by
 obtain ⟨hF,hk⟩:=put_frm (k:=4) (ab:=ab) (u:=.slice (some ⟨gg,0,none⟩) m cap) hB hA hg fun q hq=>(h.lbs.lt q hq).1
 have h3:=h.blk3 hA (own_ne_blk h.lbs h.blk (by decide)) hg
 refine ⟨⟨h3.set_ 4 _,own_keep h.ops fun q hq=>hk q (h.ops.lt q hq).2 (own_ne h.ops h.lbs (by decide) hq) (fun e=>own_ne_blk h.ops h.blk (by decide) (e ▸ hq)),own_keep h.ats fun q hq=>hk q (h.ats.lt q hq).2 (own_ne h.ats h.lbs (by decide) hq) (fun e=>own_ne_blk h.ats h.blk (by decide) (e ▸ hq)),own_keep h.nms fun q hq=>hk q (h.nms.lt q hq).2 (fun e=>h.ne q hq e) (fun e=>own_ne_blk h.nms h.blk (by decide) (e ▸ hq)),?_,?_⟩,hF⟩
 ·subst hm
  rw [List.length_append,List.length_singleton,rows_snoc]
  exact own_set hown3 h3 (by decide) _
 ·intro q hq he
  have:gg=q:=by simpa [Value.ownBlock] using he
  subst this
  rcases hat with h1 | h1
  ·exact h.ne gg hq h1
  ·exact absurd (h.nms.lt gg hq).2 (by omega)
theorem RaRaw.put_size (h:RaRaw B W ab ov av nv lv z Lo La Ln Ll) (z':Int):RaRaw B (W.setCell ⟨ab,3,none⟩ (.int .i64 z')) ab ov av nv lv z' Lo La Ln Ll∧Frm W (W.setCell ⟨ab,3,none⟩ (.int .i64 z')) (RaS ab B) :=
 ⟨⟨h.blk.set_ 3 _,own_set h.ops h.blk (by decide) _,own_set h.ats h.blk (by decide) _,own_set h.nms h.blk (by decide) _,own_set h.lbs h.blk (by decide) _,h.ne⟩,(Frm.refl W (RaS ab B)).set ab 3 _ (.inl (.inl rfl))⟩
end
theorem reads_frm {w w' : World} {B ab size n : Nat} {A : Option Addr} {xs : List Value} (h : Reads w B size A n xs) (hA : ∀ ad, A = some ad → ad.block ≠ ab) (hf : Frm w w' (RaS ab B)) (hB : B ≤ w.heap.size) : Reads w' B size A n xs :=
 ⟨h.1, fun hn => by
  obtain ⟨ad, e, hb, hc⟩ := h.2 hn
  refine ⟨ad, e, hb, fun j u hu => ?_⟩
  have hbl : w'.heap[(ad.add j).block]? = w.heap[(ad.add j).block]? := by
   rw [block_of_add]
   refine hf.block ad.block (by omega) fun hh => ?_
   rcases hh with h1 | h1
   ·exact hA ad e h1
   ·omega
  exact (World.cell?_of_block hbl).trans (hc j u hu)⟩
def labL (r:RSt) (l:List Tok):Except (Nat × Nat) (List Tok × RSt):=match l with
 | []=>.ok ([],r)
 | t :: rest=>if t.s.getLast? == some 58 then (
   if nameF t.s.dropLast=false then .error (9,t.pos)
   else if (labF2 r.labels t.s.dropLast).isSome then .error (11,t.pos)
   else .ok (rest,⟨r.labels ++ [(t.s.dropLast,r.size)],r.ins⟩))
  else .ok (t :: rest,r)
theorem lineL_labL (r:RSt) (l:List Tok):lineL r l=match labL r l with
  | .error e=>.error e
  | .ok ([],r')=>.ok r'
  | .ok (t :: rest,r')=>insL r' t rest:=by
 unfold lineL labL
 cases l with
 | nil=>rfl
 | cons t rest =>
  simp only
  split
  ·split
   ·rfl
   ·split
    ·rfl
    ·cases rest <;> rfl
  ·rfl
def LblPost (B:Nat) (w:World) (ab:Nat) (x:Except (Nat × Nat) (List Tok × RSt)) (e:Ending) (w':World):Prop:=match x with
 | .error y=>e=.returned (.tuple #[.slice none 0 0,.int .i64 y.1,.int .i64 y.2])∧Frm w w' (RaS ab B)
 | .ok (l',r')=>∃ (A':Option Addr) (n' c':Nat) (ov av nv lv:Value),e=.returned (.tuple #[.slice A' n' c',.int .i64 0,.int .i64 0])∧n' ≤ c'∧RaIs B w' ab ov av nv lv r'∧Reads w' B 2 A' n' (rows tkc l')∧(∀ ad,A'=some ad→ad.block ≠ ab)∧Frm w w' (RaS ab B)
theorem last_idx (s:ByteArray) (h:0 < s.size):∃ x:UInt8,s.data.toList.getLast?=some x∧∀ W:World,(Instr.index 9 (.string s) (.int .i64 ((s.size:Int) - 1))).run Tryz.prog W=.ok (.int .u8 (x.toNat:Int)) W:=by
 refine ⟨s[s.size - 1],?_,fun W=>?_⟩
 ·rw [List.getLast?_eq_getElem?,Array.length_toList,List.getElem?_eq_getElem (by rw [Array.length_toList];show s.data.size - 1 < s.data.size;have:0 < s.data.size:=h;omega)]
  rfl
 ·rw [run_index_string (P:=Tryz.prog) W 9 s .i64 _ Tryz.underlying9,dif_pos ⟨by omega,by omega⟩]
  have:((s.size:Int) - 1).toNat=s.size - 1:=by omega
  simp only [this]
theorem elem_rtok:Tryz.prog.elem 149=159:=by kernel_rfl
theorem size_rtok (w:World):(sizeOf 159).run Tryz.prog w=.ok 2 w:=by kernel_rfl
theorem info_rtok:(Tryz.prog.info? 159).map (fun i=>(i.zero,i.size,i.bytes))=some (some (.agg #[.string ⟨#[]⟩,.int .i64 0]),2,24):=by kernel_rfl
theorem rtok_tail {w:World} {B n c:Nat} {A:Option Addr} {u:Tok} {rest:List Tok} (hT:Reads w B 2 A n (rows tkc (u :: rest))) (hc:n ≤ c) :
  ∃ A',(∀ W,(Instr.sliceAt 149 (.slice A n c) (some (.int .i64 1)) none none).run Tryz.prog W=.ok (.slice A' rest.length (c - 1)) W)∧Reads w B 2 A' rest.length (rows tkc rest)∧rest.length ≤ c - 1∧∀ ad',A'=some ad'→∃ ad,A=some ad∧ad'.block=ad.block:=by
 have hl:=hT.1
 rw [rows_length tkc 2 tkc_len,List.length_cons] at hl
 have hn:n=rest.length + 1:=by omega
 refine ⟨if c=1 then A else A.map (·.add (1 * 2)),fun W=>?_,?_,by omega,fun ad' h=>?_⟩
 ·rw [run_sliceAt_slice W _ _ _ _ _ (by rw [elem_rtok];exact Tryz.underlying149),run_slice_l W 149 A n c (by rw [elem_rtok];exact Tryz.underlying149) .i64 1 (by omega) (by omega),elem_rtok,size_rtok]
  show Result.ok (sliced A 1 n c 2) W=_
  unfold sliced
  rw [show n - 1=rest.length by omega]
 ·have:=hT.cut (k:=1) (cap:=c) (by omega) hc
  rw [show n - 1=rest.length by omega] at this
  exact this
 ·split at h
  ·exact ⟨ad',h,rfl⟩
  ·cases A with
   | none=>cases h
   | some ad =>
    injection h with h
    subst h
    exact ⟨ad,rfl,block_of_add _ _⟩
set_option maxHeartbeats 4000000 in
theorem labels_any {B:Nat} {w:World} {ab:Nat} {ov av nv lv:Value} {r:RSt} (hR:RaIs B w ab ov av nv lv r) (hB:B ≤ w.heap.size) (l:List Tok) (A:Option Addr) (n c:Nat)
  (hT:Reads w B 2 A n (rows tkc l)) (hc:n ≤ c) (hA:∀ ad,A=some ad→ad.block ≠ ab) (hu:∀ t ∈ l,t.s ≠ []∧t.s.length ≤ 4294967296) (hn:n ≤ 4294967296) (hlab:r.labels.length ≤ 4294967295) :
  Calls Tryz.prog 141 #[.pointer (some ⟨ab,0,none⟩),.slice A n c] w (LblPost B w ab (labL r l)):=by
 have hl:=hT.1
 rw [rows_length tkc 2 tkc_len] at hl
 cases l with
 | nil =>
  have hn0:n=0:=by simp at hl;omega
  subst hn0
  have HR:=Lib.hid hR
  have HT:=Lib.hid hT
  clear hl hT hR
  go_enter Tryz.func141,Tryz.ntmps141
  go_upto_region 1 with fail
  go_quiet (fail)
  go_wp2_with fail
  go_ret3
  exact ⟨A,0,c,ov,av,nv,lv,rfl,hc,HR.out.keep (below_drewN (Below.refl _ _) _),HT.out.drewN _,hA,Frm.of_below (below_drewN (Below.refl _ _) _)⟩
 | cons u rest =>
  have hnl:n=rest.length + 1:=by rw [List.length_cons] at hl;omega
  have z1:((n:Int) == 0)=false:=by simp;omega
  have hn1:0 < n:=by omega
  obtain ⟨bt,off,rfl,hbt,hcell⟩:=reads_flat hT (by omega) (by omega)
  obtain ⟨s,hs⟩:∃ s:ByteArray,s=⟨u.s.toArray⟩:=⟨_,rfl⟩
  have c0:w.cell? ⟨bt,off,none⟩=some (.string s):=hs ▸ hcell 0 _ rfl
  have c1:w.cell? ⟨bt,off + 1,none⟩=some (.int .i64 u.pos):=hcell 1 _ rfl
  have hsl:s.data.toList=u.s:=by rw [hs]
  have hu1:=hu u (List.mem_cons_self ..)
  have hsz:s.size=u.s.length:=by
   have e1:s.size=s.data.toList.length:=Array.length_toList.symm
   rw [e1,hsl]
  have hpos:0 < s.size:=by rw [hsz];exact List.length_pos_iff.2 hu1.1
  have hss:s.size ≤ 4294967296:=by rw [hsz];exact hu1.2
  obtain ⟨x,hx,hidx⟩:=last_idx s hpos
  rw [hsl] at hx
  have hbw:bt < w.heap.size:=by omega
  have hba:bt ≠ ab:=hA _ rfl
  obtain ⟨A1,hsl1,hT1,hc1,hA1⟩:=rtok_tail hT hc
  have HT:=Lib.hid hT
  have HT1:=Lib.hid hT1
  have HA1:Hid (∀ ad,A1=some ad→ad.block ≠ ab):=Lib.hid (fun ad h=>by
   obtain ⟨ad0,h1,h2⟩:=hA1 ad h
   rw [h2]
   exact hA ad0 h1)
  have HSZ:=Lib.hid hsz
  have HNL:=Lib.hid hnl
  have HR:=Lib.hid hR
  have HSL:=Lib.hid hsl
  clear hcell hs hl hA1 hT hT1 hsz hnl hsl
  by_cases hcol:x=58
  ·have q1:((x.toNat:Int) != 58)=false:=by rw [hcol];rfl
   have hlast:(u.s.getLast? == some 58)=true:=by rw [hx,hcol];rfl
   obtain ⟨q,hq⟩:∃ q,q=s.extract 0 (s.size - 1):=⟨_,rfl⟩
   have hql:q.data.toList=u.s.dropLast:=by
    rw [hq,Go.Lib.extract_data,List.drop_zero,List.dropLast_eq_take,← HSL.out,Array.length_toList]
    rfl
   have hqs:q.size ≤ 4294967296:=by
    have e1:q.size=q.data.toList.length:=Array.length_toList.symm
    rw [e1,hql,List.length_dropLast]
    have:=hu1.2
    omega
   have hsl2:∀ W,(Instr.slice 9 (.string s) none (some (.int .i64 ((s.size:Int) - 1))) none).run Tryz.prog W=.ok (.string q) W:=fun W=>by
    rw [run_slice_string_h (P:=Tryz.prog) W 9 s Tryz.underlying9 .i64 _ (by omega) (by omega),hq]
    have:((s.size:Int) - 1).toNat=s.size - 1:=by omega
    rw [this]
   have HNM:=Lib.hid (fun W=>name_any q (by omega) W)
   rw [hql] at HNM
   obtain ⟨nm,hnm⟩:∃ nm,nm=u.s.dropLast:=⟨_,rfl⟩
   rw [← hnm] at HNM hql
   have HLL:Hid (labL r (u :: rest)=if nameF nm=false then .error (9,u.pos) else if (labF2 r.labels nm).isSome then .error (11,u.pos) else .ok (rest,⟨r.labels ++ [(nm,r.size)],r.ins⟩)):=Lib.hid (by
    rw [hnm];unfold labL;simp only [hlast,if_true])
   have HQL:=Lib.hid hql
   have hql2:=hql
   clear hq hql hnm hlast hcol hx hu1
   cases hname:nameF nm with
   | false =>
    rw [hname] at HNM
    have HL:Hid (labL r (u :: rest)=.error (9,u.pos)):=Lib.hid (by rw [HLL.out,if_pos hname])
    clear hname
    go_enter Tryz.func141,Tryz.ntmps141
    go_upto_region 1 with fail
    go_quiet (fail)
    go_upto_region 3 with fail
    go_quiet (fail)
    go_upto_region 6 with (go_at_call 163;refine (HNM.out _).mono ?_;rintro e w1 ⟨rfl,hw⟩;obtain rfl:=hw.symm)
    go_quiet (fail)
    go_wp2_with fail
    go_ret3
    rw [HL.out]
    exact ⟨rfl,Frm.of_below (by first | exact below_drewN (Below.refl _ _) _ | exact below_drewN (below_drewN (Below.refl _ _) _) _)⟩
   | true =>
    rw [hname] at HNM
    obtain ⟨Rl,cl,rfl,hcl,hRl⟩:=own_shapes HR.out.raw.lbs
    have hll:(r.labels.map labTok).length=r.labels.length:=List.length_map ..
    have HLC0:=Lib.hid (fun k:Nat=>rlabel_any (w:=w.drewN k) (HR.out.raw.blk.drewN k) (hRl.drewN k) (by omega) q)
    rw [hql2] at HLC0
    cases hlb:labF2 r.labels nm with
    | some k =>
     rw [hlb] at HLC0
     have HLC:Hid (∀ j:Nat,Calls Tryz.prog 114 #[.pointer (some ⟨ab,0,none⟩),.string q] (w.drewN j) fun e w'=>e=.returned (.int .i64 (k:Int))∧w'=w.drewN j):=Lib.hid HLC0.out
     have HL:Hid (labL r (u :: rest)=.error (11,u.pos)):=Lib.hid (by rw [HLL.out,if_neg (by rw [hname];exact Bool.noConfusion),hlb];rfl)
     have k1:decide ((0:Int) ≤ (k:Int))=true:=decide_eq_true (by omega)
     have k2:decide ((k:Int) ≥ 0)=true:=decide_eq_true (by omega)
     clear hname hlb hRl HLC0 hll
     go_enter Tryz.func141,Tryz.ntmps141
     go_upto_region 1 with fail
     go_quiet (fail)
     go_upto_region 3 with fail
     go_quiet (fail)
     go_upto_region 8 with (first | (go_at_call 163;refine (HNM.out _).mono ?_;rintro e w1 ⟨rfl,hw⟩;obtain rfl:=hw.symm) | (go_at_call 114;refine (HLC.out _).mono ?_;rintro e w1 ⟨rfl,hw⟩;obtain rfl:=hw.symm))
     go_quiet (fail)
     go_wp2_with fail
     go_ret3
     rw [HL.out]
     exact ⟨rfl,Frm.of_below (by first | exact below_drewN (Below.refl _ _) _ | exact below_drewN (below_drewN (Below.refl _ _) _) _)⟩
    | none =>
     rw [hlb] at HLC0
     have HLC:Hid (∀ j:Nat,Calls Tryz.prog 114 #[.pointer (some ⟨ab,0,none⟩),.string q] (w.drewN j) fun e w'=>e=.returned (.int .i64 (-1))∧w'=w.drewN j):=Lib.hid HLC0.out
     have HL:Hid (labL r (u :: rest)=.ok (rest,⟨r.labels ++ [(nm,r.size)],r.ins⟩)):=Lib.hid (by rw [HLL.out,if_neg (by rw [hname];exact Bool.noConfusion),hlb];rfl)
     clear hname hlb hRl HLC0 hll
     go_enter Tryz.func141,Tryz.ntmps141
     go_upto_region 1 with fail
     go_quiet (fail)
     go_upto_region 3 with fail
     go_quiet (fail)
     go_upto_region 9 with (first | (go_at_call 163;refine (HNM.out _).mono ?_;rintro e w1 ⟨rfl,hw⟩;obtain rfl:=hw.symm) | (go_at_call 114;refine (HLC.out _).mono ?_;rintro e w1 ⟨rfl,hw⟩;obtain rfl:=hw.symm))
     generalize hwq:World.drewN w _=wq
     have hBq:Below w.heap.size w wq:=hwq ▸ below_drewN (Below.refl _ _) _
     have hRq:=HR.out.raw.keep hBq
     have hzq:wq.heap.size=w.heap.size:=by rw [← hwq];rfl
     have hBB:B ≤ wq.heap.size:=by omega
     obtain ⟨m,hm⟩:∃ m,m=(r.labels.map labTok).length:=⟨_,rfl⟩
     have hm5:m ≤ 4294967295:=by rw [hm,List.length_map];exact hlab
     rw [← hm] at hRq
     have hown:=hRq.lbs
     rw [← hm] at hown
     have hnb:=own_ne_blk hown hRq.blk (by decide)
     have r4:wq.cell? ⟨ab,4,none⟩=some (.slice Rl m cl):=(hRq.blk.cell 4).trans rfl
     have r3:wq.cell? ⟨ab,3,none⟩=some (.int .i64 (r.size:Int)):=(hRq.blk.cell 3).trans rfl
     have hal:=hRq.blk.lt
     have hblk:=hRq.blk
     have HRQ:=Lib.hid hRq
     have HBQ:=Lib.hid hBq
     have HM:=Lib.hid hm
     have hc63:m + 1 ≤ maxLen:=by unfold maxLen;omega
     have hcby:(m + 1) * 24 ≤ 140737488355328:=by omega
     have h1c:∀ v ∈ [Value.string q,.int .i64 (r.size:Int)],v.oneCell'=true:=by intro v hv;simp at hv;rcases hv with rfl | rfl <;> rfl
     obtain ⟨i0,hi,hz0,hz1,hz2⟩:=info_parts info_rtok
     have HWQ:=Lib.hid hwq
     clear c0 c1 hRq hBq hm hwq hzq hlab hR
     go_region_law
      (refine step_append_lies _ (by rfl) _ _ _ (by rfl) B 159 i0 _ 2 24 Tryz.underlying149 hi hz0 hz1 hz2 rfl (by omega) (.slice Rl m cl) m (rows tkc (r.labels.map labTok)) (by rfl) (show _ from hown.alloc _)
        ⟨wq.heap.size,0,none⟩ 1 1 [.string q,.int .i64 (r.size:Int)] (by rfl) (by rfl) (World.news_of_block (cs:=#[.string q,.int .i64 (r.size:Int)]) (t:=159) (fr:=(0,0)) (heap_alloc_new wq _)) h1c
        (by omega) hc63 hcby (by simp;omega) (wq.heap.size + 1) (by simp) ?_;intro gg cap w3 hown3 hgrow hat hlt3;have hR3:Blk w3 ab 151 #[ov,av,nv,.int .i64 (r.size:Int),.slice Rl m cl]:=(hgrow.block ab (by simp;omega) (fun hh=>hnb hh.symm)).trans ((Below.heap_alloc wq _ ab hal).trans hblk);have m4:w3.cell? ⟨ab,4,none⟩=some (.slice Rl m cl):=(hR3.cell 4).trans rfl;have f4:w3.frozen? ⟨ab,4,none⟩=false:=hR3.frozen 4;have hrl3:ab < w3.heap.size:=hR3.lt)
     all_goals (have hq3:q=⟨nm.toArray⟩:=bytes_inj (by rw [HQL.out]))
     all_goals (have hfin:=HRQ.out.put_lbs hBB (by first | exact ((Below.refl _ _).alloc (Nat.le_refl _) _).drew | exact ((Below.refl _ _).drew.alloc (Nat.le_refl _) _) | exact ((Below.refl _ _).alloc (Nat.le_refl _) _)) hgrow (hat.imp id fun h=>by omega) (congrArg (· + 1) HM.out) (t:=⟨nm,r.size⟩) (by have h:=hown3;rw [hq3] at h;exact h))
     all_goals (have HFIN:=Lib.hid hfin)
     all_goals clear hfin hown3 hgrow hat hq3 m4 f4 r4 r3
     all_goals go_wp2_with (refine wpList_slice_g rfl 149 (.tmp 69) (some (.const (.int .i64 1))) none rfl rfl rfl rfl (hsl1 _) ?_)
     all_goals go_ret3
     all_goals (rw [HL.out])
     all_goals (refine ⟨A1,rest.length,c - 1,ov,av,nv,.slice (some ⟨gg,0,none⟩) (m + 1) cap,rfl,hc1,⟨?_,HR.out.size,HR.out.len⟩,reads_frm HT1.out HA1.out ((Frm.of_below HBQ.out).trans HFIN.out.2 fun _ h=>.inl h) hB,HA1.out,(Frm.of_below HBQ.out).trans HFIN.out.2 fun _ h=>.inl h⟩)
     all_goals (have h1:=HFIN.out.1)
     all_goals (rw [List.map_append])
     all_goals exact h1
  ·have q1:((x.toNat:Int) != 58)=true:=by
    rw [bne_iff_ne]
    intro e
    exact hcol (UInt8.toNat_inj.1 (by show _=58;omega))
   have hlast:(u.s.getLast? == some 58)=false:=by
    rw [hx,beq_eq_false_iff_ne]
    exact fun e=>hcol (by injection e)
   have HL:Hid (labL r (u :: rest)=.ok (u :: rest,r)):=Lib.hid (by unfold labL;simp only [hlast];rfl)
   clear hcol hlast hx hu1
   go_enter Tryz.func141,Tryz.ntmps141
   go_upto_region 1 with fail
   go_quiet (fail)
   go_wp2_with fail
   go_ret3
   rw [HL.out]
   exact ⟨_,n,c,ov,av,nv,lv,rfl,hc,HR.out.keep (below_drewN (Below.refl _ _) _),HT.out.drewN _,hA,Frm.of_below (below_drewN (Below.refl _ _) _)⟩
end Go.Proofs.YtiheggkkgbfndaaGreatDoor
