/- asm.tokens. -/
import Derived.Test.YtiheggkkgbfndaaGreatDoorL07
import Derived.Test.YtiheggkkgbfndaaGreatDoorL05
import Derived.Test.YtiheggkkgbfndaaGreatDoorSi
import Derived.Test.YtiheggkkgbfndaaGreatDoorL01
import Derived.Lib.Builder
import Derived.Lib.AppendStr
import Derived.Lib.UnsafeStr
import Derived.Lib.Walk
import Derived.Laws.Externs
import Derived.Maps.Own
import Derived.Maps.OwnSet
import Derived.Maps.Views
import Derived.Carry
import Derived.Test.YtiheggkkgbfndaaGreatDoorSh
import Derived.BigQuiet
import Derived.Deep.QuietTactic
namespace Go.Proofs.YtiheggkkgbfndaaGreatDoor
open Go.RowKit Go.Joins Go.ChangeShapes Go.WideShapes Go.Deep
set_option linter.unusedVariables false
set_option linter.unusedSimpArgs false
set_option maxRecDepth 100000
def tkc (t:Tok):List Value:=[.string ⟨t.s.toArray⟩,.int .i64 t.pos]
theorem tkc_len (t:Tok):(tkc t).length=2:=rfl
theorem info_token:(Tryz.prog.info? 202).map (fun i=>(i.zero,i.size,i.bytes))=some (some (.agg #[.string ⟨#[]⟩,.int .i64 0]),2,24):=by kernel_rfl
def stt (a:Nat) (c:List UInt8) (i:Nat):List Tok × List UInt8 × Nat:=sc a ((c ++ [32]).take i)
theorem stt_step (a:Nat) (c:List UInt8) (i:Nat) (b:UInt8) (h:(c ++ [32])[i]?=some b):stt a c (i + 1)=scStep a (stt a c i) b:=by
 unfold stt
 rw [List.take_add_one,h]
 exact sc_snoc a _ b
theorem stt_len (a:Nat) (c:List UInt8) (i:Nat) (h:i ≤ c.length + 1):(stt a c i).2.2=i:=by
 unfold stt
 rw [sc_len,List.length_take,List.length_append,List.length_singleton]
 omega
theorem stt_gap (a:Nat) (c:List UInt8) (i:Nat) (b:UInt8) (h:(c ++ [32])[i]?=some b) (hb:isGap b=true):(stt a c (i + 1)).1=flushT a (stt a c i)∧(stt a c (i + 1)).2.1=[]:=by
 rw [stt_step a c i b h,scStep,if_pos hb]
 exact ⟨rfl,rfl⟩
theorem stt_chr (a:Nat) (c:List UInt8) (i:Nat) (b:UInt8) (h:(c ++ [32])[i]?=some b) (hb:isGap b=false):(stt a c (i + 1)).1=(stt a c i).1∧(stt a c (i + 1)).2.1=(stt a c i).2.1 ++ [b]:=by
 rw [stt_step a c i b h,scStep,if_neg (by rw [hb];exact Bool.false_ne_true)]
 exact ⟨rfl,rfl⟩
theorem sc_count (a:Nat) (p:List UInt8):(sc a p).1.length ≤ p.length:=by
 induction p using snoc_ind' with
 | h0=>exact Nat.le_refl _
 | h1 l x ih =>
  rw [sc_snoc,scStep,List.length_append,List.length_singleton]
  split
  ·show (if (sc a l).2.1=[] then (sc a l).1 else _).length ≤ _
   split
   ·omega
   ·rw [List.length_append,List.length_singleton];omega
  ·show (sc a l).1.length ≤ _
   omega
theorem stt_count (a:Nat) (c:List UInt8) (i:Nat):(stt a c i).1.length ≤ i:=by
 have:=sc_count a ((c ++ [32]).take i)
 rw [List.length_take] at this
 exact Nat.le_trans this (Nat.min_le_left _ _)
theorem stt_last (a:Nat) (c:List UInt8):(stt a c (c.length + 1)).1=flushT a (sc a c):=by
 rw [(stt_gap a c c.length 32 (by simp) rfl).1]
 unfold stt
 rw [List.take_left]
theorem stt_cur (a:Nat) (c:List UInt8) (i:Nat) (h:i ≤ c.length):(stt a c i).2.1.length ≤ i∧(stt a c i).2.1=(c.take i).drop (i - (stt a c i).2.1.length):=by
 have e:stt a c i=sc a (c.take i):=by unfold stt;rw [List.take_append_of_le_length h]
 rw [e]
 obtain ⟨q,hq⟩:=sc_suffix a (c.take i)
 have hl:=congrArg List.length hq
 rw [List.length_take,List.length_append,Nat.min_eq_left h] at hl
 refine ⟨by omega,?_⟩
 have:i - (sc a (c.take i)).2.1.length=q.length:=by omega
 rw [this]
 conv=>rhs;rw [hq]
 rw [List.drop_left]
theorem tok_str (c:ByteArray) (f i:Nat) (l:List UInt8) (h:l=(c.data.toList.take i).drop f):c.extract f i=⟨l.toArray⟩:=by
 apply bytes_inj
 rw [Go.Lib.extract_data,h,List.drop_take]
theorem line_at (c:ByteArray) (i:Nat) (h:i < c.size):(c.data.toList ++ [32])[i]?=some (c[i]):=by
 rw [List.getElem?_append_left (by rw [Array.length_toList];exact h),List.getElem?_eq_getElem (by rw [Array.length_toList];exact h)]
 rfl
theorem line_end (c:ByteArray):(c.data.toList ++ [32])[c.size]?=some 32:=by
 rw [List.getElem?_append_right (by rw [Array.length_toList];exact Nat.le_refl _),Array.length_toList]
 show [32][c.size - c.size]?=_
 simp
theorem gap_at (b:UInt8):isGap b=(((b.toNat:Int) == 32) || ((b.toNat:Int) == 9)):=by
 unfold isGap
 rw [Bool.eq_iff_iff]
 simp only [Bool.or_eq_true,beq_iff_eq,← UInt8.toNat_inj]
 constructor
 ·rintro (h | h)
  ·left;rw [h];rfl
  ·right;rw [h];rfl
 ·rintro (h | h)
  ·left;have:b.toNat=32:=by omega
   exact this
  ·right;have:b.toNat=9:=by omega
   exact this
def frV (cur:List UInt8) (i:Nat):Int:=if cur=[] then -1 else ((i - cur.length:Nat):Int)
set_option maxHeartbeats 4000000 in
theorem tokens_any (s:ByteArray) (a:Nat) (m:Int) (w:World) (hs:s.size < 4294967281) (ha:a < 4294967281) (hm:w.cell? ⟨4,0,none⟩=some (.int .i64 m)) :
  Calls Tryz.prog 138 #[.string s,.int .i64 a] w fun r w'=>Below w.heap.size w w'∧∃ v,r=.returned v∧w'.ownsRow w.heap.size 202 2 v (lineTok s.data.toList a).length (rows tkc (lineTok s.data.toList a)):=by
 obtain ⟨i0,hi,hz0,hz1,hz2⟩:=info_parts info_token
 have HCUT:=Lib.hid (Tryz.strings_Cut s ⟨#[35]⟩ m w hs hm)
 have e1:(⟨(Go.Lib.cut s.data.toList (⟨#[35]⟩:ByteArray).data.toList).1.toArray⟩:ByteArray)=⟨(cutR s.data.toList).toArray⟩:=congrArg (fun l:List UInt8=>(⟨l.toArray⟩:ByteArray)) (cut_one 35 s.data.toList)
 rw [e1] at HCUT
 obtain ⟨x2,hx2⟩:∃ x:ByteArray,x=⟨(Go.Lib.cut s.data.toList (⟨#[35]⟩:ByteArray).data.toList).2.1.toArray⟩:=⟨_,rfl⟩
 obtain ⟨x3,hx3⟩:∃ x:Bool,x=(Go.Lib.cut s.data.toList (⟨#[35]⟩:ByteArray).data.toList).2.2:=⟨_,rfl⟩
 obtain ⟨c,hc⟩:∃ x:ByteArray,x=⟨(cutR s.data.toList).toArray⟩:=⟨_,rfl⟩
 rw [← hx2,← hx3,← hc] at HCUT
 have hcl:c.data.toList=cutR s.data.toList:=by rw [hc]
 have hcs:c.size ≤ s.size:=by
  have h1:c.size=(cutR s.data.toList).length:=by rw [← hcl,Array.length_toList];rfl
  have h2:(cutR s.data.toList).length ≤ s.data.toList.length:=List.IsPrefix.length_le (List.takeWhile_prefix _)
  have h3:s.data.toList.length=s.size:=Array.length_toList
  rw [h1,← h3]
  exact h2
 have HL:Hid (lineTok s.data.toList a=(stt a c.data.toList (c.size + 1)).1):=Lib.hid (by
  have h1:c.size=c.data.toList.length:=by rw [Array.length_toList];rfl
  rw [h1,stt_last,hcl]
  rfl)
 clear e1 hx2 hx3 hc hcl
 obtain ⟨L0,hL0⟩:∃ L0,L0=lineTok s.data.toList a:=⟨_,rfl⟩
 rw [← hL0] at HL ⊢
 clear hL0
 have hcs2:c.size < 4294967281:=by omega
 clear hcs hs
 obtain ⟨n,hn⟩:∃ n,n=c.size:=⟨_,rfl⟩
 have hn1:n ≤ c.size:=by omega
 have hn2:c.size ≤ n:=by omega
 clear hn
 go_enter Tryz.func138,Tryz.ntmps138
 go_wp2_with (go_at_call 111;refine (HCUT.out).mono ?_;rintro r w1 ⟨hr,nd,hw⟩;subst hr;subst hw)
 go_loopg [5,6,7] (n + 1) (fun gk v fv iv wr=>∃ i:Nat,iv=.int .i64 i∧i ≤ n + 1∧gk=n + 1 - i∧fv=.int .i64 (frV (stt a c.data.toList i).2.1 i)∧wr.ownsRow w.heap.size 202 2 v (stt a c.data.toList i).1.length (rows tkc (stt a c.data.toList i).1)∧Below w.heap.size w wr)
 case atStart=>exact ⟨0,rfl,Nat.zero_le _,rfl,rfl,World.ownsRow_nil _ _ _ _,by repeat (first | with_reducible exact Below.refl _ _ | with_reducible refine Below.drew ?_ | with_reducible refine below_drewN ?_ _ | ((with_reducible refine Below.alloc ?_ ?_ _);(rotate_left;focus (first | with_reducible exact Nat.le_refl _ | omega | (simp;done) | (simp;omega) | (simp [World.setCell];done) | (simp [World.setCell];omega)))) | ((with_reducible refine Below.setCell ?_ ?_ _);(rotate_left;focus (first | with_reducible exact Nat.le_refl _ | omega | (simp;done) | (simp;omega) | (simp [World.setCell];done) | (simp [World.setCell];omega)))))⟩
 case round =>
  obtain ⟨i,rfl,hi1,hgk,hfv,hown,hbel⟩:=hrel
  have HG:=Lib.hid hgk
  have HCZ:Hid (c.size=c.data.toList.length):=Lib.hid Array.length_toList.symm
  clear hgk
  by_cases hin:i ≤ n
  ·have e1:decide ((i:Int) ≤ (c.size:Int))=true:=decide_eq_true (by omega)
   have e2:decide (i ≤ c.size)=true:=decide_eq_true (by omega)
   have hcnt:=stt_count a c.data.toList i
   obtain ⟨hcl,hcur⟩:=stt_cur a c.data.toList i (by have:=HCZ.out;omega)
   by_cases hie:i < n
   ·have hil:i < c.size:=by omega
    have z1:((i:Int) == (c.size:Int))=false:=by simp;omega
    have z2:(i == c.size)=false:=by simp;omega
    have hb:=line_at c i hil
    have hga:=gap_at (c[i])
    clear hie
    cases hgap:isGap (c[i]) with
    | true =>
     rw [hgap] at hga
     cases q1:(((c[i]).toNat:Int) == 32) with
     | true =>
      clear hga
      have HGP:=Lib.hid hgap
      obtain ⟨hn1x,hn2x⟩:=stt_gap a c.data.toList i _ hb hgap
      unfold flushT at hn1x
      have HN2:=Lib.hid hn2x
      clear hgap hb hn2x
      by_cases hcn:(stt a c.data.toList i).2.1=[]
      ·rw [if_pos hcn] at hn1x
       have HN1:=Lib.hid hn1x
       have hfr:frV (stt a c.data.toList i).2.1 i=-1:=by rw [hcn];rfl
       rw [hfr] at hfv
       subst hfv
       clear hn1x hcn hcl hcur hfr
       go_wp2
       go_roundg (n + 1 - (i + 1))
       case measure=>have:=HG.out;omega
       case rel=>exact ⟨i + 1,by simp,by omega,rfl,by rw [HN2.out];rfl,by rw [HN1.out];exact hown,hbel⟩
      ·rw [if_neg hcn,stt_len a c.data.toList i (by have:=HCZ.out;omega)] at hn1x
       have HN1:=Lib.hid hn1x
       have hfr:frV (stt a c.data.toList i).2.1 i=((i - (stt a c.data.toList i).2.1.length:Nat):Int):=by unfold frV;rw [if_neg hcn]
       rw [hfr] at hfv
       obtain ⟨cur,hcu⟩:∃ cur,cur=(stt a c.data.toList i).2.1:=⟨_,rfl⟩
       rw [← hcu] at HN1 hcur hfv hcl
       obtain ⟨f,hf⟩:∃ f,f=i - cur.length:=⟨_,rfl⟩
       rw [← hf] at HN1 hcur hfv
       subst hfv
       have hst:c.extract f i=⟨cur.toArray⟩:=tok_str c f i cur hcur
       have hfi:f ≤ i:=by omega
       have hsl:∀ W,(Instr.slice 9 (.string c) (some (.int .i64 (f:Int))) (some (.int .i64 (i:Int))) none).run Tryz.prog W=.ok (.string ⟨cur.toArray⟩) W:=fun W=>by
        have h:=run_slice_string (P:=Tryz.prog) W 9 c .i64 .i64 (f:Int) (i:Int) Tryz.underlying9 (by omega) (by omega) (by omega)
        rw [Int.toNat_natCast,Int.toNat_natCast,hst] at h
        exact h
       have haf:a + f ≤ 9223372036854775807:=by omega
       have hc2:∀ u ∈ ([.string ⟨cur.toArray⟩,.int .i64 ((a:Int) + (f:Int))]:List Value),u.oneCell'=true:=by intro u hu;simp at hu;rcases hu with rfl | rfl <;> rfl
       obtain ⟨D,hD⟩:∃ D,D=(stt a c.data.toList i).1:=⟨_,rfl⟩
       rw [← hD] at HN1 hown hcnt
       have hc3:D.length + 1 ≤ maxLen:=by unfold maxLen;omega
       have hc4:(D.length + 1) * 24 ≤ 140737488355328:=by omega
       have hbs:=hbel.size
       have hc5:w.heap.size ≤ (wr.alloc (.cells #[.string ⟨cur.toArray⟩,.int .i64 ((a:Int) + (f:Int))] 202)).heap.size:=by simp;omega
       have HB:=Lib.hid hbel
       have HCU:=Lib.hid hcu
       clear hn1x hcn hcl hcur hfr hst hf hD hbel hcu
       go_wp2_with (at_builtin;go_must (refine wpList_append_own _ rfl _ _ 199 rfl w.heap.size 202 i0 _ 2 24 Tryz.underlying199 hi hz0 hz1 hz2 rfl (by decide) _ _ _ rfl (hown.alloc _) ⟨wr.heap.size,0,none⟩ 1 1 [.string ⟨cur.toArray⟩,.int .i64 ((a:Int) + (f:Int))] rfl rfl (World.news_of_block (cs:=#[.string ⟨cur.toArray⟩,.int .i64 ((a:Int) + (f:Int))]) (t:=202) (fr:=(0,0)) (by simpa using heap_alloc_new wr (.cells #[.string ⟨cur.toArray⟩,.int .i64 ((a:Int) + (f:Int))] 202))) hc2 hc3 hc4 hc5 ?_;intro v' w2 hown2 hgrow _))
       have hbf:Below w.heap.size w w2:=(HB.out.alloc hbs _).trans (below_grown (hown.alloc _) hgrow hc5)
       clear hgrow
       go_roundg (n + 1 - (i + 1))
       case measure=>have:=HG.out;omega
       case rel=>exact ⟨i + 1,by simp,by omega,rfl,by rw [HN2.out];rfl,by rw [HN1.out,List.length_append,rows_snoc];exact hown2,hbf⟩
     | false =>
      rw [q1,Bool.false_or] at hga
      have q2:=hga.symm
      clear hga
      have HGP:=Lib.hid hgap
      obtain ⟨hn1x,hn2x⟩:=stt_gap a c.data.toList i _ hb hgap
      unfold flushT at hn1x
      have HN2:=Lib.hid hn2x
      clear hgap hb hn2x
      by_cases hcn:(stt a c.data.toList i).2.1=[]
      ·rw [if_pos hcn] at hn1x
       have HN1:=Lib.hid hn1x
       have hfr:frV (stt a c.data.toList i).2.1 i=-1:=by rw [hcn];rfl
       rw [hfr] at hfv
       subst hfv
       clear hn1x hcn hcl hcur hfr
       go_wp2
       go_roundg (n + 1 - (i + 1))
       case measure=>have:=HG.out;omega
       case rel=>exact ⟨i + 1,by simp,by omega,rfl,by rw [HN2.out];rfl,by rw [HN1.out];exact hown,hbel⟩
      ·rw [if_neg hcn,stt_len a c.data.toList i (by have:=HCZ.out;omega)] at hn1x
       have HN1:=Lib.hid hn1x
       have hfr:frV (stt a c.data.toList i).2.1 i=((i - (stt a c.data.toList i).2.1.length:Nat):Int):=by unfold frV;rw [if_neg hcn]
       rw [hfr] at hfv
       obtain ⟨cur,hcu⟩:∃ cur,cur=(stt a c.data.toList i).2.1:=⟨_,rfl⟩
       rw [← hcu] at HN1 hcur hfv hcl
       obtain ⟨f,hf⟩:∃ f,f=i - cur.length:=⟨_,rfl⟩
       rw [← hf] at HN1 hcur hfv
       subst hfv
       have hst:c.extract f i=⟨cur.toArray⟩:=tok_str c f i cur hcur
       have hfi:f ≤ i:=by omega
       have hsl:∀ W,(Instr.slice 9 (.string c) (some (.int .i64 (f:Int))) (some (.int .i64 (i:Int))) none).run Tryz.prog W=.ok (.string ⟨cur.toArray⟩) W:=fun W=>by
        have h:=run_slice_string (P:=Tryz.prog) W 9 c .i64 .i64 (f:Int) (i:Int) Tryz.underlying9 (by omega) (by omega) (by omega)
        rw [Int.toNat_natCast,Int.toNat_natCast,hst] at h
        exact h
       have haf:a + f ≤ 9223372036854775807:=by omega
       have hc2:∀ u ∈ ([.string ⟨cur.toArray⟩,.int .i64 ((a:Int) + (f:Int))]:List Value),u.oneCell'=true:=by intro u hu;simp at hu;rcases hu with rfl | rfl <;> rfl
       obtain ⟨D,hD⟩:∃ D,D=(stt a c.data.toList i).1:=⟨_,rfl⟩
       rw [← hD] at HN1 hown hcnt
       have hc3:D.length + 1 ≤ maxLen:=by unfold maxLen;omega
       have hc4:(D.length + 1) * 24 ≤ 140737488355328:=by omega
       have hbs:=hbel.size
       have hc5:w.heap.size ≤ (wr.alloc (.cells #[.string ⟨cur.toArray⟩,.int .i64 ((a:Int) + (f:Int))] 202)).heap.size:=by simp;omega
       have HB:=Lib.hid hbel
       have HCU:=Lib.hid hcu
       clear hn1x hcn hcl hcur hfr hst hf hD hbel hcu
       go_wp2_with (at_builtin;go_must (refine wpList_append_own _ rfl _ _ 199 rfl w.heap.size 202 i0 _ 2 24 Tryz.underlying199 hi hz0 hz1 hz2 rfl (by decide) _ _ _ rfl (hown.alloc _) ⟨wr.heap.size,0,none⟩ 1 1 [.string ⟨cur.toArray⟩,.int .i64 ((a:Int) + (f:Int))] rfl rfl (World.news_of_block (cs:=#[.string ⟨cur.toArray⟩,.int .i64 ((a:Int) + (f:Int))]) (t:=202) (fr:=(0,0)) (by simpa using heap_alloc_new wr (.cells #[.string ⟨cur.toArray⟩,.int .i64 ((a:Int) + (f:Int))] 202))) hc2 hc3 hc4 hc5 ?_;intro v' w2 hown2 hgrow _))
       have hbf:Below w.heap.size w w2:=(HB.out.alloc hbs _).trans (below_grown (hown.alloc _) hgrow hc5)
       clear hgrow
       go_roundg (n + 1 - (i + 1))
       case measure=>have:=HG.out;omega
       case rel=>exact ⟨i + 1,by simp,by omega,rfl,by rw [HN2.out];rfl,by rw [HN1.out,List.length_append,rows_snoc];exact hown2,hbf⟩
    | false =>
     rw [hgap] at hga
     have hga2:=Bool.or_eq_false_iff.1 hga.symm
     have q1:=hga2.1
     have q2:=hga2.2
     obtain ⟨hn1x,hn2x⟩:=stt_chr a c.data.toList i _ hb hgap
     have HN1:=Lib.hid hn1x
     have HN2:=Lib.hid hn2x
     clear hn1x hn2x hga hga2 hb hgap
     by_cases hcn:(stt a c.data.toList i).2.1=[]
     ·have hfr:frV (stt a c.data.toList i).2.1 i=-1:=by rw [hcn];rfl
      rw [hfr] at hfv
      subst hfv
      have HCN:=Lib.hid hcn
      clear hcn hcl hcur hfr
      go_wp2
      go_roundg (n + 1 - (i + 1))
      case measure=>have:=HG.out;omega
      case rel=>exact ⟨i + 1,by simp,by omega,rfl,by rw [HN2.out,HCN.out];unfold frV;simp,by rw [HN1.out];exact hown,hbel⟩
     ·have hfr:frV (stt a c.data.toList i).2.1 i=((i - (stt a c.data.toList i).2.1.length:Nat):Int):=by unfold frV;rw [if_neg hcn]
      rw [hfr] at hfv
      obtain ⟨cur,hcu⟩:∃ cur,cur=(stt a c.data.toList i).2.1:=⟨_,rfl⟩
      rw [← hcu] at hcur hfv hcl hcn HN2
      obtain ⟨f,hf⟩:∃ f,f=i - cur.length:=⟨_,rfl⟩
      rw [← hf] at hfv
      subst hfv
      have HCN:=Lib.hid hcn
      have HCL:=Lib.hid hcl
      have HF:=Lib.hid hf
      have hfi:f ≤ i:=by omega
      have y1:decide ((f:Int) < 0)=false:=decide_eq_false (by omega)
      clear hcn hcl hcur hfr hf hcu
      go_wp2
      go_roundg (n + 1 - (i + 1))
      case measure=>have:=HG.out;omega
      case rel=>exact ⟨i + 1,by simp,by omega,rfl,by
       have h1:=HCL.out
       have h2:=HF.out
       rw [HN2.out];unfold frV;rw [if_neg (by simp),List.length_append,List.length_singleton]
       congr 2;omega,by rw [HN1.out];exact hown,hbel⟩
   ·have z1:((i:Int) == (c.size:Int))=true:=by simp;omega
    have z2:(i == c.size)=true:=by simp;omega
    have hb:(c.data.toList ++ [32])[i]?=some 32:=by
     have:i=c.size:=by omega
     rw [this]
     exact line_end c
    clear hie
    have hgap:isGap (32:UInt8)=true:=rfl
    have HGP:=Lib.hid hgap
    obtain ⟨hn1x,hn2x⟩:=stt_gap a c.data.toList i _ hb hgap
    unfold flushT at hn1x
    have HN2:=Lib.hid hn2x
    clear hgap hb hn2x
    by_cases hcn:(stt a c.data.toList i).2.1=[]
    ·rw [if_pos hcn] at hn1x
     have HN1:=Lib.hid hn1x
     have hfr:frV (stt a c.data.toList i).2.1 i=-1:=by rw [hcn];rfl
     rw [hfr] at hfv
     subst hfv
     clear hn1x hcn hcl hcur hfr
     go_wp2
     go_roundg (n + 1 - (i + 1))
     case measure=>have:=HG.out;omega
     case rel=>exact ⟨i + 1,by simp,by omega,rfl,by rw [HN2.out];rfl,by rw [HN1.out];exact hown,hbel⟩
    ·rw [if_neg hcn,stt_len a c.data.toList i (by have:=HCZ.out;omega)] at hn1x
     have HN1:=Lib.hid hn1x
     have hfr:frV (stt a c.data.toList i).2.1 i=((i - (stt a c.data.toList i).2.1.length:Nat):Int):=by unfold frV;rw [if_neg hcn]
     rw [hfr] at hfv
     obtain ⟨cur,hcu⟩:∃ cur,cur=(stt a c.data.toList i).2.1:=⟨_,rfl⟩
     rw [← hcu] at HN1 hcur hfv hcl
     obtain ⟨f,hf⟩:∃ f,f=i - cur.length:=⟨_,rfl⟩
     rw [← hf] at HN1 hcur hfv
     subst hfv
     have hst:c.extract f i=⟨cur.toArray⟩:=tok_str c f i cur hcur
     have hfi:f ≤ i:=by omega
     have hsl:∀ W,(Instr.slice 9 (.string c) (some (.int .i64 (f:Int))) (some (.int .i64 (i:Int))) none).run Tryz.prog W=.ok (.string ⟨cur.toArray⟩) W:=fun W=>by
      have h:=run_slice_string (P:=Tryz.prog) W 9 c .i64 .i64 (f:Int) (i:Int) Tryz.underlying9 (by omega) (by omega) (by omega)
      rw [Int.toNat_natCast,Int.toNat_natCast,hst] at h
      exact h
     have haf:a + f ≤ 9223372036854775807:=by omega
     have hc2:∀ u ∈ ([.string ⟨cur.toArray⟩,.int .i64 ((a:Int) + (f:Int))]:List Value),u.oneCell'=true:=by intro u hu;simp at hu;rcases hu with rfl | rfl <;> rfl
     obtain ⟨D,hD⟩:∃ D,D=(stt a c.data.toList i).1:=⟨_,rfl⟩
     rw [← hD] at HN1 hown hcnt
     have hc3:D.length + 1 ≤ maxLen:=by unfold maxLen;omega
     have hc4:(D.length + 1) * 24 ≤ 140737488355328:=by omega
     have hbs:=hbel.size
     have hc5:w.heap.size ≤ (wr.alloc (.cells #[.string ⟨cur.toArray⟩,.int .i64 ((a:Int) + (f:Int))] 202)).heap.size:=by simp;omega
     have HB:=Lib.hid hbel
     have HCU:=Lib.hid hcu
     clear hn1x hcn hcl hcur hfr hst hf hD hbel hcu
     go_wp2_with (at_builtin;go_must (refine wpList_append_own _ rfl _ _ 199 rfl w.heap.size 202 i0 _ 2 24 Tryz.underlying199 hi hz0 hz1 hz2 rfl (by decide) _ _ _ rfl (hown.alloc _) ⟨wr.heap.size,0,none⟩ 1 1 [.string ⟨cur.toArray⟩,.int .i64 ((a:Int) + (f:Int))] rfl rfl (World.news_of_block (cs:=#[.string ⟨cur.toArray⟩,.int .i64 ((a:Int) + (f:Int))]) (t:=202) (fr:=(0,0)) (by simpa using heap_alloc_new wr (.cells #[.string ⟨cur.toArray⟩,.int .i64 ((a:Int) + (f:Int))] 202))) hc2 hc3 hc4 hc5 ?_;intro v' w2 hown2 hgrow _))
     have hbf:Below w.heap.size w w2:=(HB.out.alloc hbs _).trans (below_grown (hown.alloc _) hgrow hc5)
     clear hgrow
     go_roundg (n + 1 - (i + 1))
     case measure=>have:=HG.out;omega
     case rel=>exact ⟨i + 1,by simp,by omega,rfl,by rw [HN2.out];rfl,by rw [HN1.out,List.length_append,rows_snoc];exact hown2,hbf⟩
  ·have e1:decide ((i:Int) ≤ (c.size:Int))=false:=decide_eq_false (by omega)
   have e2:decide (i ≤ c.size)=false:=decide_eq_false (by omega)
   have HI:Hid (i=c.size + 1):=Lib.hid (by omega)
   go_wp2
   refine bodyPost_ret (v:=u5) (by simp [results,Tryz.results138,go_sem]) rfl ?_
   exact ⟨hbel,u5,rfl,by rw [HL.out,← HI.out];exact hown⟩
def Bld (b:Nat) (l:List UInt8) (w:World):Prop:=Lib.IsBuilder 75 5 b b (Lib.byteCells l) w
def BldS (w:World) (b:Nat) (q:Nat):Prop:=q=b ∨ (b ≤ q∧∃ cs,Blk w q 5 cs)
theorem Bld.new (w:World):Bld w.heap.size [] (w.alloc (.cells #[.pointer none,.slice none 0 0] 75)):=Lib.fresh_isBuilder _ _ w
theorem Bld.at_ {b:Nat} {l:List UInt8} {w:World} (h:Bld b l w):∃ p v,(p=none ∨ p=some (⟨b,0,none⟩:Addr))∧Blk w b 75 #[.pointer p,v]∧w.ownsRow b 5 1 v l.length (byc l):=by
 rcases h with ⟨_,v,hb,hown,_⟩ | ⟨_,v,hb,hown,_⟩
 ·exact ⟨none,v,.inl rfl,hb,by rw [Lib.byteCells_length] at hown;exact hown⟩
 ·exact ⟨some ⟨b,0,none⟩,v,.inr rfl,hb,by rw [Lib.byteCells_length] at hown;exact hown⟩
theorem Bld.of {b:Nat} {l:List UInt8} {w:World} {p:Option Addr} {v:Value} (hp:p=none ∨ p=some (⟨b,0,none⟩:Addr)) (hb:Blk w b 75 #[.pointer p,v]) (hown:w.ownsRow b 5 1 v l.length (byc l)):Bld b l w:=by
 have hne:v.ownBlock ≠ some b:=own_ne_blk hown hb (by decide)
 have hown':w.ownsRow b 5 1 v (Lib.byteCells l).length (Lib.byteCells l):=by rw [Lib.byteCells_length];exact hown
 rcases hp with rfl | rfl
 ·exact .inl ⟨Nat.le_refl _,v,hb,hown',hne⟩
 ·exact .inr ⟨Nat.le_refl _,v,hb,hown',hne⟩
theorem Bld.lt {b:Nat} {l:List UInt8} {w:World} (h:Bld b l w):b < w.heap.size:=by
 obtain ⟨p,v,_,hb,_⟩:=h.at_
 exact hb.lt
theorem Bld.keep {b:Nat} {l:List UInt8} {w w':World} (h:Bld b l w) (hb:Below w.heap.size w w'):Bld b l w':=by
 obtain ⟨p,v,hp,hbk,hown⟩:=h.at_
 exact Bld.of hp (hbk.below hb hbk.lt) (own_beb hown hb)
theorem info_bld:(Tryz.prog.info? 75).map (fun i=>(i.zero,i.size,i.bytes))=some (some (.agg #[.pointer none,.slice none 0 0]),2,32):=by kernel_rfl
theorem lies_bld:liesAt Tryz.prog Tryz.prog.depth 75 (2 / Tryz.prog.cellsOf 75) 0 75 1=true:=by kernel_rfl

set_option maxHeartbeats 1000000 in
theorem copyCheck_used (b:Nat) (w:World) (h0:w.cell? ⟨b,0,none⟩=some (.pointer (some ⟨b,0,none⟩))) :
  Calls Tryz.prog 60 #[.pointer (some ⟨b,0,none⟩)] w fun e w'=>e=.returned (.tuple #[])∧w'=w:=by
 obtain ⟨i0,hi,_,_,_⟩:=info_parts info_bld
 go_enter Tryz.func60,Tryz.ntmps60
 go_wp2
 rw [Lib.run_neq_ptr_same w _ Tryz.underlying72 hi]
 go_wp2
 go_end0
 exact ⟨rfl,rfl⟩

set_option maxHeartbeats 1000000 in
theorem copyCheck_fresh (b:Nat) (w:World) (h0:w.cell? ⟨b,0,none⟩=some (.pointer none)) (hsh:w.shape? b=some (75,2)) (hfz:w.frozen? ⟨b,0,none⟩=false) :
  Calls Tryz.prog 60 #[.pointer (some ⟨b,0,none⟩)] w fun e w'=>e=.returned (.tuple #[])∧w'=w.setCell ⟨b,0,none⟩ (.pointer (some ⟨b,0,none⟩)):=by
 obtain ⟨i0,hi,_,hsz,_⟩:=info_parts info_bld
 go_enter Tryz.func60,Tryz.ntmps60
 go_wp2
 rw [Lib.run_to_unsafe w ⟨b,0,none⟩ Tryz.underlying72 Tryz.underlying135 hi (by rw [hsz];decide) hsh (Nat.zero_lt_succ 1)]
 simp only [Result.andThen]
 rw [Oper.upon_value]
 go_wp2
 rw [run_callFunc_extern Tryz.func95 (by kernel_rfl) (by kernel_rfl) (by kernel_rfl) (e:=Extern.AbiNoEscape.same) (by kernel_rfl)]
 rw [Lib.run_noEscape]
 simp only [Result.andThen]
 rw [Oper.upon_value]
 go_wp2
 rw [Lib.run_from_unsafe w ⟨b,0,none⟩ Tryz.underlying135 Tryz.underlying72 hi hsh lies_bld]
 simp only [Result.andThen]
 rw [Oper.upon_value]
 go_wp2
 go_end0
 exact ⟨rfl,rfl⟩
theorem copyCheck_any {b:Nat} {w:World} {p:Option Addr} {v:Value} (hp:p=none ∨ p=some (⟨b,0,none⟩:Addr)) (hb:Blk w b 75 #[.pointer p,v]) :
  Calls Tryz.prog 60 #[.pointer (some ⟨b,0,none⟩)] w fun e w'=>e=.returned (.tuple #[])∧Blk w' b 75 #[.pointer (some ⟨b,0,none⟩),v]∧Frm w w' (fun q=>q=b):=by
 rcases hp with rfl | rfl
 ·refine (copyCheck_fresh b w ((hb.cell 0).trans rfl) ?_ (hb.frozen 0)).mono ?_
  ·have h:=hb
   unfold Blk at h
   simp [World.shape?,h]
  ·rintro e w' ⟨rfl,rfl⟩
   exact ⟨rfl,hb.set_ 0 _,(Frm.refl w _).set b 0 _ (.inl rfl)⟩
 ·refine (copyCheck_used b w ((hb.cell 0).trans rfl)).mono ?_
  rintro e w' ⟨rfl,rfl⟩
  exact ⟨rfl,hb,Frm.refl _ _⟩
theorem Frm.weak {w w':World} {S S':Nat→Prop} (h:Frm w w' S) (hs:∀ q,S q→S' q):Frm w w' S':=⟨h.os,h.tape,h.output,h.size,fun q hq hn=>h.block q hq fun hh=>hn (hs q hh)⟩
theorem bld_row {w w1:World} {b n:Nat} {p:Option Addr} {v:Value} {xs:List Value} (hb:Blk w b 75 #[.pointer p,v]) (hf:Frm w w1 (fun q=>q=b)) (hown:w1.ownsRow b 5 1 v n xs):∀ q,v.ownBlock=some q→BldS w b q ∨ w.heap.size ≤ q:=fun q hq=>by
 obtain ⟨cs,hc⟩:=own_blk hown hq
 have hbq:=(hown.lt q hq).1
 by_cases hlt:q < w.heap.size
 ·by_cases hqb:q=b
  ·exact .inl (.inl hqb)
  ·exact .inl (.inr ⟨hbq,cs,(hf.block q hlt hqb).symm.trans hc⟩)
 ·exact .inr (by omega)
def BldPost (w:World) (b:Nat) (l:List UInt8) (v:Value) (e:Ending) (w':World):Prop:=e=.returned v∧Bld b l w'∧Frm w w' (BldS w b)
set_option maxHeartbeats 2000000 in
theorem writeByte_any (b:Nat) (l:List UInt8) (z:Int) (c:UInt8) (hz:z=(c.toNat:Int)) (w:World) (h:Bld b l w) (hl:l.length + 1 ≤ 140737488355328) :
  Calls Tryz.prog 71 #[.pointer (some ⟨b,0,none⟩),.int .u8 z] w (BldPost w b (l ++ [c]) .nilIface):=by
 obtain ⟨i0,hi,hz0,hz1,hz2⟩:=info_parts info_u8
 obtain ⟨p,v,hp,hb,hown⟩:=h.at_
 have HZ:=Lib.hid hz
 clear hz h
 have HB:=Lib.hid hb
 have HOWN:=Lib.hid hown
 have hblt:=hb.lt
 go_enter Tryz.func71,Tryz.ntmps71
 go_upto_region 2 with (go_at_call 60;refine (copyCheck_any hp HB.out).mono ?_;rintro e w1 ⟨rfl,hb1,hf1⟩)
 have hown1:w1.ownsRow b 5 1 v l.length (byc l):=own_keep HOWN.out fun q hq=>hf1.block q (HOWN.out.lt q hq).2 fun hh=>own_ne_blk HOWN.out HB.out (by decide) (hh ▸ hq)
 have hs1:=hf1.size
 have HF1:=Lib.hid hf1
 have c1:w1.cell? ⟨b,1,none⟩=some v:=(hb1.cell 1).trans rfl
 clear hf1 hown hb
 have hc2:∀ u ∈ ([.int .u8 z]:List Value),u.oneCell'=true:=(by intro u hu;simp at hu;subst hu;rfl)
 have hc3:l.length + 1 ≤ maxLen:=(by unfold maxLen;omega)
 have hc4:(l.length + 1) * 1 ≤ 140737488355328:=(by omega)
 have hc5:b ≤ (w1.alloc (.cells #[.int .u8 z] 5)).heap.size:=(by simp;omega)
 obtain ⟨R,cR,rfl,_,_⟩:=own_shapes hown1
 go_wp2_with (at_builtin;go_must (refine wpList_append_own _ rfl _ _ 73 rfl b 5 i0 (.int .u8 0) 1 1 Tryz.underlying73 hi hz0 hz1 hz2 rfl (by decide) _ _ _ rfl (hown1.alloc _) ⟨w1.heap.size,0,none⟩ 1 1 [.int .u8 z] rfl rfl (cell_one_new _ _ _) hc2 hc3 hc4 hc5 ?_;intro v' w2 hown2 hgrow2 _;(have hb2:Blk w2 b 75 #[.pointer (some ⟨b,0,none⟩),.slice R l.length cR]:=(hb1.alloc _).grown hgrow2 (fun hh=>own_ne_blk hown1 hb1 (by decide) hh.symm));(have d1:w2.cell? ⟨b,1,none⟩=some (.slice R l.length cR):=(hb2.cell 1).trans rfl);(have d2:w2.frozen? ⟨b,1,none⟩=false:=hb2.frozen 1);(obtain ⟨R2,cR2,rfl,_,_⟩:=own_shapes hown2)))
 go_ret
 have hF2:Frm w w2 (BldS w b):=((HF1.out.weak (fun q hq=>.inl hq)).alloc _).grown hgrow2 (bld_row HB.out HF1.out hown1)
 refine ⟨rfl,Bld.of (.inr rfl) (hb2.set_ 1 _) ?_,hF2.set b 1 _ (.inl (.inl rfl))⟩
 have:=own_set hown2 hb2 (by decide) (.slice R2 (l.length + 1) cR2) (i:=1)
 rw [List.length_append,byc_append]
 rw [HZ.out] at this
 exact this
set_option maxHeartbeats 2000000 in
theorem writeString_any (b:Nat) (l:List UInt8) (s:ByteArray) (w:World) (h:Bld b l w) (hl:l.length + s.size ≤ 140737488355328) :
  Calls Tryz.prog 28 #[.pointer (some ⟨b,0,none⟩),.string s] w (BldPost w b (l ++ s.data.toList) (.tuple #[.int .i64 s.size,.nilIface])):=by
 obtain ⟨i0,hi,hz0,hz1,hz2⟩:=info_parts info_u8
 obtain ⟨p,v,hp,hb,hown⟩:=h.at_
 clear h
 have HB:=Lib.hid hb
 have HOWN:=Lib.hid hown
 have hblt:=hb.lt
 go_enter Tryz.func28,Tryz.ntmps28
 go_upto_region 2 with (go_at_call 60;refine (copyCheck_any hp HB.out).mono ?_;rintro e w1 ⟨rfl,hb1,hf1⟩)
 have hown1:w1.ownsRow b 5 1 v l.length (byc l):=own_keep HOWN.out fun q hq=>hf1.block q (HOWN.out.lt q hq).2 fun hh=>own_ne_blk HOWN.out HB.out (by decide) (hh ▸ hq)
 have hs1:=hf1.size
 have HF1:=Lib.hid hf1
 have c1:w1.cell? ⟨b,1,none⟩=some v:=(hb1.cell 1).trans rfl
 clear hf1 hown hb
 have hc3:l.length + s.size ≤ maxLen:=(by unfold maxLen;omega)
 have hc5:b ≤ w1.heap.size:=(by omega)
 obtain ⟨R,cR,rfl,_,_⟩:=own_shapes hown1
 go_wp2_with (at_builtin;go_must (refine Lib.wpList_append_own_string _ rfl _ _ 73 9 rfl b 5 i0 Tryz.underlying73 Tryz.underlying9 hi hz0 hz1 hz2 _ _ _ rfl hown1 s rfl hc3 hl hc5 ?_;intro v' w2 hown2 hgrow2 _;(have hb2:Blk w2 b 75 #[.pointer (some ⟨b,0,none⟩),.slice R l.length cR]:=hb1.grown hgrow2 (fun hh=>own_ne_blk hown1 hb1 (by decide) hh.symm));(have d1:w2.cell? ⟨b,1,none⟩=some (.slice R l.length cR):=(hb2.cell 1).trans rfl);(have d2:w2.frozen? ⟨b,1,none⟩=false:=hb2.frozen 1);(obtain ⟨R2,cR2,rfl,_,_⟩:=own_shapes hown2)))
 go_ret2
 have hF2:Frm w w2 (BldS w b):=(HF1.out.weak (fun q hq=>.inl hq)).grown hgrow2 (bld_row HB.out HF1.out hown1)
 refine ⟨rfl,Bld.of (.inr rfl) (hb2.set_ 1 _) ?_,hF2.set b 1 _ (.inl (.inl rfl))⟩
 have:=own_set hown2 hb2 (by decide) (.slice R2 (l.length + s.size) cR2) (i:=1)
 rw [List.length_append,byc_append,Array.length_toList]
 exact this
end Go.Proofs.YtiheggkkgbfndaaGreatDoor
namespace Go.Proofs.YtiheggkkgbfndaaGreatDoor
open Go.RowKit Go.Joins Go.ChangeShapes Go.WideShapes Go.Deep Go.Maps
set_option linter.unusedVariables false
set_option linter.unusedSimpArgs false
set_option maxRecDepth 100000
theorem wpList_insert_own {H:Type} {P:Program} (w:World) {ops:Array Oper} {rest:List Oper} {o:Oper} {a:Act} {Q:Exit→Act→World→Prop}
  (hg:o.guard=none) (m x v:Operand) (t:TypeId) (hop:o.op=Op.insert t m x v)
  (k e:TypeId) (K:Keyed P k) (ht:P.underlying t=some (.map k e)) (R:Value→Option (DataW H × List MemPlace)) (b n:Nat) (D:DataW H)
  (hm:a.eval m=.map (some b)) (hown:w.ownsMap P k R b n D) (hn:n < maxLen) (key val:Value) (kl:Lit) (hx:a.eval x=key) (hv:a.eval v=val) (hkey:keyOf P k key=some kl)
  (d:DataW H) (ps:List MemPlace) (hval:R val=some (d,ps))
  (hK:∀ w',w'.ownsMap P k R b (n + 1) (D.put kl d)→w.grownBy w' (some b)→wpList P ops Q rest (a.put o.dst undef) w') :
  wpList P ops Q (o :: rest) a w:=by
 refine wpList_plain hg fun K' hK'=>?_
 obtain ⟨w',hrun,r1,r2⟩:=hown.update K ht hn hkey hval
 unfold Oper.wp
 simp [execOp,hop,hm,hx,hv,hrun,Result.andThen]
 exact hK' _ _ (hK w' r1 r2)

def i64ok (k:Int):Prop:=-9223372036854775808 ≤ k∧k ≤ 9223372036854775807
theorem i64_wf {k:Int} (h:i64ok k):(Lit.int .i64 k).wf=true:=by
 obtain ⟨h1,h2⟩:=h
 simp [Lit.wf,IntKind.min,IntKind.max,IntKind.bits,IntKind.signed]
 omega
theorem int_key {k:Int} (h:i64ok k):keyOf Tryz.prog 3 (.int .i64 k)=some (.int .i64 k):=keyOf_int_mk Tryz.underlying3 (i64_wf h)
theorem int_law:Keyed Tryz.prog 3:=int_keyed Tryz.underlying3
noncomputable def RB:Value→Option (DataW Unit × List MemPlace):=plainElem Tryz.prog 4
def BMap (w:World) (b n:Nat) (S:Int→Bool):Prop :=
 ∃ D,w.ownsMap Tryz.prog 3 RB b n D∧IsMap D∧∀ k,i64ok k→D.atKey (.int .i64 k) (.lit (.bool false))=.lit (.bool (S k))
theorem BMap.made (w:World):BMap (w.alloc (.map #[] 0)) w.heap.size 0 (fun _=>false):=⟨_,World.ownsMap_made w _ _ _,isMap_empty,fun _ _=>rfl⟩
theorem plainElem_bool_inv {v:Value} {z:DataW Unit × List MemPlace} (h:RB v=some z):∃ x,v=.bool x∧z=(.lit (.bool x),[]):=by
 unfold RB plainElem at h
 simp only [Tryz.underlying4] at h
 cases v <;> simp at h
 exact ⟨_,rfl,h.symm⟩
theorem BMap.look {w:World} {b n:Nat} {S:Int→Bool} (h:BMap w b n S) (k:Int) (hk:i64ok k):(Instr.lookup 111 (.map (some b)) (.int .i64 k) false).run Tryz.prog w=.ok (.bool (S k)) w:=by
 obtain ⟨D,hown,_,hat⟩:=h
 have hz:(zeroValue 4).run Tryz.prog w=.ok (.bool false) w:=Tryz.zeroValue4 w
 obtain ⟨v,ps,hrun,hv⟩:=hown.lookup int_law Tryz.underlying111 hz (plainElem_bool Tryz.underlying4 false) (int_key hk)
 obtain ⟨x,rfl,hx⟩:=plainElem_bool_inv hv
 rw [hat k hk] at hx
 injection hx with hx1 _
 injection hx1 with hx1
 injection hx1 with hx1
 rw [hrun,hx1]
theorem BMap.put_at {D:DataW Unit} {S:Int→Bool} {k:Int} (hk:i64ok k) (hM:IsMap D) (hat:∀ j,i64ok j→D.atKey (.int .i64 j) (.lit (.bool false))=.lit (.bool (S j))) :
  ∀ j,i64ok j→(D.put (.int .i64 k) (.lit (.bool true))).atKey (.int .i64 j) (.lit (.bool false))=.lit (.bool (S j || j == k)):=by
 intro j hj
 by_cases e:j=k
 ·subst e
  rw [atKey_put_same hM (int_law.key (int_key hk))]
  simp
 ·rw [atKey_put_other (by intro h;injection h with _ h;exact e h),hat j hj]
  simp [e]
theorem BMap.kept {w w':World} {b n:Nat} {S:Int→Bool} (h:BMap w b n S) (hk:w'.heap[b]?=w.heap[b]?):BMap w' b n S:=by
 obtain ⟨D,⟨es,cl,h1,h2,h3,h4⟩,hm,hat⟩:=h
 exact ⟨D,⟨es,cl,hk.trans h1,h2,h3,h4⟩,hm,hat⟩
theorem BMap.lt {w:World} {b n:Nat} {S:Int→Bool} (h:BMap w b n S):b < w.heap.size:=by
 obtain ⟨D,h,_⟩:=h
 exact h.lt
theorem BMap.congr {w:World} {b n:Nat} {S S':Int→Bool} (h:BMap w b n S) (e:∀ k,S k=S' k):BMap w b n S':=by
 obtain ⟨D,h1,h2,h3⟩:=h
 exact ⟨D,h1,h2,fun k hk=>by rw [h3 k hk,e]⟩
theorem wpList_bmap_put (w:World) {ops:Array Oper} {rest:List Oper} {o:Oper} {a:Act} {Q:Exit→Act→World→Prop}
  (hg:o.guard=none) (m x v:Operand) (hop:o.op=Op.mapUpdate 111 m x v) (b n:Nat) (S:Int→Bool)
  (hm:a.eval m=.map (some b)) (h:BMap w b n S) (hn:n < maxLen) (k:Int) (hk:i64ok k) (hx:a.eval x=.int .i64 k) (hv:a.eval v=.bool true)
  (hK:∀ w',BMap w' b (n + 1) (fun j=>S j || j == k)→w.grownBy w' (some b)→wpList Tryz.prog ops Q rest (a.put o.dst undef) w') :
  wpList Tryz.prog ops Q (o :: rest) a w:=by
 obtain ⟨D,hown,hM,hat⟩:=h
 exact wpList_mapUpdate_own w hg m x v _ hop 3 4 int_law Tryz.underlying111 RB b n D hm hown hn _ _ _ hx hv (int_key hk) _ [] (plainElem_bool Tryz.underlying4 true) fun w' h1 h2=>hK w' ⟨_,h1,hM.put _ _,BMap.put_at hk hM hat⟩ h2
theorem wpList_bmap_insert (w:World) {ops:Array Oper} {rest:List Oper} {o:Oper} {a:Act} {Q:Exit→Act→World→Prop}
  (hg:o.guard=none) (m x v:Operand) (hop:o.op=Op.insert 111 m x v) (b n:Nat) (S:Int→Bool)
  (hm:a.eval m=.map (some b)) (h:BMap w b n S) (hn:n < maxLen) (k:Int) (hk:i64ok k) (hx:a.eval x=.int .i64 k) (hv:a.eval v=.bool true)
  (hK:∀ w',BMap w' b (n + 1) (fun j=>S j || j == k)→w.grownBy w' (some b)→wpList Tryz.prog ops Q rest (a.put o.dst undef) w') :
  wpList Tryz.prog ops Q (o :: rest) a w:=by
 obtain ⟨D,hown,hM,hat⟩:=h
 exact wpList_insert_own w hg m x v _ hop 3 4 int_law Tryz.underlying111 RB b n D hm hown hn _ _ _ hx hv (int_key hk) _ [] (plainElem_bool Tryz.underlying4 true) fun w' h1 h2=>hK w' ⟨_,h1,hM.put _ _,BMap.put_at hk hM hat⟩ h2
theorem fits_zero (c:Nat) (hc:c < 41):fitsF (shapeF c) 0=true:=by
 rcases shape_cases c hc with h | h | h | h | h | h | h <;> (rw [h.2];rfl)
theorem reads_lit (w : World) (c : Nat) (v : Int) : Reads (w.alloc (.cells #[.int .i64 c, .int .i64 v] 113)) (w.heap.size + 1) 2 (some ⟨w.heap.size, 0, none⟩) 1 (rows opc [⟨c, v⟩]) :=
 ⟨rfl, fun _ => ⟨_, rfl, by simp, fun j u hj => by
  have := (Blk.new w 113 #[.int .i64 c, .int .i64 v]).cell j
  rw [Addr.add_lit, Nat.zero_add, this]
  simpa [rows, opc] using hj⟩⟩
theorem leads_any (c:Nat) (w:World):Calls Tryz.prog 67 #[.int .i64 c] w fun r w'=>r=.returned (.bool (leadsF c))∧w'=w:=by
 by_cases h24:c=24
 ·subst h24
  go_enter Tryz.func67,Tryz.ntmps67
  go_wp2
  go_ret
  exact ⟨rfl,rfl⟩
 ·by_cases h25:c=25
  ·subst h25
   go_enter Tryz.func67,Tryz.ntmps67
   go_wp2
   go_ret
   exact ⟨rfl,rfl⟩
  ·by_cases h26:c=26
   ·subst h26
    go_enter Tryz.func67,Tryz.ntmps67
    go_wp2
    go_ret
    exact ⟨rfl,rfl⟩
   ·have d1:((c:Int) == 24)=false:=by simp;omega
    have d2:((c:Int) == 25)=false:=by simp;omega
    have d3:((c:Int) == 26)=false:=by simp;omega
    have HL:Hid (leadsF c=false):=Lib.hid (by simp [leadsF,h24,h25,h26])
    go_enter Tryz.func67,Tryz.ntmps67
    go_wp2
    go_ret
    exact ⟨by rw [HL.out];rfl,rfl⟩
set_option maxHeartbeats 1000000 in
theorem bytes_c (c:Nat) (hc:c < 41) (w:World) (hS:ShapesAt w):Calls Tryz.prog 65 #[.int .i64 c] w fun r w'=>r=.returned (.int .i64 ((1 + widthF (shapeF c):Nat):Int))∧Below w.heap.size w w':=by
 have hE:=enc_ok [⟨c,0⟩] (some ⟨w.heap.size,0,none⟩) 1 1 (w.alloc (.cells #[.int .i64 c,.int .i64 0] 113)) (hS.below ((Below.refl _ _).alloc (Nat.le_refl _) _) hS.lt) ((reads_lit w c 0).more (by simp)) (by decide)
  (by intro o ho;obtain rfl:=List.mem_singleton.1 ho;exact ⟨hc,fits_zero c hc⟩) (by simp [bytesOf,encB_length];unfold widthF;split <;> (try split) <;> (try split) <;> omega)
 have hl:(bytesOf [⟨c,0⟩]).length=1 + widthF (shapeF c):=by simp [bytesOf,encB_length]
 have HE:=Lib.hid hE
 have HL:=Lib.hid hl
 clear hE hl
 go_enter Tryz.func65,Tryz.ntmps65
 go_wp2_with (go_at_call 100;refine (HE.out).mono ?_;rintro e w1 ⟨rfl,hb1⟩)
 go_ret
 exact ⟨by rw [← HL.out];rfl,((Below.refl _ _).alloc (Nat.le_refl _) _).trans (hb1.mono (by simp))⟩

theorem BMap.drewN {w:World} {b n:Nat} {S:Int→Bool} (h:BMap w b n S) (k:Nat):BMap (w.drewN k) b n S:=h.kept rfl
def ToPost (L:List AOp) (o:AOp) (p:Nat) (w:World) (e:Ending) (w':World):Prop :=
 ∃ n:Int,e=.returned (.tuple #[.int .i64 n,.bool (tgtF L o p).isSome])∧(∀ t,tgtF L o p=some t→n=t)∧Below w.heap.size w w'
theorem lead_fit {c:Nat} {v:Int} (hl:leadsF c=true) (hf:fitsF (shapeF c) v=true):c < 41∧-32768 ≤ v∧v ≤ 65535:=by
 simp [leadsF] at hl
 rcases hl with (rfl | rfl) | rfl <;> simp [fitsF,shapeF,shapeL] at hf <;> omega
set_option maxHeartbeats 2000000 in
theorem to_any (L:List AOp) (c:Nat) (v:Int) (p:Nat) (hv:i64ok v) (hf:fitsF (shapeF c) v=true) (hp:p ≤ 512) (w:World) (b8 bm n:Nat) (h8:w.cell? ⟨b8,0,none⟩=some (.map (some bm))) (hM:BMap w bm n (begF L L.length)) :
  Calls Tryz.prog 66 #[.agg #[.int .i64 c,.int .i64 v],.int .i64 p,.pointer (some ⟨b8,0,none⟩)] w (ToPost L ⟨c,v⟩ p w):=by
 have hb8:b8 < w.heap.size:=World.block_lt_of_cell? _ _ h8
 by_cases hl:leadsF c=true
 ·obtain ⟨_,v1,v2⟩:=lead_fit hl hf
  have HLC:∀ W,Calls Tryz.prog 67 #[.int .i64 c] W fun r w'=>r=.returned (.bool true)∧w'=W:=fun W=>(leads_any c W).mono fun r w' h=>⟨by rw [h.1,hl],h.2⟩
  have HLQ:=Lib.hid HLC
  have HM:=Lib.hid hM
  clear HLC hM hf
  by_cases h26:c=26
  ·subst h26
   have hlk1:=fun nq=>((HM.out.kept (Below.heap_alloc w (.cells #[.int .i64 26,.int .i64 v] 113) bm HM.out.lt)).drewN nq).look v hv
   have HT:Hid (tgtF L ⟨26,v⟩ p=if begF L L.length v then some v else none):=Lib.hid (by simp [tgtF,toF,leadsF])
   obtain ⟨B,hB⟩:∃ B,B=begF L L.length v:=⟨_,rfl⟩
   rw [← hB] at hlk1 HT
   clear hB
   go_enter Tryz.func66,Tryz.ntmps66
   go_wp2_with fail
   (go_quiet ((go_at_call 67;exact Calls.quiet_of_same (HLQ.out _))))
   go_wp2_with fail
   go_ret2
   refine ⟨v,by rw [HT.out];cases B <;> rfl,fun t ht=>?_,by repeat (first | with_reducible exact Below.refl _ _ | with_reducible refine Below.drew ?_ | with_reducible refine below_drewN ?_ _ | ((with_reducible refine Below.alloc ?_ ?_ _);(rotate_left;focus (first | with_reducible exact Nat.le_refl _ | omega | (simp;done) | (simp;omega) | (simp [World.setCell];done) | (simp [World.setCell];omega)))) | ((with_reducible refine Below.setCell ?_ ?_ _);(rotate_left;focus (first | with_reducible exact Nat.le_refl _ | omega | (simp;done) | (simp;omega) | (simp [World.setCell];done) | (simp [World.setCell];omega)))))⟩
   rw [HT.out] at ht
   cases B
   ·cases ht
   ·injection ht
  ·have d1:((c:Int) != 26)=true:=by simp;omega
   have hvp:i64ok (v + ((p:Int) + 3)):=⟨by omega,by omega⟩
   have hlk1:=fun nq=>((HM.out.kept (Below.heap_alloc w (.cells #[.int .i64 c,.int .i64 v] 113) bm HM.out.lt)).drewN nq).look (v + ((p:Int) + 3)) hvp
   have HT:Hid (tgtF L ⟨c,v⟩ p=if begF L L.length (v + ((p:Int) + 3)) then some (v + ((p:Int) + 3)) else none):=Lib.hid (by
    have:toF ⟨c,v⟩ p=v + ((p:Int) + 3):=by simp [toF,h26];omega
    simp [tgtF,this,hl])
   obtain ⟨B,hB⟩:∃ B,B=begF L L.length (v + ((p:Int) + 3)):=⟨_,rfl⟩
   rw [← hB] at hlk1 HT
   clear hB
   clear hvp hl
   go_enter Tryz.func66,Tryz.ntmps66
   go_wp2_with fail
   (go_quiet ((go_at_call 67;exact Calls.quiet_of_same (HLQ.out _))))
   go_wp2_with fail
   go_ret2
   refine ⟨v + ((p:Int) + 3),by rw [HT.out];cases B <;> rfl,fun t ht=>?_,by repeat (first | with_reducible exact Below.refl _ _ | with_reducible refine Below.drew ?_ | with_reducible refine below_drewN ?_ _ | ((with_reducible refine Below.alloc ?_ ?_ _);(rotate_left;focus (first | with_reducible exact Nat.le_refl _ | omega | (simp;done) | (simp;omega) | (simp [World.setCell];done) | (simp [World.setCell];omega)))) | ((with_reducible refine Below.setCell ?_ ?_ _);(rotate_left;focus (first | with_reducible exact Nat.le_refl _ | omega | (simp;done) | (simp;omega) | (simp [World.setCell];done) | (simp [World.setCell];omega)))))⟩
   rw [HT.out] at ht
   cases B
   ·cases ht
   ·injection ht
 ·have hl':leadsF c=false:=by simpa using hl
  have HLC:∀ W,Calls Tryz.prog 67 #[.int .i64 c] W fun r w'=>r=.returned (.bool false)∧w'=W:=fun W=>(leads_any c W).mono fun r w' h=>⟨by rw [h.1,hl'],h.2⟩
  have HLQ:=Lib.hid HLC
  have HT:Hid (tgtF L ⟨c,v⟩ p=none):=Lib.hid (by simp [tgtF,hl'])
  have d1:((c:Int) != 26)=true:=by simp [leadsF] at hl';simp;omega
  clear HLC hM hf hl hl'
  go_enter Tryz.func66,Tryz.ntmps66
  go_wp2_with fail
  (go_quiet ((go_at_call 67;exact Calls.quiet_of_same (HLQ.out _))))
  go_wp2_with fail
  go_ret2
  exact ⟨_,by rw [HT.out];rfl,fun t ht=>by (rw [HT.out] at ht;cases ht),by repeat (first | with_reducible exact Below.refl _ _ | with_reducible refine Below.drew ?_ | with_reducible refine below_drewN ?_ _ | ((with_reducible refine Below.alloc ?_ ?_ _);(rotate_left;focus (first | with_reducible exact Nat.le_refl _ | omega | (simp;done) | (simp;omega) | (simp [World.setCell];done) | (simp [World.setCell];omega)))) | ((with_reducible refine Below.setCell ?_ ?_ _);(rotate_left;focus (first | with_reducible exact Nat.le_refl _ | omega | (simp;done) | (simp;omega) | (simp [World.setCell];done) | (simp [World.setCell];omega)))))⟩
end Go.Proofs.YtiheggkkgbfndaaGreatDoor
