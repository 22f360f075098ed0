/- carouselref14: lists of lists of tokens in memory. -/
import Derived.Test.YtiheggkkgbfndaaGreatDoorL22
import Derived.BigRegion
import Derived.Deep.CutRange
import Derived.Laws.Concat
import Derived.Test.YtiheggkkgbfndaaGreatDoorL10
import Derived.StillTailTactics
import Derived.Test.YtiheggkkgbfndaaGreatDoorL23
namespace Go.Proofs.YtiheggkkgbfndaaGreatDoor
open Go.RowKit Go.Joins Go.ChangeShapes Go.WideShapes Go.Deep
set_option linter.unusedVariables false
set_option linter.unusedSimpArgs false
set_option maxRecDepth 100000
def lnc (v:Value):List Value:=[v,.string ⟨#[]⟩]
theorem lnc_len (v:Value):(lnc v).length=2:=rfl
theorem info_line:(Tryz.prog.info? 157).map (fun i=>(i.zero,i.size,i.bytes))=some (some (.agg #[.slice none 0 0,.string ⟨#[]⟩]),2,40):=by kernel_rfl
theorem rows_set_last {α:Type} (enc:α→List Value) (k:Nat) (hk:∀ x,(enc x).length=k) (l:List α) (x y:α) (j:Nat) (u:Value) (h:enc y=(enc x).set j u):(rows enc (l ++ [x])).set (l.length * k + j) u=rows enc (l ++ [y]):=by
 rw [rows_snoc,rows_snoc,List.set_append_right _ _ (by rw [rows_length enc k hk];omega),rows_length enc k hk,h]
 congr 2
 omega
structure LnIs (B:Nat) (w:World) (ov:Value) (vs:List Value) (ls:List (List Tok)):Prop where
 len:vs.length=ls.length
 out:w.ownsRow B 157 2 ov ls.length (rows lnc vs)
 own:∀ (j:Nat) (v:Value) (l:List Tok),vs[j]?=some v→ls[j]?=some l→w.ownsRow B 159 2 v l.length (rows tkc l)
 ne:∀ (i j:Nat) (vi vj:Value) (q:Nat),i ≠ j→vs[i]?=some vi→vs[j]?=some vj→vi.ownBlock=some q→vj.ownBlock ≠ some q
theorem LnIs.keep {B:Nat} {w w':World} {ov:Value} {vs:List Value} {ls:List (List Tok)} (h:LnIs B w ov vs ls) (hb:Below w.heap.size w w'):LnIs B w' ov vs ls :=
 ⟨h.len,own_beb h.out hb,fun j v l h1 h2=>own_beb (h.own j v l h1 h2) hb,h.ne⟩
theorem snoc_get {α:Type} {l:List α} {x y:α} {j:Nat} (h:(l ++ [x])[j]?=some y):(j < l.length∧l[j]?=some y) ∨ (j=l.length∧y=x):=by
 rcases Nat.lt_or_ge j l.length with hj | hj
 ·rw [List.getElem?_append_left hj] at h
  exact .inl ⟨hj,h⟩
 ·rw [List.getElem?_append_right hj] at h
  have:j - l.length=0:=by
   rcases Nat.eq_zero_or_pos (j - l.length) with h0 | h0
   ·exact h0
   ·rw [List.getElem?_eq_none (by rw [List.length_singleton];omega)] at h;cases h
  rw [this] at h
  exact .inr ⟨by omega,by simpa using h.symm⟩
theorem LnIs.newline {B:Nat} {w WA w3:World} {ov ov':Value} {vs:List Value} {ls:List (List Tok)} (h:LnIs B w ov vs ls) (hA:Below w.heap.size w WA) (hg:WA.grownBy w3 ov.ownBlock)
  (hown3:w3.ownsRow B 157 2 ov' (ls.length + 1) (rows lnc vs ++ lnc (.slice none 0 0))):LnIs B w3 ov' (vs ++ [.slice none 0 0]) (ls ++ [[]]):=by
 refine ⟨by simp [h.len],by rw [List.length_append,List.length_singleton,rows_snoc];exact hown3,?_,?_⟩
 ·intro j v l h1 h2
  rcases snoc_get h1 with ⟨hj,h1⟩ | ⟨hj,rfl⟩
  ·rcases snoc_get h2 with ⟨_,h2⟩ | ⟨hj2,_⟩
   ·have ho:=h.own j v l h1 h2
    exact own_keep ho fun b hb=>(hg.block b (Nat.lt_of_lt_of_le (ho.lt b hb).2 hA.size) (fun e=>own_ne ho h.out (by decide) hb e.symm)).trans (hA.block b (ho.lt b hb).2)
   ·have:=h.len;omega
  ·rcases snoc_get h2 with ⟨hj2,_⟩ | ⟨_,rfl⟩
   ·have:=h.len;omega
   ·exact World.ownsRow_nil _ _ _ _
 ·intro i j vi vj q hij h1 h2 hq
  rcases snoc_get h1 with ⟨hi,h1⟩ | ⟨hi,rfl⟩
  ·rcases snoc_get h2 with ⟨hj,h2⟩ | ⟨hj,rfl⟩
   ·exact h.ne i j vi vj q hij h1 h2 hq
   ·simp [Value.ownBlock]
  ·simp [Value.ownBlock] at hq
theorem LnIs.start (w:World) (cap:Nat) (h1:(w.alloc (.cells #[.slice none 0 0,.string ⟨#[]⟩] 157)).ownsRow w.heap.size 157 2 (.slice (some ⟨w.heap.size,0,none⟩) 1 cap) 1 [.slice none 0 0,.string ⟨#[]⟩]) :
  LnIs w.heap.size (w.alloc (.cells #[.slice none 0 0,.string ⟨#[]⟩] 157)) (.slice (some ⟨w.heap.size,0,none⟩) 1 cap) ([] ++ [.slice none 0 0]) ([] ++ [[]]):=by
 refine ⟨rfl,h1,?_,?_⟩
 ·intro j v l h1 h2
  rcases snoc_get h1 with ⟨hj,_⟩ | ⟨_,rfl⟩
  ·exact absurd hj (by simp)
  ·rcases snoc_get h2 with ⟨hj,_⟩ | ⟨_,rfl⟩
   ·exact absurd hj (by simp)
   ·exact World.ownsRow_nil _ _ _ _
 ·intro i j vi vj q hij h1 h2 hq
  rcases snoc_get h1 with ⟨hi,_⟩ | ⟨_,rfl⟩
  ·exact absurd hi (by simp)
  ·simp [Value.ownBlock] at hq
theorem LnIs.put_last {B:Nat} {w WA w3:World} {g n cap gg m c':Nat} {v:Value} {vs0:List Value} {ls0:List (List Tok)} {l:List Tok} {t:Tok} (h:LnIs B w (.slice (some ⟨g,0,none⟩) n cap) (vs0 ++ [v]) (ls0 ++ [l])) (hn:n=ls0.length + 1) (hA:Below w.heap.size w WA) (hg:WA.grownBy w3 v.ownBlock)
  (hown3:w3.ownsRow B 159 2 (.slice (some ⟨gg,0,none⟩) m c') m (rows tkc l ++ tkc t)) (hm:m=l.length + 1) (hat:v.ownBlock=some gg ∨ w.heap.size ≤ gg) :
  LnIs B (w3.setCell ⟨g,ls0.length * 2,none⟩ (.slice (some ⟨gg,0,none⟩) m c')) (.slice (some ⟨g,0,none⟩) n cap) (vs0 ++ [.slice (some ⟨gg,0,none⟩) m c']) (ls0 ++ [l ++ [t]]):=by
 have hlen:vs0.length=ls0.length:=by have:=h.len;simp at this;exact this
 have hv:w.ownsRow B 159 2 v l.length (rows tkc l):=h.own ls0.length v l (by rw [← hlen];simp) (by simp)
 have ho3:w3.ownsRow B 157 2 (.slice (some ⟨g,0,none⟩) n cap) n (rows lnc (vs0 ++ [v])):=by
  have h0:=h.out
  rw [List.length_append,List.length_singleton,← hn] at h0
  exact own_keep h0 fun b hb=>(hg.block b (Nat.lt_of_lt_of_le (h0.lt b hb).2 hA.size) (fun e=>own_ne h0 hv (by decide) hb e.symm)).trans (hA.block b (h0.lt b hb).2)
 have hgl:g < w.heap.size∧B ≤ g:=⟨(h.out.lt g rfl).2,(h.out.lt g rfl).1⟩
 have hst:=(ho3.stored (ls0.length * 2) (.slice (some ⟨gg,0,none⟩) m c')).1
 have e2:(rows lnc (vs0 ++ [v])).set (ls0.length * 2) (.slice (some ⟨gg,0,none⟩) m c')=rows lnc (vs0 ++ [.slice (some ⟨gg,0,none⟩) m c']):=by
  have:=rows_set_last lnc 2 lnc_len vs0 v (.slice (some ⟨gg,0,none⟩) m c') 0 (.slice (some ⟨gg,0,none⟩) m c') rfl
  rw [hlen] at this
  exact this
 rw [e2] at hst
 have hgt:gg ≠ g:=by
  obtain ⟨c3,hc3⟩:=own_blk hown3 (b:=gg) rfl
  obtain ⟨c4,hc4⟩:=own_blk ho3 (b:=g) rfl
  exact Blk.ne_ hc3 hc4 (by decide)
 refine ⟨by simp [hlen],by rw [List.length_append,List.length_singleton,← hn];exact hst,?_,?_⟩
 ·intro j x y h1 h2
  rcases snoc_get h1 with ⟨hj,h1⟩ | ⟨hj,rfl⟩
  ·rcases snoc_get h2 with ⟨_,h2⟩ | ⟨hj2,_⟩
   ·have h1':(vs0 ++ [v])[j]?=some x:=by rw [List.getElem?_append_left hj];exact h1
    have ho:=h.own j x y h1' (by rw [List.getElem?_append_left (by omega)];exact h2)
    have hne:x.ownBlock ≠ some g:=fun e=>own_ne ho h.out (by decide) e rfl
    exact own_keep ho fun b hb=>(Below.heap_setCell w3 ⟨g,ls0.length * 2,none⟩ _ b (fun e=>hne (by rw [hb];exact congrArg some e))).trans ((hg.block b (Nat.lt_of_lt_of_le (ho.lt b hb).2 hA.size) (fun e=>h.ne j vs0.length x v b (by omega) h1' (by simp) hb e.symm)).trans (hA.block b (ho.lt b hb).2))
   ·omega
  ·rcases snoc_get h2 with ⟨hj2,_⟩ | ⟨_,rfl⟩
   ·omega
   ·rw [List.length_append,List.length_singleton,← hm,rows_snoc]
    exact own_keep hown3 fun b hb=>Below.heap_setCell w3 ⟨g,ls0.length * 2,none⟩ _ b (fun e=>hgt ((show gg=b from (by simpa [Value.ownBlock] using hb)).trans e))
 ·intro i j vi vj q hij h1 h2 hq he
  rcases snoc_get h1 with ⟨hi,h1⟩ | ⟨hi,rfl⟩
  ·have h1':(vs0 ++ [v])[i]?=some vi:=by rw [List.getElem?_append_left hi];exact h1
   rcases snoc_get h2 with ⟨hj,h2⟩ | ⟨hj,rfl⟩
   ·exact h.ne i j vi vj q hij h1' (by rw [List.getElem?_append_left hj];exact h2) hq he
   ·have:gg=q:=by simpa [Value.ownBlock] using he
    subst this
    rcases hat with h3 | h3
    ·exact h.ne i vs0.length vi v gg (by omega) h1' (by simp) hq h3
    ·have ho:=h.own i vi (ls0[i]'(by omega)) h1' (by rw [List.getElem?_append_left (by omega)];exact List.getElem?_eq_getElem _)
     exact absurd (ho.lt gg hq).2 (by omega)
  ·rcases snoc_get h2 with ⟨hj,h2⟩ | ⟨hj,rfl⟩
   ·have h2':(vs0 ++ [v])[j]?=some vj:=by rw [List.getElem?_append_left hj];exact h2
    have:gg=q:=by simpa [Value.ownBlock] using hq
    subst this
    rcases hat with h3 | h3
    ·exact h.ne vs0.length j v vj gg (by omega) (by simp) h2' h3 he
    ·have ho:=h.own j vj (ls0[j]'(by omega)) h2' (by rw [List.getElem?_append_left (by omega)];exact List.getElem?_eq_getElem _)
     exact absurd (ho.lt gg he).2 (by omega)
   ·omega
theorem LnIs.put_text {B:Nat} {w:World} {gg m c':Nat} {ov:Value} {vs0:List Value} {ls0:List (List Tok)} {l:List Tok} {t:Tok} (h:LnIs B w ov (vs0 ++ [.slice (some ⟨gg,0,none⟩) m c']) (ls0 ++ [l ++ [t]])) (u:List UInt8) :
  LnIs B (w.setCell ⟨gg,l.length * 2,none⟩ (.string ⟨u.toArray⟩)) ov (vs0 ++ [.slice (some ⟨gg,0,none⟩) m c']) (ls0 ++ [l ++ [⟨u,t.pos⟩]]):=by
 have hlen:vs0.length=ls0.length:=by have:=h.len;simp at this;exact this
 have hv:=h.own ls0.length (.slice (some ⟨gg,0,none⟩) m c') (l ++ [t]) (by rw [← hlen];simp) (by simp)
 have hm:m=(l ++ [t]).length:=by
  obtain ⟨g',cap',he,_⟩:=hv.form (by simp)
  injection he
 subst hm
 have hst:=(hv.stored (l.length * 2) (.string ⟨u.toArray⟩)).1
 have e2:(rows tkc (l ++ [t])).set (l.length * 2) (.string ⟨u.toArray⟩)=rows tkc (l ++ [⟨u,t.pos⟩]):=rows_set_last tkc 2 tkc_len l t ⟨u,t.pos⟩ 0 (.string ⟨u.toArray⟩) rfl
 rw [e2] at hst
 refine ⟨by simp [hlen],?_,?_,h.ne⟩
 ·have h0:=h.out
  rw [List.length_append,List.length_singleton] at h0 ⊢
  exact own_keep h0 fun b hb=>Below.heap_setCell w ⟨gg,l.length * 2,none⟩ _ b (fun e=>own_ne h0 hv (by decide) hb (congrArg some e.symm))
 ·intro j x y h1 h2
  rcases snoc_get h1 with ⟨hj,h1⟩ | ⟨hj,rfl⟩
  ·rcases snoc_get h2 with ⟨_,h2⟩ | ⟨hj2,_⟩
   ·have h1':(vs0 ++ [.slice (some ⟨gg,0,none⟩) (l ++ [t]).length c'])[j]?=some x:=by rw [List.getElem?_append_left hj];exact h1
    have ho:=h.own j x y h1' (by rw [List.getElem?_append_left (by omega)];exact h2)
    exact own_keep ho fun b hb=>Below.heap_setCell w ⟨gg,l.length * 2,none⟩ _ b (fun e=>h.ne j vs0.length x (.slice (some ⟨gg,0,none⟩) (l ++ [t]).length c') b (by omega) h1' (by simp) hb (congrArg some e.symm))
   ·omega
  ·rcases snoc_get h2 with ⟨hj2,_⟩ | ⟨_,rfl⟩
   ·omega
   ·have:(l ++ [(⟨u,t.pos⟩:Tok)]).length=(l ++ [t]).length:=by simp
    rw [this]
    exact hst
theorem docD_inn (t:List UInt8) (h:(docD t).inn=true):∃ l x,(docD t).line=l ++ [x]:=by
 unfold docD at h ⊢
 simp only [Bool.and_eq_true,Bool.not_eq_true',List.isEmpty_eq_false_iff] at h ⊢
 obtain ⟨h1,h2⟩:=h
 have h3:(35:UInt8) ∉ (tx t).2.2:=by simpa using h1
 unfold lineTok
 rw [cutR_clean _ h3]
 unfold flushT
 rw [if_neg h2]
 exact ⟨_,_,rfl⟩
theorem grow1_snoc (l:List Tok) (x:Tok) (c:UInt8):grow1 (l ++ [x]) c=l ++ [⟨x.s ++ [c],x.pos⟩]:=by
 unfold grow1
 simp
theorem rows_last {α:Type} (enc:α→List Value) (k:Nat) (hk:∀ x,(enc x).length=k) (l:List α) (x:α) (j:Nat):(rows enc (l ++ [x]))[l.length * k + j]?=(enc x)[j]?:=by
 rw [rows_snoc,List.getElem?_append_right (by rw [rows_length enc k hk];omega),rows_length enc k hk]
 congr 1
 omega
theorem chr_slice (s:ByteArray) (i:Nat) (h:i < s.size) {c:UInt8} (hc:c=s[i]):∃ ch:ByteArray,ch.data.toList=[c]∧∀ W,(Instr.slice 9 (.string s) (some (.int .i64 (i:Int))) (some (.int .i64 ((i:Int) + 1))) none).run Tryz.prog W=.ok (.string ch) W:=by
 refine ⟨s.extract i (i + 1),?_,fun W=>?_⟩
 ·rw [Go.Lib.extract_data,hc]
  have:s.data.toList.drop i=s[i] :: s.data.toList.drop (i + 1):=by
   exact List.drop_eq_getElem_cons (i:=i) (l:=s.data.toList) (by rw [Array.length_toList];exact h)
  rw [this,show i + 1 - i=1 by omega]
  rfl
 ·have h2:=run_slice_string (P:=Tryz.prog) W 9 s .i64 .i64 (i:Int) ((i:Int) + 1) Tryz.underlying9 (by omega) (by omega) (by omega)
  rwa [show ((i:Int) + 1).toNat=i + 1 by omega,show (i:Int).toNat=i by omega] at h2
theorem tok_addr (gg K c':Nat) (W:World):(Instr.indexAt 149 (.slice (some ⟨gg,0,none⟩) (K + 1) c') (.int .i64 (K:Int))).run Tryz.prog W=.ok (.pointer (some ⟨gg,K * 2,none⟩)) W:=by
 rw [run_indexAt_slice (P:=Tryz.prog) W 149 ⟨gg,0,none⟩ (K + 1) c' .i64 (K:Int) (by rw [elem_rtok];exact Tryz.underlying149),if_pos ⟨by omega,by omega⟩,elem_rtok,size_rtok]
 show Result.ok (Value.pointer (some (Addr.add ⟨gg,0,none⟩ ((K:Int).toNat * 2)))) W=_
 rw [show (K:Int).toNat=K by omega]
 congr 3
 unfold Addr.add
 split
 ·rename_i h
  rw [h]
 ·simp
theorem docD_tok (t:List UInt8):∀ x ∈ (docD t).line,x.s.length ≤ t.length:=by
 intro x hx
 have h1:=lineTok_bound (tx t).2.2 (tx t).2.1 x hx
 have h2:=tx_len t
 omega
theorem docD_len (t:List UInt8):(docD t).done.length ≤ t.length∧(docD t).line.length ≤ t.length:=by
 induction t using snoc_ind' with
 | h0=>exact ⟨Nat.le_refl _,Nat.le_refl _⟩
 | h1 l c ih =>
  rw [docD_step,List.length_append,List.length_singleton]
  obtain ⟨h1,h2⟩:=ih
  unfold dstep
  split
  ·simp;omega
  ·split
   ·simp only;omega
   ·split
    ·simp only
     refine ⟨by omega,?_⟩
     unfold grow1
     split
     ·omega
     ·rename_i x hx
      rw [List.length_append,List.length_dropLast,List.length_singleton]
      have:(docD l).line ≠ []:=by intro e;rw [e] at hx;cases hx
      have:=List.length_pos_iff.2 this
      omega
    ·simp;omega
theorem docD_take (s:ByteArray) (i:Nat) (h:i < s.size):docD (s.data.toList.take (i + 1))=dstep (docD (s.data.toList.take i)) i (s[i]):=by
 rw [List.take_add_one,List.getElem?_eq_getElem (by rw [Array.length_toList];exact h)]
 have:=docD_step (s.data.toList.take i) (s[i])
 rw [List.length_take,Array.length_toList,Nat.min_eq_left (show i ≤ s.data.size from Nat.le_of_lt h)] at this
 exact this
set_option maxHeartbeats 4000000 in
theorem rlines_any (s:ByteArray) (hs:s.size ≤ 4294967296) (w:World):Calls Tryz.prog 112 #[.string s] w fun e w'=>∃ ov vs,e=.returned ov∧LnIs w.heap.size w' ov vs (lineToks s.data.toList)∧Below w.heap.size w w':=by
 obtain ⟨n,hn⟩:∃ n,n=s.size:=⟨_,rfl⟩
 have hn1:n ≤ s.size:=by omega
 have hn2:s.size ≤ n:=by omega
 clear hn
 obtain ⟨i0,hi0,hz0,hz1,hz2⟩:=info_parts info_line
 obtain ⟨j0,hj0,ha0,ha1,ha2⟩:=info_parts info_rtok
 go_enter Tryz.func112,Tryz.ntmps112
 go_wp2_with fail
 go_loopg [3,4,5,6] n (fun gk ov inn rem iv wr=>∃ (i:Nat) (vs0:List Value) (vl:Value),iv=.int .i64 i∧i ≤ n∧gk=n - i∧inn=.bool (docD (s.data.toList.take i)).inn∧rem=.bool (docD (s.data.toList.take i)).rem∧LnIs w.heap.size wr ov (vs0 ++ [vl]) ((docD (s.data.toList.take i)).done ++ [(docD (s.data.toList.take i)).line])∧Below w.heap.size w wr)
 case atStart =>
  refine ⟨0,[],.slice none 0 0,rfl,Nat.zero_le _,rfl,rfl,rfl,LnIs.start w 1 (World.ownsRow_lit _ #[.slice none 0 0,.string ⟨#[]⟩] 1 (Nat.le_refl _) (by unfold maxLen;omega) rfl),by repeat (first | with_reducible exact Below.refl _ _ | with_reducible refine Below.drew ?_ | with_reducible refine below_drewN ?_ _ | ((with_reducible refine Below.alloc ?_ ?_ _);(rotate_left;focus (first | with_reducible exact Nat.le_refl _ | omega | (simp;done) | (simp;omega) | (simp [World.setCell];done) | (simp [World.setCell];omega)))) | ((with_reducible refine Below.setCell ?_ ?_ _);(rotate_left;focus (first | with_reducible exact Nat.le_refl _ | omega | (simp;done) | (simp;omega) | (simp [World.setCell];done) | (simp [World.setCell];omega)))))⟩
 case round =>
  obtain ⟨i,vs0,vl,rfl,hi,hgk,rfl,rfl,hL,hbel⟩:=hrel
  have HG:=Lib.hid hgk
  clear hgk
  by_cases hin:i < n
  ·have e1:decide ((i:Int) < (s.size:Int))=true:=decide_eq_true (by omega)
   have e2:decide (i < s.size)=true:=decide_eq_true (by omega)
   have hil:i < s.size:=by omega
   have HST:=Lib.hid (docD_take s i hil)
   have hlen:=docD_len (s.data.toList.take i)
   have hlt:(s.data.toList.take i).length ≤ i:=by rw [List.length_take];omega
   have HIN:=Lib.hid (docD_inn (s.data.toList.take i))
   have HTB:Hid (∀ x ∈ (docD (s.data.toList.take i)).line,x.s.length ≤ i):=Lib.hid (fun x hx=>Nat.le_trans (docD_tok _ x hx) hlt)
   obtain ⟨D,hD⟩:∃ D,D=docD (s.data.toList.take i):=⟨_,rfl⟩
   rw [← hD] at HST hlen HIN HTB hL ⊢
   obtain ⟨dn,ln,inn,rem⟩:=D
   have hdl:dn.length ≤ i:=Nat.le_trans hlen.1 hlt
   have hll:ln.length ≤ i:=Nat.le_trans hlen.2 hlt
   have HL:=Lib.hid hL
   have HBE:=Lib.hid hbel
   have hbs:=hbel.size
   obtain ⟨c,hc⟩:∃ c,c=s[i]:=⟨_,rfl⟩
   have HST2:Hid (docD (s.data.toList.take (i + 1))=dstep ⟨dn,ln,inn,rem⟩ i c):=Lib.hid (by rw [hc];exact HST.out)
   simp only at HIN HTB hL ⊢
   clear hD hlen hlt hL hbel HST
   have hout:=HL.out.out
   by_cases h10:c=10
   ·have q1:(((s[i]).toNat:Int) == 10)=true:=by rw [← hc,h10];rfl
    have HS3:Hid (docD (s.data.toList.take (i + 1))=⟨dn ++ [ln],[],false,false⟩):=Lib.hid (by rw [HST2.out];unfold dstep;rw [if_pos h10])
    have hc2:∀ u ∈ ([.slice none 0 0,.string ⟨#[]⟩]:List Value),u.oneCell'=true:=by intro u hu;simp at hu;rcases hu with rfl | rfl <;> rfl
    have hc3:(dn ++ [ln]).length + 1 ≤ maxLen:=by rw [List.length_append,List.length_singleton];unfold maxLen;omega
    have hc4:((dn ++ [ln]).length + 1) * 40 ≤ 140737488355328:=by rw [List.length_append,List.length_singleton];omega
    have hc5:w.heap.size ≤ (wr.alloc (.cells #[.slice none 0 0,.string ⟨#[]⟩] 157)).heap.size:=by simp;omega
    clear h10 hc
    go_wp2_with (at_builtin;go_must (refine wpList_append_own _ rfl _ _ 152 rfl w.heap.size 157 i0 (.agg #[.slice none 0 0,.string ⟨#[]⟩]) 2 40 Tryz.underlying152 hi0 hz0 hz1 hz2 rfl (by decide) _ _ _ rfl (hout.alloc _) ⟨wr.heap.size,0,none⟩ 1 1 [.slice none 0 0,.string ⟨#[]⟩] rfl rfl (World.news_of_block (cs:=#[.slice none 0 0,.string ⟨#[]⟩]) (t:=157) (fr:=(0,0)) (by simpa using heap_alloc_new wr (.cells #[.slice none 0 0,.string ⟨#[]⟩] 157))) hc2 hc3 hc4 hc5 ?_;intro v' w2 hown2 hgrow _))
    have hnl:=HL.out.newline ((Below.refl _ _).alloc (Nat.le_refl _) _) hgrow hown2
    have hbf:Below w.heap.size w w2:=(HBE.out.alloc hbs _).trans (below_grown (hout.alloc _) hgrow hc5)
    go_roundg (n - (i + 1))
    case measure=>have:=HG.out;omega
    case rel=>exact ⟨i + 1,vs0 ++ [vl],.slice none 0 0,by simp,by omega,rfl,by rw [HS3.out],by rw [HS3.out],by rw [HS3.out];exact hnl,hbf⟩
   ·have q1:(((s[i]).toNat:Int) == 10)=false:=by
     rw [← hc,beq_eq_false_iff_ne]
     exact fun e=>h10 (UInt8.toNat_inj.1 (by show _=10;omega))
    cases h35:(c == 35) with
    | true =>
     have q35:(((s[i]).toNat:Int) == 35)=true:=by rw [← hc,eq_of_beq h35];rfl
     have HS3:Hid (docD (s.data.toList.take (i + 1))=⟨dn,ln,false,true⟩):=Lib.hid (by rw [HST2.out];unfold dstep;rw [if_neg h10];simp only [h35,Bool.or_true,Bool.true_or,if_true])
     clear h10 h35
     clear hc
     go_wp2
     go_roundg (n - (i + 1))
     case measure=>have:=HG.out;omega
     case rel=>exact ⟨i + 1,vs0,vl,by simp,by omega,rfl,by rw [HS3.out],by rw [HS3.out],by rw [HS3.out];exact HL.out,HBE.out⟩
    | false =>
     have q35:(((s[i]).toNat:Int) == 35)=false:=by
      rw [← hc,beq_eq_false_iff_ne]
      exact fun e=>(beq_eq_false_iff_ne.1 h35) (UInt8.toNat_inj.1 (by show _=35;omega))
     cases rem with
     | true =>
      have HS3:Hid (docD (s.data.toList.take (i + 1))=⟨dn,ln,false,true⟩):=Lib.hid (by rw [HST2.out];unfold dstep;rw [if_neg h10];simp only [Bool.true_or,if_true])
      clear h10 h35
      clear hc
      go_wp2
      go_roundg (n - (i + 1))
      case measure=>have:=HG.out;omega
      case rel=>exact ⟨i + 1,vs0,vl,by simp,by omega,rfl,by rw [HS3.out],by rw [HS3.out],by rw [HS3.out];exact HL.out,HBE.out⟩
     | false =>
      have hga:=gap_at c
      cases hgap:isGap c with
      | true =>
       have HS3:Hid (docD (s.data.toList.take (i + 1))=⟨dn,ln,false,false⟩):=Lib.hid (by rw [HST2.out];unfold dstep;rw [if_neg h10];simp only [h35,hgap,Bool.or_false,Bool.false_or,if_true])
       rw [hgap,hc] at hga
       clear h10 h35 hgap
       cases q32:(((s[i]).toNat:Int) == 32) with
       | true =>
        clear hga
        clear hc
        go_wp2
        go_roundg (n - (i + 1))
        case measure=>have:=HG.out;omega
        case rel=>exact ⟨i + 1,vs0,vl,by simp,by omega,rfl,by rw [HS3.out],by rw [HS3.out],by rw [HS3.out];exact HL.out,HBE.out⟩
       | false =>
        rw [q32,Bool.false_or] at hga
        have q9:=hga.symm
        clear hga
        clear hc
        go_wp2
        go_roundg (n - (i + 1))
        case measure=>have:=HG.out;omega
        case rel=>exact ⟨i + 1,vs0,vl,by simp,by omega,rfl,by rw [HS3.out],by rw [HS3.out],by rw [HS3.out];exact HL.out,HBE.out⟩
      | false =>
       rw [hgap,hc] at hga
       obtain ⟨q32,q9⟩:=Bool.or_eq_false_iff.1 hga.symm
       have HST3:Hid (docD (s.data.toList.take (i + 1))=if inn then ⟨dn,grow1 ln c,true,false⟩ else ⟨dn,ln ++ [⟨[c],i⟩],true,false⟩):=Lib.hid (by rw [HST2.out];unfold dstep;rw [if_neg h10];simp only [h35,hgap,Bool.or_false,Bool.false_eq_true,if_false])
       have hvl0:vs0.length=dn.length:=by have:=HL.out.len;simp at this;exact this
       have hvl:=HL.out.own dn.length vl ln (by rw [← hvl0];simp) (by simp)
       have hN:(dn ++ [ln]).length=dn.length + 1:=by simp
       rw [hN] at hout
       obtain ⟨g,cap,rfl,hgB,hgl⟩:=hout.form (by omega)
       have cg:wr.cell? ⟨g,dn.length * 2,none⟩=some vl:=by
        rw [hout.cellAt (dn.length * 2) (by omega)]
        have h:=rows_last lnc 2 lnc_len vs0 vl 0
        rw [hvl0] at h
        exact h.trans rfl
       have fg:wr.frozen? ⟨g,dn.length * 2,none⟩=false:=hout.frozenAt _
       obtain ⟨M,hM⟩:∃ M,M=dn.length:=⟨_,rfl⟩
       have HMM:=Lib.hid hM
       have HOUT:=Lib.hid hout
       have HCC:=Lib.hid hc
       have HVL:=Lib.hid hvl
       rw [← hM] at cg fg hdl
       rw [← hM] at HOUT HL ⊢
       clear h10 h35 hgap hga HST2 hM hout hvl hN hvl0 hc
       cases inn with
       | true =>
        obtain ⟨l0,x,hlx⟩:=HIN.out rfl
        subst hlx
        obtain ⟨gg,c',rfl,_,_⟩:=HVL.out.form (by simp)
        obtain ⟨K,hK⟩:∃ K,K=l0.length:=⟨_,rfl⟩
        rw [List.length_append,List.length_singleton,← hK] at HL hll
        have HK:=Lib.hid hK
        have HLX:=HL
        have HBX:=HBE
        have HXS:Hid (x.s.length ≤ i):=Lib.hid (HTB.out x (by simp))
        have HS4:Hid (docD (s.data.toList.take (i + 1))=⟨dn,l0 ++ [⟨x.s ++ [c],x.pos⟩],true,false⟩):=Lib.hid (by rw [HST3.out,if_pos rfl,grow1_snoc])
        clear hK cg fg
        have hlen0:vs0.length=dn.length:=by have:=HLX.out.len;simp at this;exact this
        have hvx:=HLX.out.own dn.length (.slice (some ⟨gg,0,none⟩) (K + 1) c') (l0 ++ [x]) (by rw [← hlen0];simp) (by simp)
        rw [List.length_append,List.length_singleton,← HK.out] at hvx
        have hox:=HLX.out.out
        rw [List.length_append,List.length_singleton,← HMM.out] at hox
        obtain ⟨q,hq⟩:∃ q:ByteArray,q=⟨(x).s.toArray⟩:=⟨_,rfl⟩
        have ct:(wr).cell? ⟨gg,K * 2,none⟩=some (.string q):=by
         rw [hvx.cellAt (K * 2) (by omega),hq,HK.out]
         exact (rows_last tkc 2 tkc_len l0 x 0).trans rfl
        have ft:(wr).frozen? ⟨gg,K * 2,none⟩=false:=hvx.frozenAt _
        have cg:(wr).cell? ⟨g,M * 2,none⟩=some (.slice (some ⟨gg,0,none⟩) (K + 1) c'):=by
         rw [hox.cellAt (M * 2) (by omega)]
         have h:=rows_last lnc 2 lnc_len vs0 (.slice (some ⟨gg,0,none⟩) (K + 1) c') 0
         rw [hlen0,← HMM.out] at h
         exact h.trans rfl
        have hggB:w.heap.size ≤ gg:=(hvx.lt gg rfl).1
        have hggl:gg < (wr).heap.size:=(hvx.lt gg rfl).2
        have hgl2:g < (wr).heap.size:=(hox.lt g rfl).2
        have HQ:=Lib.hid hq
        clear hvx hox hq hlen0
        have yk:IntKind.i64.wrap (K:Int)=(K:Int):=by simp [IntKind.wrap,IntKind.bits,IntKind.signed];omega
        have hix:=fun W=>tok_addr gg K c' W
        have yi:IntKind.i64.wrap ((i:Int) + 1)=(i:Int) + 1:=by simp [IntKind.wrap,IntKind.bits,IntKind.signed];omega
        have HCH:Hid (∃ ch:ByteArray,ch.data.toList=[c]∧∀ W,(Instr.slice 9 (.string s) (some (.int .i64 (i:Int))) (some (.int .i64 ((i:Int) + 1))) none).run Tryz.prog W=.ok (.string ch) W):=Lib.hid (chr_slice s i hil HCC.out)
        obtain ⟨ch,hch,hsl⟩:=HCH.out
        have hqs:q.size ≤ i:=by
         have e1:q.size=q.data.toList.length:=Array.length_toList.symm
         rw [e1,HQ.out]
         show ((x).s.toArray.toList).length ≤ i
         rw [List.toList_toArray];exact HXS.out
        have hcs:ch.size=1:=by
         have e1:ch.size=ch.data.toList.length:=Array.length_toList.symm
         rw [e1,hch];rfl
        obtain ⟨qc,hqc⟩:∃ qc,qc=q ++ ch:=⟨_,rfl⟩
        have hadd:∀ W,(Op.stringOp .add q ch).run Tryz.prog W=.ok (.string qc) W:=fun W=>by
         rw [run_string_add_sum (P:=Tryz.prog) W q ch (by omega),hqc]
        have HQC:Hid (qc=⟨((x).s ++ [c]).toArray⟩):=Lib.hid (bytes_inj (by
         rw [hqc]
         show (q ++ ch).data.toList=_
         rw [ByteArray.data_append,Array.toList_append,hch,HQ.out]))
        clear hch HCH hqc hcs hqs
        go_upto_region 20 with fail
        refine wp_region_still_tail 29 (by kernel_rfl) (by kernel_rfl) ?_
        change wpStill _ _ (World.drew _) (fun a'=>wpList _ _ _ _ a' (World.drew _)) _ _
        simp only [List.take_succ_cons,List.take_zero,List.drop_succ_cons,List.drop_zero]
        repeat still_step
        refine wpStill_nil ?_
        go_wp2_with fail
        have hfin:=HLX.out.put_text ((x).s ++ [c])
        rw [← HK.out,← HQC.out] at hfin
        go_roundg (n - (i + 1))
        case measure=>have:=HG.out;omega
        case rel=>exact ⟨i + 1,vs0,.slice (some ⟨gg,0,none⟩) (K + 1) c',by simp,by omega,rfl,by rw [HS4.out],by rw [HS4.out],by rw [HS4.out];exact hfin.keep (Below.refl _ _).drew,(HBX.out.setCell (show w.heap.size ≤ gg from hggB) _).drew⟩
       | false =>
        have HS4:Hid (docD (s.data.toList.take (i + 1))=⟨dn,ln ++ [⟨[] ++ [c],i⟩],true,false⟩):=Lib.hid (by rw [HST3.out,if_neg (by decide)];rfl)
        obtain ⟨csL,hcsL⟩:=own_blk HOUT.out (b:=g) rfl
        have hvown:=HVL.out
        obtain ⟨K,hK⟩:∃ K,K=ln.length:=⟨_,rfl⟩
        rw [← hK] at hvown hll
        have HK:=Lib.hid hK
        have hng:=own_ne_blk hvown hcsL (by decide)
        have HCS:Hid (csL[M * 2]?=some vl):=Lib.hid ((hcsL.cell (M * 2)).symm.trans cg)
        have hc2:∀ v ∈ [Value.string ⟨#[]⟩,.int .i64 (i:Int)],v.oneCell'=true:=by intro v hv;simp at hv;rcases hv with rfl | rfl <;> rfl
        have hc3:K + 1 ≤ maxLen:=by unfold maxLen;omega
        have hc4:(K + 1) * 24 ≤ 140737488355328:=by omega
        have hc5:w.heap.size ≤ (wr.alloc (.cells #[.string ⟨#[]⟩,.int .i64 (i:Int)] 159)).heap.size:=by simp;omega
        clear hK
        go_upto_region 19 with (at_builtin;go_must (refine wpList_append_lies _ rfl _ _ 149 rfl w.heap.size 159 j0 (.agg #[.string ⟨#[]⟩,.int .i64 0]) 2 24 Tryz.underlying149 hj0 ha0 ha1 ha2 rfl (by decide) vl K (rows tkc ln) rfl (hvown.alloc _) ⟨wr.heap.size,0,none⟩ 1 1 [.string ⟨#[]⟩,.int .i64 (i:Int)] rfl rfl (World.news_of_block (cs:=#[.string ⟨#[]⟩,.int .i64 (i:Int)]) (t:=159) (fr:=(0,0)) (by simpa using heap_alloc_new wr (.cells #[.string ⟨#[]⟩,.int .i64 (i:Int)] 159))) hc2 (by omega) hc3 hc4 hc5 (wr.heap.size + 1) (by simp) ?_;intro gg c' w3 hown3 hgrow hat hlt3;have hR3:Blk w3 g 157 csL:=(hgrow.block g (by simp;omega) (fun hh=>hng hh.symm)).trans ((Below.heap_alloc wr _ g hgl).trans hcsL);have m4:w3.cell? ⟨g,M * 2,none⟩=some vl:=(hR3.cell (M * 2)).trans HCS.out;have f4:w3.frozen? ⟨g,M * 2,none⟩=false:=hR3.frozen (M * 2);have hrl3:g < w3.heap.size:=hR3.lt))
        have hat2:vl.ownBlock=some gg ∨ wr.heap.size ≤ gg:=hat.imp id fun h=>by omega
        have hlx:=HL.out.put_last (t:=⟨[],i⟩) (congrArg (· + 1) HMM.out) ((Below.refl _ _).alloc (Nat.le_refl _) _) hgrow hown3 (congrArg (· + 1) HK.out) hat2
        rw [← HMM.out] at hlx
        have hbx:Below w.heap.size w (w3.setCell ⟨g,M * 2,none⟩ (.slice (some ⟨gg,0,none⟩) (K + 1) c')):=((HBE.out.alloc hbs _).trans (below_grown (hvown.alloc _) hgrow hc5)).setCell (show w.heap.size ≤ g from hgB) _
        obtain ⟨wc,hwc⟩:∃ wc,wc=w3.setCell ⟨g,M * 2,none⟩ (.slice (some ⟨gg,0,none⟩) (K + 1) c'):=⟨_,rfl⟩
        rw [← hwc] at hlx hbx ⊢
        have HLX:=Lib.hid hlx
        have HBX:=Lib.hid hbx
        have HXS:Hid (([]:List UInt8).length ≤ i):=Lib.hid (Nat.zero_le _)
        clear hlx hbx cg fg hwc hgrow hat hown3 hR3 m4 f4 hat2
        have hlen0:vs0.length=dn.length:=by have:=HLX.out.len;simp at this;exact this
        have hvx:=HLX.out.own dn.length (.slice (some ⟨gg,0,none⟩) (K + 1) c') (ln ++ [(⟨[],i⟩:Tok)]) (by rw [← hlen0];simp) (by simp)
        rw [List.length_append,List.length_singleton,← HK.out] at hvx
        have hox:=HLX.out.out
        rw [List.length_append,List.length_singleton,← HMM.out] at hox
        obtain ⟨q,hq⟩:∃ q:ByteArray,q=⟨((⟨[],i⟩:Tok)).s.toArray⟩:=⟨_,rfl⟩
        have ct:(wc).cell? ⟨gg,K * 2,none⟩=some (.string q):=by
         rw [hvx.cellAt (K * 2) (by omega),hq,HK.out]
         exact (rows_last tkc 2 tkc_len ln (⟨[],i⟩:Tok) 0).trans rfl
        have ft:(wc).frozen? ⟨gg,K * 2,none⟩=false:=hvx.frozenAt _
        have cg:(wc).cell? ⟨g,M * 2,none⟩=some (.slice (some ⟨gg,0,none⟩) (K + 1) c'):=by
         rw [hox.cellAt (M * 2) (by omega)]
         have h:=rows_last lnc 2 lnc_len vs0 (.slice (some ⟨gg,0,none⟩) (K + 1) c') 0
         rw [hlen0,← HMM.out] at h
         exact h.trans rfl
        have hggB:w.heap.size ≤ gg:=(hvx.lt gg rfl).1
        have hggl:gg < (wc).heap.size:=(hvx.lt gg rfl).2
        have hgl2:g < (wc).heap.size:=(hox.lt g rfl).2
        have HQ:=Lib.hid hq
        clear hvx hox hq hlen0
        have yk:IntKind.i64.wrap (K:Int)=(K:Int):=by simp [IntKind.wrap,IntKind.bits,IntKind.signed];omega
        have hix:=fun W=>tok_addr gg K c' W
        have yi:IntKind.i64.wrap ((i:Int) + 1)=(i:Int) + 1:=by simp [IntKind.wrap,IntKind.bits,IntKind.signed];omega
        have HCH:Hid (∃ ch:ByteArray,ch.data.toList=[c]∧∀ W,(Instr.slice 9 (.string s) (some (.int .i64 (i:Int))) (some (.int .i64 ((i:Int) + 1))) none).run Tryz.prog W=.ok (.string ch) W):=Lib.hid (chr_slice s i hil HCC.out)
        obtain ⟨ch,hch,hsl⟩:=HCH.out
        have hqs:q.size ≤ i:=by
         have e1:q.size=q.data.toList.length:=Array.length_toList.symm
         rw [e1,HQ.out]
         show (((⟨[],i⟩:Tok)).s.toArray.toList).length ≤ i
         rw [List.toList_toArray];exact HXS.out
        have hcs:ch.size=1:=by
         have e1:ch.size=ch.data.toList.length:=Array.length_toList.symm
         rw [e1,hch];rfl
        obtain ⟨qc,hqc⟩:∃ qc,qc=q ++ ch:=⟨_,rfl⟩
        have hadd:∀ W,(Op.stringOp .add q ch).run Tryz.prog W=.ok (.string qc) W:=fun W=>by
         rw [run_string_add_sum (P:=Tryz.prog) W q ch (by omega),hqc]
        have HQC:Hid (qc=⟨(((⟨[],i⟩:Tok)).s ++ [c]).toArray⟩):=Lib.hid (bytes_inj (by
         rw [hqc]
         show (q ++ ch).data.toList=_
         rw [ByteArray.data_append,Array.toList_append,hch,HQ.out]))
        clear hch HCH hqc hcs hqs
        go_upto_region 20 with fail
        refine wp_region_still_tail 29 (by kernel_rfl) (by kernel_rfl) ?_
        change wpStill _ _ (World.drew _) (fun a'=>wpList _ _ _ _ a' (World.drew _)) _ _
        simp only [List.take_succ_cons,List.take_zero,List.drop_succ_cons,List.drop_zero]
        repeat still_step
        refine wpStill_nil ?_
        go_wp2_with fail
        have hfin:=HLX.out.put_text (((⟨[],i⟩:Tok)).s ++ [c])
        rw [← HK.out,← HQC.out] at hfin
        go_roundg (n - (i + 1))
        case measure=>have:=HG.out;omega
        case rel=>exact ⟨i + 1,vs0,.slice (some ⟨gg,0,none⟩) (K + 1) c',by simp,by omega,rfl,by rw [HS4.out],by rw [HS4.out],by rw [HS4.out];exact hfin.keep (Below.refl _ _).drew,(HBX.out.setCell (show w.heap.size ≤ gg from hggB) _).drew⟩
  ·have e1:decide ((i:Int) < (s.size:Int))=false:=decide_eq_false (by omega)
   have e2:decide (i < s.size)=false:=decide_eq_false (by omega)
   have hta:s.data.toList.take i=s.data.toList:=List.take_of_length_le (by rw [Array.length_toList];show s.size ≤ i;omega)
   rw [hta] at hL
   have HL:=Lib.hid hL
   clear hta hL
   go_wp2
   go_ret
   exact ⟨_,_,rfl,HL.out,hbel⟩
theorem LnIs.frm {B B0:Nat} {w w':World} {ab:Nat} {cs:Array Value} {ov:Value} {vs:List Value} {ls:List (List Tok)} (h:LnIs B0 w ov vs ls) (hb:Blk w ab 151 cs) (hf:Frm w w' (RaS ab B)) (hB:w.heap.size ≤ B):LnIs B0 w' ov vs ls:=by
 have key:∀ {t:TypeId} {size n:Nat} {v:Value} {xs:List Value},w.ownsRow B0 t size v n xs→t ≠ 151→w'.ownsRow B0 t size v n xs:=fun ho ht=>own_keep ho fun b hq=>hf.block b (ho.lt b hq).2 fun hh=>by
  rcases hh with rfl | hh
  ·exact own_ne_blk ho hb ht hq
  ·have:=(ho.lt b hq).2;omega
 exact ⟨h.len,key h.out (by decide),fun j v l h1 h2=>key (h.own j v l h1 h2) (by decide),h.ne⟩
theorem sc_ne (a:Nat) (p:List UInt8):∀ t ∈ (sc a p).1,t.s ≠ []:=by
 induction p using snoc_ind' with
 | h0=>intro t ht;cases ht
 | h1 l x ih =>
  rw [sc_snoc,scStep]
  split
  ·simp only
   split
   ·exact ih
   ·rename_i h
    intro t ht
    rcases List.mem_append.1 ht with ht | ht
    ·exact ih t ht
    ·obtain rfl:=List.mem_singleton.1 ht
     exact h
  ·exact ih
theorem lineTok_ne (l:List UInt8) (a:Nat):∀ t ∈ lineTok l a,t.s ≠ []:=by
 intro t ht
 unfold lineTok flushT at ht
 split at ht
 ·exact sc_ne a _ t ht
 ·rename_i h
  rcases List.mem_append.1 ht with ht | ht
  ·exact sc_ne a _ t ht
  ·obtain rfl:=List.mem_singleton.1 ht
   exact h
def TokB (n:Nat) (l:List Tok):Prop:=l.length ≤ n + 1∧∀ t ∈ l,t.s ≠ []∧t.s.length ≤ n∧t.pos ≤ n
theorem TokB.mono {n m:Nat} {l:List Tok} (h:TokB n l) (hm:n ≤ m):TokB m l:=⟨by have:=h.1;omega,fun t ht=>by have:=h.2 t ht;exact ⟨this.1,by omega,by omega⟩⟩
theorem tokB_line (l:List UInt8) (a n:Nat) (h:a + l.length ≤ n):TokB n (lineTok l a):=by
 refine ⟨by have:=lineTok_count l a;omega,fun t ht=>?_⟩
 have:=lineTok_bound l a t ht
 exact ⟨lineTok_ne l a t ht,by omega,by omega⟩
theorem tokB_tx (t:List UInt8):∀ l ∈ (tx t).1,TokB t.length l:=by
 induction t using snoc_ind' with
 | h0=>intro l hl;cases hl
 | h1 t x ih =>
  have hl:=tx_len t
  rw [tx_snoc,txStep,List.length_append,List.length_singleton]
  split
  ·intro l hm
   rcases List.mem_append.1 hm with hm | hm
   ·exact (ih l hm).mono (by omega)
   ·obtain rfl:=List.mem_singleton.1 hm
    exact tokB_line _ _ _ (by omega)
  ·intro l hm
   exact (ih l hm).mono (by omega)
theorem tokB_all (t:List UInt8):∀ l ∈ lineToks t,TokB t.length l:=by
 intro l hl
 rcases List.mem_append.1 hl with hl | hl
 ·exact tokB_tx t l hl
 ·obtain rfl:=List.mem_singleton.1 hl
  exact tokB_line _ _ _ (by have:=tx_len t;omega)
theorem lineToks_len (t:List UInt8):(lineToks t).length ≤ t.length + 1:=by
 rw [lineToks_split]
 have h1:=toksFrom_len (splitF 10 t) 0
 rw [splitF_length] at h1
 have h2:=List.count_le_length (a:=(10:UInt8)) (l:=t)
 omega
theorem endL_err {r:RSt} {t nm:Tok} {c:Nat} {o:Int} {rest:List Tok} {y:Nat × Nat} (h:endL r t c o nm rest=.error y):y.1=9 ∨ y.1=2:=by
 unfold endL at h
 split at h
 ·injection h with h;subst h;exact .inl rfl
 ·split at h
  ·injection h with h;subst h;exact .inr rfl
  ·cases h
theorem insL_err {r:RSt} {t:Tok} {rest:List Tok} {y:Nat × Nat} (h:insL r t rest=.error y):y.1=9 ∨ y.1=2 ∨ y.1=12:=by
 unfold insL at h
 split at h
 ·injection h with h;subst h;exact .inl rfl
 ·split at h
  ·split at h
   ·injection h with h;subst h;exact .inl rfl
   ·rename_i u rest'
    split at h
    ·rename_i e he
     injection h with h
     subst h
     unfold oprL at he
     split at he
     ·split at he
      ·cases he
      ·injection he with he;subst he;exact .inr (.inr rfl)
     ·split at he
      ·cases he
      ·injection he with he;subst he;exact .inl rfl
    ·rcases endL_err h with h | h
     ·exact .inl h
     ·exact .inr (.inl h)
  ·rcases endL_err h with h | h
   ·exact .inl h
   ·exact .inr (.inl h)
theorem lineL_err {r:RSt} {l:List Tok} {y:Nat × Nat} (h:lineL r l=.error y):y.1=9 ∨ y.1=2 ∨ y.1=12 ∨ y.1=11:=by
 rw [lineL_labL] at h
 cases hx:labL r l with
 | error e =>
  rw [hx] at h
  injection h with h
  subst h
  rcases labL_err hx with h | h
  ·exact .inl h
  ·exact .inr (.inr (.inr h))
 | ok x =>
  obtain ⟨l',r'⟩:=x
  rw [hx] at h
  cases l' with
  | nil=>cases h
  | cons t rest =>
   rcases insL_err h with h | h | h
   ·exact .inl h
   ·exact .inr (.inl h)
   ·exact .inr (.inr (.inl h))
theorem bytesOf_le9 (L:List AOp):(bytesOf L).length ≤ 9 * L.length:=by
 induction L with
 | nil=>exact Nat.le_refl _
 | cons o L ih =>
  unfold bytesOf at ih ⊢
  rw [List.flatMap_cons,List.length_append,encB_length,List.length_cons]
  have:widthF (shapeF o.code) ≤ 8:=by unfold widthF;split <;> (try split) <;> (try split) <;> omega
  omega
theorem bytesOf_snoc (L:List AOp) (o:AOp):bytesOf (L ++ [o])=bytesOf L ++ encB o:=by
 unfold bytesOf
 rw [List.flatMap_append,List.flatMap_cons,List.flatMap_nil,List.append_nil]
theorem reads_bound {w:World} {B0 n size B:Nat} {t:TypeId} {A:Option Addr} {c:Nat} {xs:List Value} (h:w.ownsRow B0 t size (.slice A n c) n xs) (hB:w.heap.size ≤ B):Reads w B size A n xs:=(Reads.of_own h).more hB
end Go.Proofs.YtiheggkkgbfndaaGreatDoor
