/- asm.Parse. -/
import Derived.Test.YtiheggkkgbfndaaGreatDoorL20
import Derived.Test.YtiheggkkgbfndaaGreatDoorL12
import Derived.Test.YtiheggkkgbfndaaGreatDoorL10
import Derived.Deep.LoopGhost
import Derived.Deep.DeepMust
import Derived.StillTailTactics
namespace Go.Proofs.YtiheggkkgbfndaaGreatDoor
open Go.RowKit Go.Joins Go.ChangeShapes Go.WideShapes Go.Deep Go.Maps
set_option linter.unusedVariables false
set_option linter.unusedSimpArgs false
set_option maxRecDepth 100000
def parseV (x:Except (Nat × Nat) (List AOp)):Value:=match x with
 | .error y=>.tuple #[.string ⟨#[]⟩,.int .i64 y.1,.int .i64 y.2]
 | .ok L=>.tuple #[.string ⟨(bytesOf L).toArray⟩,.int .i64 0,.int .i64 0]
def codeFi (i:Nat) (s:List UInt8):Option Nat:=(List.range i).find? fun j=>wordsB.getD j [] == s
theorem words_apart:∀ i,i < 41→∀ j,j < i→wordsB.getD j [] ≠ wordsB.getD i []:=by decide +kernel
theorem codeFi_succ (i:Nat) (hi:i < 41) (s:List UInt8):codeFi (i + 1) s=if s=wordsB.getD i [] then some i else codeFi i s:=by
 unfold codeFi
 rw [List.range_succ,List.find?_append]
 by_cases e:s=wordsB.getD i []
 ·rw [if_pos e]
  have:(List.range i).find? (fun j=>wordsB.getD j [] == s)=none:=by
   rw [List.find?_eq_none]
   intro j hj
   simp only [beq_iff_eq]
   rw [e]
   exact words_apart i hi j (List.mem_range.1 hj)
  rw [this]
  simp [e]
 ·rw [if_neg e]
  have:[i].find? (fun j=>wordsB.getD j [] == s)=none:=by
   rw [List.find?_eq_none]
   intro j hj
   obtain rfl:=List.mem_singleton.1 hj
   simp only [beq_iff_eq]
   exact fun h=>e h.symm
  rw [this]
  simp
theorem EnvP.raise {B B':Nat} {w:World} (h:EnvP B w) (hB:B ≤ B') (hw:B' ≤ w.heap.size):EnvP B' w :=
 ⟨⟨hw,fun w' hb=>h.env.2 w' (hb.mono hB)⟩,Nat.le_trans h.lt hB,h.m,h.es,h.er⟩
theorem Blk.new' {w:World} {t:TypeId} {cs:Array Value} {n:Nat} (h:w.heap.size=n):Blk (w.alloc (.cells cs t)) n t cs:=h ▸ Blk.new w t cs
structure PW (W:World) (ob:Nat):Prop where
 o:Blk W ob 9 #[.string ⟨#[]⟩]
 e:Blk W (ob + 1) 31 #[.int .i64 0]
 a:Blk W (ob + 1 + 1) 3 #[.int .i64 0]
theorem PW.below {W W':World} {ob B:Nat} (h:PW W ob) (hb:Below B W W') (hB:ob + 1 + 1 < B):PW W' ob:=⟨h.o.below hb (by omega),h.e.below hb (by omega),h.a.below hb hB⟩
structure RdW (B:Nat) (w:World) (rb mc ml i:Nat):Prop where
 blk:Blk w rb 197 #[.map (some mc),.map (some ml),.slice none 0 0,.int .i64 0]
 codes:SMap w mc i (codeFi i)
 labs:SMap w ml 0 (fun _=>none)
 rbB:B ≤ rb
 mcB:B ≤ mc
 mlB:B ≤ ml
 ne:mc ≠ ml
theorem RdW.below {B i:Nat} {w w':World} {rb mc ml:Nat} (h:RdW B w rb mc ml i) (hb:Below w.heap.size w w'):RdW B w' rb mc ml i :=
 ⟨h.blk.below hb h.blk.lt,h.codes.below hb h.codes.lt,h.labs.below hb h.labs.lt,h.rbB,h.mcB,h.mlB,h.ne⟩
theorem RdW.put {B i:Nat} {w w2:World} {rb mc ml:Nat} (h:RdW B w rb mc ml i) (hi:i < 41) (hg:w.grownBy w2 (some mc)) (hS:SMap w2 mc (i + 1) (fun j=>if j=wordsB.getD i [] then some i else codeFi i j)) (hB:B ≤ w.heap.size) :
  Below B w w2∧RdW B w2 rb mc ml (i + 1):=by
 have hk:∀ q,q < w.heap.size→q ≠ mc→w2.heap[q]?=w.heap[q]?:=fun q hq hne=>hg.block q hq fun h=>hne (by injection h)
 refine ⟨⟨hg.os,hg.tape,hg.output,hg.size,fun q hq=>hk q (by omega) (by have:=h.mcB;omega)⟩,?_⟩
 exact ⟨(hk rb h.blk.lt (Ne.symm (h.codes.ne_blk h.blk))).trans h.blk,hS.congr fun j=>(codeFi_succ i hi j).symm,h.labs.kept (hk ml h.labs.lt (Ne.symm h.ne)),h.rbB,h.mcB,h.mlB,h.ne⟩
theorem RdW.done {B:Nat} {w:World} {rb mc ml:Nat} (h:RdW B w rb mc ml 41):RdIs B w rb mc ml (.slice none 0 0) ⟨[],[]⟩ :=
 ⟨h.blk,h.codes,h.labs,World.ownsRow_nil _ _ _ _,h.rbB,h.mcB,h.mlB,h.ne,by decide,by decide⟩
set_option maxHeartbeats 2000000 in
theorem parse_asm {w:World} (hE:EnvP w.heap.size w) (s:ByteArray) (hs:s.size ≤ 67108864) :
  Calls Tryz.prog 110 #[.string s] w fun e w'=>e=.returned (parseV (parseF s.data.toList))∧Below w.heap.size w w':=by
 have hmf:∀ (fn:Fn) (first cap:Array Value) (w:World),(Instr.makeFunc fn first cap).run Tryz.prog w=.ok (.func fn first cap) w:=fun _ _ _ _=>rfl
 go_enter_defers Tryz.func110,Tryz.ntmps110
 have hmm:=@run_makeMap Tryz.prog
 go_upto_region 3 with fail
 obtain ⟨ob,hob⟩:∃ ob,ob=w.heap.size:=⟨_,rfl⟩
 rw [← hob]
 obtain ⟨W0,hW0⟩:∃ W0,W0=((((((w.alloc (.cells #[.string ⟨#[]⟩] 9)).alloc (.cells #[.int .i64 0] 31)).alloc (.cells #[.int .i64 0] 3)).alloc (.map #[] 0)).alloc (.map #[] 0)).alloc (.cells #[.map (some (ob + 1 + 1 + 1)),.map (some (ob + 1 + 1 + 1 + 1)),.slice none 0 0,.int .i64 0] 197)):=⟨_,rfl⟩
 rw [← hW0]
 have hP0:PW W0 ob:=by
  rw [hW0,hob]
  exact ⟨(((((Blk.new w _ _).alloc _).alloc _).alloc _).alloc _).alloc _,by simpa using ((((Blk.new (w.alloc (.cells #[.string ⟨#[]⟩] 9)) 31 #[.int .i64 0]).alloc _).alloc _).alloc _).alloc _,by simpa using (((Blk.new ((w.alloc (.cells #[.string ⟨#[]⟩] 9)).alloc (.cells #[.int .i64 0] 31)) 3 #[.int .i64 0]).alloc _).alloc _).alloc _⟩
 have hS0:W0.heap.size=ob + 1 + 1 + 1 + 1 + 1 + 1:=by rw [hW0,hob];simp
 have hBW:Below w.heap.size w W0:=by rw [hW0];repeat (first | with_reducible exact Below.refl _ _ | with_reducible refine Below.drew ?_ | with_reducible refine below_drewN ?_ _ | ((with_reducible refine Below.alloc ?_ ?_ _);(rotate_left;focus (first | with_reducible exact Nat.le_refl _ | omega | (simp;done) | (simp;omega) | (simp [World.setCell];done) | (simp [World.setCell];omega)))) | ((with_reducible refine Below.setCell ?_ ?_ _);(rotate_left;focus (first | with_reducible exact Nat.le_refl _ | omega | (simp;done) | (simp;omega) | (simp [World.setCell];done) | (simp [World.setCell];omega)))))
 have hR0:RdW (ob + 1 + 1 + 1) W0 (ob + 1 + 1 + 1 + 1 + 1) (ob + 1 + 1 + 1) (ob + 1 + 1 + 1 + 1) 0:=by
  obtain ⟨W3,hW3⟩:∃ W3,W3=((w.alloc (.cells #[.string ⟨#[]⟩] 9)).alloc (.cells #[.int .i64 0] 31)).alloc (.cells #[.int .i64 0] 3):=⟨_,rfl⟩
  have hz:W3.heap.size=ob + 1 + 1 + 1:=by rw [hW3,hob];simp
  rw [← hW3] at hW0
  have m1:=SMap.made W3
  have m2:=SMap.made (W3.alloc (.map #[] 0))
  rw [hz] at m1
  have hz2:(W3.alloc (.map #[] 0)).heap.size=ob + 1 + 1 + 1 + 1:=by simp [hz]
  have hz3:((W3.alloc (.map #[] 0)).alloc (.map #[] 0)).heap.size=ob + 1 + 1 + 1 + 1 + 1:=by simp [hz]
  rw [hz2] at m2
  have b:=Blk.new' (t:=197) (cs:=#[.map (some (ob + 1 + 1 + 1)),.map (some (ob + 1 + 1 + 1 + 1)),.slice none 0 0,.int .i64 0]) hz3
  rw [← hW0] at b
  refine ⟨b,?_,?_,by omega,by omega,by omega,by omega⟩
  ·refine (m1.below (w':=W0) (B:=ob + 1 + 1 + 1 + 1) ?_ (by omega)).congr fun _=>rfl
   rw [hW0]
   exact ((Below.refl _ _).alloc (by omega) _).alloc (by omega) _
  ·refine m2.below (w':=W0) (B:=ob + 1 + 1 + 1 + 1 + 1) ?_ (by omega)
   rw [hW0]
   exact (Below.refl _ _).alloc (by omega) _
 have hE0:EnvP (ob + 1 + 1 + 1) W0:=(hE.below hBW).raise (by omega) (by omega)
 have HF:=Lib.hid (fields_words hE0.env)
 have HBW:=Lib.hid hBW
 have HOB:=Lib.hid hob
 have HS0:=Lib.hid hS0
 obtain ⟨rb,hrb⟩:∃ rb,rb=ob + 1 + 1 + 1 + 1 + 1:=⟨_,rfl⟩
 obtain ⟨ml,hml⟩:∃ ml,ml=ob + 1 + 1 + 1 + 1:=⟨_,rfl⟩
 obtain ⟨mc,hmc⟩:∃ mc,mc=ob + 1 + 1 + 1:=⟨_,rfl⟩
 rw [← hrb,← hml,← hmc] at hR0 ⊢
 obtain ⟨BB,hBB⟩:∃ BB,BB=ob + 1 + 1 + 1:=⟨_,rfl⟩
 have HBB:=Lib.hid hBB
 have hR0':RdW BB W0 rb mc ml 0:=by rw [hBB,← hmc];exact hR0
 have hE0':EnvP BB W0:=by rw [hBB];exact hE0
 clear hW0 hob hS0 hrb hml hmc hBB hR0 hE0 hE hBW
 go_upto_region 4 with (go_at_call 64;refine (HF.out).mono ?_;rintro e w1 ⟨A,rfl,hownW,hb1⟩)
 have hR1:=hR0'.below hb1
 have hE1:=hE0'.below (hb1.mono hE0'.size)
 have HP1:=Lib.hid (hP0.below hb1 (by have:=HS0.out;omega))
 have HB1:Hid (Below w.heap.size w w1):=Lib.hid (HBW.out.trans (hb1.mono (by have:=HS0.out;have:=HOB.out;omega)))
 have HE1:=Lib.hid hE1
 have hRd:=Reads.of_own hownW
 clear hR0' hE0' hP0 hownW hb1 hE1
 go_loopg [6,7,23] 41 (fun gk _ _ iv wr=>∃ i:Nat,iv=.int .i64 i∧i ≤ 41∧gk=41 - i∧RdW BB wr rb mc ml i∧Below BB w1 wr∧Reads wr w1.heap.size 1 (some ⟨A,0,none⟩) 41 wordV)
 case atStart=>exact ⟨0,rfl,Nat.zero_le _,rfl,hR1,Below.refl _ _,hRd⟩
 case round =>
  obtain ⟨i,rfl,hi,hgk,hRi,hbi,hRdi⟩:=hrel
  have HG:=Lib.hid hgk
  clear hgk hR1 hRd
  by_cases hil:i < 41
  ·have e1:decide ((i:Int) < 41)=true:=decide_eq_true (by omega)
   have e2:decide (i < 41)=true:=decide_eq_true hil
   obtain ⟨b,off,hbo,hbw,hcx⟩:=reads_flat hRdi (by omega) (by omega)
   cases hbo
   obtain ⟨q,hq⟩:∃ q:ByteArray,q=⟨(wordsB.getD i []).toArray⟩:=⟨_,rfl⟩
   have cx:wr.cell? ⟨A,i,none⟩=some (.string q):=by
    have h:=hcx i (.string q) (by
     unfold wordV
     rw [List.getElem?_map,List.getElem?_eq_getElem (by rw [words_len];exact hil),hq,List.getD_eq_getElem?_getD,List.getElem?_eq_getElem (by rw [words_len];exact hil)]
     rfl)
    rwa [Nat.zero_add] at h
   have hql:q.data.toList=wordsB.getD i []:=by rw [hq]
   have hqs:q.size ≤ maxLen:=by
    have h1:q.size=q.data.toList.length:=Array.length_toList.symm
    have:=word_len i
    rw [h1,hql];unfold maxLen;omega
   have hAl:A < wr.heap.size:=Nat.lt_of_lt_of_le hbw hbi.size
   have r0:wr.cell? ⟨rb,0,none⟩=some (.map (some mc)):=(hRi.blk.cell 0).trans rfl
   have hrl:=hRi.blk.lt
   have HQL:=Lib.hid hql
   have HRI:=Lib.hid hRi
   have HBI:=Lib.hid hbi
   have HRD:=Lib.hid hRdi
   have hC:=hRi.codes
   have him:i < maxLen:=by unfold maxLen;omega
   clear hcx hq hql hRi hbi hRdi
   go_wp2_with (refine wpList_smap_put _ rfl (.tmp 31) (.tmp 32) (.tmp 33) rfl mc i (codeFi i) rfl hC him q hqs i (by omega) rfl rfl ?_;intro w2 hm2 hg2)
   rw [HQL.out] at hm2
   obtain ⟨hb2,hR2⟩:=HRI.out.put hil hg2 hm2 (HE1.out.below HBI.out).size
   go_roundg (41 - (i + 1))
   case measure=>have:=HG.out;omega
   case rel=>exact ⟨i + 1,by simp,by omega,rfl,hR2,HBI.out.trans hb2,HRD.out.past hg2 hC.obj⟩
  ·have e1:decide ((i:Int) < 41)=false:=decide_eq_false (by omega)
   have e2:decide (i < 41)=false:=decide_eq_false hil
   obtain rfl:i=41:=by omega
   have hR:=hRi.done
   have HPW:=Lib.hid (HP1.out.below hbi (by have:=HBB.out;omega))
   have HEW:=Lib.hid (HE1.out.below hbi)
   have HBW2:Hid (Below w.heap.size w wr):=Lib.hid (HB1.out.trans (hbi.mono (by have:=HBB.out;have:=HOB.out;omega)))
   clear hRi hbi hRdi
   go_upto_region 9 with fail
   obtain ⟨mx,hmx⟩:=HEW.out.m
   have hsp0:=Tryz.strings_Split s ⟨#[10]⟩ mx wr (by omega) hmx (by decide)
   obtain ⟨hsl1,hsl2⟩:=split_lines s
   rw [hsl1,hsl2] at hsp0
   obtain ⟨LS,hLS⟩:∃ LS,LS=splitF 10 s.data.toList:=⟨_,rfl⟩
   rw [← hLS] at hsp0
   obtain ⟨N,hN⟩:∃ N,N=LS.length:=⟨_,rfl⟩
   rw [← hN] at hsp0
   obtain ⟨w5,hw5⟩:∃ w5,w5=wr.alloc (.cells ((LS.map fun l=>(⟨l.toArray⟩:ByteArray)).map Value.string).toArray 9):=⟨_,rfl⟩
   rw [← hw5] at hsp0
   have hB5:Below wr.heap.size wr w5:=hw5 ▸ (Below.refl _ _).alloc (Nat.le_refl _) _
   have hK5:Blk w5 wr.heap.size 9 ((LS.map fun l=>(⟨l.toArray⟩:ByteArray)).map Value.string).toArray:=hw5 ▸ Blk.new wr _ _
   have HSP:=Lib.hid hsp0
   have hR5:=hR.below (B':=BB) hB5
   have HE5:=Lib.hid (HEW.out.below (hB5.mono HEW.out.size))
   have HPW5:=Lib.hid (HPW.out.below hB5 (Nat.lt_of_lt_of_le (by have:=HBB.out;omega) HEW.out.size))
   have HB5:Hid (Below w.heap.size w w5):=Lib.hid (HBW2.out.trans (hB5.mono HBW2.out.size))
   have HLS:=Lib.hid hLS
   have HNN:=Lib.hid hN
   clear hsp0 hsl1 hsl2 hLS hN hw5 hB5 hR hmx
   go_upto_region 10 with (go_at_call 43;refine (HSP.out).mono ?_;rintro e w6 ⟨rfl,hw6⟩;obtain rfl:=hw6.symm)
   obtain ⟨cs5,hcs5⟩:∃ cs5,cs5=((LS.map fun l=>(⟨l.toArray⟩:ByteArray)).map Value.string).toArray:=⟨_,rfl⟩
   rw [← hcs5] at hK5
   have HC5:=Lib.hid hcs5
   obtain ⟨lb,hlb⟩:∃ lb,lb=wr.heap.size:=⟨_,rfl⟩
   rw [← hlb] at hK5 ⊢
   have HLB:=Lib.hid hlb
   obtain ⟨zf,hzf⟩:∃ zf,zf=fromF LS 0:=⟨_,rfl⟩
   clear hcs5 hlb
   go_loopg [8,10,38] N (fun gk fv _ jv W=>∃ (j:Nat) (r:RSt) (lv:Value),jv=.int .i64 j∧j ≤ N∧gk=N - j∧fv=.int .i64 (fromF LS j)∧linesL ⟨[],[]⟩ ((toksFrom 0 LS).take j)=.ok r∧r.labels.length ≤ j∧RdIs BB W rb mc ml lv r∧Below BB w5 W∧Blk W lb 9 cs5)
   case atStart=>exact ⟨0,⟨[],[]⟩,_,rfl,Nat.zero_le _,rfl,rfl,rfl,Nat.zero_le _,hR5,Below.refl _ _,hK5⟩
   case round =>
    obtain ⟨j,r,lv,rfl,hj,hgk,rfl,hlin,hlb2,hRj,hbj,hKj⟩:=hrel
    have HG2:=Lib.hid hgk
    have HLIN:=Lib.hid hlin
    clear hgk hlin hR5 hK5 hzf
    by_cases hjN:j < N
    ·have e1:decide ((j:Int) < (N:Int))=true:=decide_eq_true (by omega)
     have e2:decide (j < N)=true:=decide_eq_true hjN
     have hjl:j < LS.length:=by rw [← HNN.out];exact hjN
     obtain ⟨q,hq⟩:∃ q:ByteArray,q=⟨(LS[j]).toArray⟩:=⟨_,rfl⟩
     have hql:q.data.toList=LS[j]:=by rw [hq]
     have cq:wr.cell? ⟨lb,j,none⟩=some (.string q):=by
      rw [hKj.cell j,HC5.out,hq]
      simp [hjl]
     have hlbl:=hKj.lt
     have HQ:=Lib.hid hql
     have HKJ:=Lib.hid hKj
     have HRJ:=Lib.hid hRj
     have HBJ:=Lib.hid hbj
     have HJL:=Lib.hid hjl
     have key:∀ (X:List (List UInt8)) (h:X=splitF 10 s.data.toList) (hj:j < X.length),fromF X j + (X[j]).length ≤ s.data.toList.length:=by
      intro X h hj
      subst h
      exact line_bound 10 _ j hj
     have hkey:=key LS HLS.out hjl
     have hqz:q.size=(LS[j]).length:=by rw [hq];show (LS[j]).toArray.size=_;simp
     have hsz:s.data.toList.length=s.size:=Array.length_toList
     have hfl:fromF LS j + q.size ≤ 67108864:=by omega
     have hEj:=HE5.out.below hbj
     obtain ⟨my,hmy⟩:=hEj.m
     obtain ⟨fj,hfj⟩:∃ fj,fj=fromF LS j:=⟨_,rfl⟩
     rw [← hfj] at hfl ⊢
     have HTK:=Lib.hid (tokens_any q fj my wr (by omega) (by omega) hmy)
     have HEJ:=Lib.hid hEj
     have HFJ:=Lib.hid hfj
     clear hq hql hKj hRj hbj key hkey hqz hsz hEj hmy hfj
     go_upto_region 12 with fail
     go_wp2_with (go_at_call 138;refine HTK.out.mono ?_;rintro e w7 ⟨hb7,v7,rfl,hown7⟩)
     obtain ⟨R7,c7,rfl,hc7,hRd7⟩:=own_shapes hown7
     have hNb:N ≤ 67108865:=by
      rw [HNN.out,HLS.out,splitF_length]
      have h1:=List.count_le_length (a:=(10:UInt8)) (l:=s.data.toList)
      have h2:s.data.toList.length=s.size:=Array.length_toList
      omega
     have hqn:q.data.toList.length=q.size:=Array.length_toList
     have hL:=line_asm (HEJ.out.below (hb7.mono HEJ.out.size)) (HRJ.out.below (B':=BB) hb7) (lineTok q.data.toList fj) R7 _ c7 hRd7 hc7
      (fun t ht=>by have:=lineTok_bound q.data.toList fj t ht;omega) (by have:=lineTok_count q.data.toList fj;omega) (by omega)
     refine hL.mono ?_
     rintro e w8 ⟨hb8,hp8⟩
     cases hx:lineL r (lineTok q.data.toList fj) with
     | error y =>
      rw [hx] at hp8
      subst hp8
      have HB8:Hid (Below BB w5 w8):=Lib.hid (HBJ.out.trans ((hb7.mono HEJ.out.size).trans hb8))
      have HP8:=Lib.hid (HPW5.out.below HB8.out (by have:=HBB.out;omega))
      have HX:=Lib.hid hx
      clear hb7 hb8 hx hown7 hRd7
      go_wp2
      refine door_fault rfl rfl rfl HP8.out.o HP8.out.e HP8.out.a fun w' hF=>?_
      refine ⟨?_,?_⟩
      ·have hfl:linesL ⟨[],[]⟩ (lineToks s.data.toList)=.error y:=by
        rw [lineToks_split,← HLS.out]
        refine linesL_fail HLIN.out (toksFrom_get LS 0 j HJL.out) ?_
        rw [Nat.zero_add,← HQ.out,← HFJ.out]
        exact HX.out
       have:parseF s.data.toList=.error y:=by unfold parseF;rw [hfl]
       rw [this]
       rfl
      ·refine (HB5.out.trans (HB8.out.mono (by have:=HBB.out;have:=HOB.out;omega))).trans (hF.below ?_ ?_)
       ·exact Nat.le_trans HB5.out.size HB8.out.size
       ·intro q hq
        have:=HOB.out
        rcases hq with rfl | rfl | rfl <;> omega
     | ok r' =>
      rw [hx] at hp8
      obtain ⟨rfl,lv',hR8,hF8⟩:=hp8
      have hKx:Blk w8 lb 9 cs5:=by
       have h7:w7.heap[lb]?=_:=(hb7.block lb hlbl).trans HKJ.out
       have hR7:=HRJ.out.below (B':=BB) hb7
       refine (hF8.block lb (Nat.lt_of_lt_of_le hlbl hb7.size) ?_).trans h7
       rintro (h | h | h)
       ·exact (Blk.ne_ (w:=w7) h7 hR7.blk (by decide)) h
       ·exact hR7.labs.ne_blk (g:=lb) h7 h.symm
       ·exact own_ne_blk hR7.own (b:=lb) h7 (by decide) h
      have HKX:=Lib.hid hKx
      have HX:=Lib.hid hx
      have HR8:=Lib.hid hR8
      have HB8:Hid (Below BB w5 w8):=Lib.hid (HBJ.out.trans ((hb7.mono HEJ.out.size).trans hb8))
      clear hKx hx hR8 hF8 hb7 hb8 hown7 hRd7
      go_wp2
      go_roundg (N - (j + 1))
      case measure=>have:=HG2.out;omega
      case rel =>
       have hz:(LS[j]'HJL.out).length=q.size:=by rw [← HQ.out];exact Array.length_toList
       refine ⟨j + 1,r',lv',by simp,by omega,rfl,?_,?_,?_,HR8.out,HB8.out,HKX.out⟩
       ·rw [fromF_succ LS j HJL.out,hz,← HFJ.out]
        congr 1
       ·rw [List.take_add_one,toksFrom_get LS 0 j HJL.out,linesL_app,HLIN.out]
        have hq3:lineTok (LS[j]'HJL.out) (0 + fromF LS j)=lineTok q.data.toList fj:=by
         rw [Nat.zero_add,HFJ.out]
         exact congrArg (fun l=>lineTok l (fromF LS j)) HQ.out.symm
        show linesL r [lineTok (LS[j]'HJL.out) (0 + fromF LS j)]=_
        rw [hq3,linesL_cons,HX.out]
        rfl
       ·have:=lineL_labels HX.out
        omega
    ·have e1:decide ((j:Int) < (N:Int))=false:=decide_eq_false (by omega)
     have e2:decide (j < N)=false:=decide_eq_false hjN
     obtain rfl:j=N:=by omega
     have HLN:Hid (linesL ⟨[],[]⟩ (lineToks s.data.toList)=.ok r):=Lib.hid (by
      have h1:=HLIN.out
      rw [List.take_of_length_le (by
       have:(toksFrom 0 LS).length ≤ LS.length:=toksFrom_len LS 0
       have:=HNN.out
       omega)] at h1
      rw [lineToks_split,← HLS.out]
      exact h1)
     have HGD:=Lib.hid (Good.start.linesL HLN.out)
     obtain ⟨R,c,rfl,hnc,hRds⟩:=own_shapes hRj.own
     have r2:wr.cell? ⟨rb,2,none⟩=some (.slice R r.ins.length c):=(hRj.blk.cell 2).trans rfl
     have hrl:=hRj.blk.lt
     have HRJ:=Lib.hid hRj
     have HW3:Hid (Below w.heap.size w wr):=Lib.hid (HB5.out.trans (hbj.mono (by have:=HBB.out;have:=HOB.out;omega)))
     have HP3:=Lib.hid (HPW5.out.below hbj (by have:=HBB.out;omega))
     have HE3:=Lib.hid (HE5.out.below hbj)
     have HRD:=Lib.hid hRds
     obtain ⟨n,hn⟩:∃ n,n=r.ins.length:=⟨_,rfl⟩
     have HN3:=Lib.hid hn
     rw [← hn] at r2 HRD
     have HPB:Hid (ob + 1 + 1 < wr.heap.size):=Lib.hid HP3.out.a.lt
     clear hRj hbj hRds hn hKj
     go_upto_region 17 with fail
     obtain ⟨w3,hw3⟩:∃ w3,w3=wr:=⟨_,rfl⟩
     rw [← hw3] at r2 hrl HRJ HW3 HP3 HE3 HRD HPB ⊢
     clear hw3
     obtain ⟨i0,hi0,hz0,hz1,hz2⟩:=info_parts info_op
     go_loopg [11,13,14,15,58] n (fun gk v _ _ _ iv W=>∃ (i:Nat) (L:List AOp),iv=.int .i64 i∧i ≤ n∧gk=n - i∧W.ownsRow w3.heap.size 113 2 v i (rows opc L)∧resL r.labels (r.ins.take i)=.ok L∧Below w3.heap.size w3 W)
     case atStart=>exact ⟨0,[],rfl,Nat.zero_le _,rfl,World.ownsRow_nil _ _ _ _,rfl,Below.refl _ _⟩
     case round =>
      obtain ⟨i,L,rfl,hi,hgk,hown,hres,hbl⟩:=hrel
      have HG:=Lib.hid hgk
      have HRS:=Lib.hid hres
      clear hgk hres
      by_cases hin:i < n
      ·have e1:decide ((i:Int) < (n:Int))=true:=decide_eq_true (by omega)
       have e2:decide (i < n)=true:=decide_eq_true hin
       have hil:i < r.ins.length:=by rw [← HN3.out];exact hin
       obtain ⟨b,off,q,rfl,hb,c0,c1,c2,c3,c4,hq,_⟩:=ins_cells (HRD.out.below hbl) i hil
       have hbw:b < wr.heap.size:=Nat.lt_of_lt_of_le hb hbl.size
       obtain ⟨x,hx⟩:∃ x,x=r.ins[i]:=⟨_,rfl⟩
       rw [← hx] at c0 c1 c2 c4 hq
       have HX:=Lib.hid hx
       have HQ:=Lib.hid hq
       have HIL:=Lib.hid hil
       have HBL:=Lib.hid hbl
       have HOW:=Lib.hid hown
       clear hx hq hbl hown
       go_upto_region 19 with fail
       obtain ⟨W1,hW1⟩:∃ W1,W1=wr.alloc (.cells #[.int .i64 x.code,.int .i64 x.operand,.int .i64 x.pos,.string q,.int .i64 x.name.pos] 204):=⟨_,rfl⟩
       obtain ⟨xb,hxb⟩:∃ xb,xb=wr.heap.size:=⟨_,rfl⟩
       rw [← hW1,← hxb]
       have hXB:Blk W1 xb 204 #[.int .i64 x.code,.int .i64 x.operand,.int .i64 x.pos,.string q,.int .i64 x.name.pos]:=by rw [hW1,hxb];exact Blk.new wr _ _
       have HBL1:Hid (Below w3.heap.size w3 W1):=Lib.hid (hW1 ▸ HBL.out.alloc HBL.out.size _)
       have HOW1:Hid (W1.ownsRow w3.heap.size 113 2 u11 i (rows opc L)):=Lib.hid (hW1 ▸ HOW.out.alloc _)
       have HXW:Hid (w3.heap.size ≤ xb):=Lib.hid (hxb ▸ HBL.out.size)
       clear hW1 hxb c0 c1 c2 c3 c4 hbw
       have x0:W1.cell? ⟨xb,0,none⟩=some (.int .i64 x.code):=(hXB.cell 0).trans rfl
       have x1:W1.cell? ⟨xb,1,none⟩=some (.int .i64 x.operand):=(hXB.cell 1).trans rfl
       have x2:W1.cell? ⟨xb,2,none⟩=some (.int .i64 x.pos):=(hXB.cell 2).trans rfl
       have x3:W1.cell? ⟨xb,3,none⟩=some (.string q):=(hXB.cell 3).trans rfl
       have x4:W1.cell? ⟨xb,4,none⟩=some (.int .i64 x.name.pos):=(hXB.cell 4).trans rfl
       have hxl:=hXB.lt
       have hn512:n ≤ 512:=by have h1:=HRJ.out.len;have h2:=HRJ.out.size;have:=HN3.out;omega
       have hgd:=HGD.out.ins x (HX.out ▸ List.getElem_mem _)
       obtain ⟨gd1,gd2,_,_,gd5⟩:=hgd
       have HXB:=Lib.hid hXB
       have HPX:=Lib.hid (HP3.out.below HBL1.out (HPB.out))
       clear hXB
       by_cases hnm:x.name.s=[]
       ·have y1:(q.toList == [])=true:=by rw [ByteArray.toList_eq,HQ.out,hnm];rfl
        have HONE:Hid (resOne r.labels x=.ok ⟨x.code,x.operand⟩):=Lib.hid (by unfold resOne;rw [if_pos hnm];rfl)
        clear hnm
        have hc2:∀ u ∈ ([.int .i64 x.code,.int .i64 x.operand]:List Value),u.oneCell'=true:=by intro u hu;simp at hu;rcases hu with rfl | rfl <;> rfl
        have hc3:i + 1 ≤ maxLen:=by unfold maxLen;omega
        have hc4:(i + 1) * 16 ≤ 140737488355328:=by omega
        have hbs:=HBL1.out.size
        have hc5:w3.heap.size ≤ (W1.alloc (.cells #[.int .i64 x.code,.int .i64 x.operand] 113)).heap.size:=by simp;omega
        go_wp2_with (at_builtin;go_must (refine wpList_append_own _ rfl _ _ 108 rfl w3.heap.size 113 i0 (.agg #[.int .i64 0,.int .i64 0]) 2 16 Tryz.underlying108 hi0 hz0 hz1 hz2 rfl (by decide) _ _ _ rfl (HOW1.out.alloc _) ⟨W1.heap.size,0,none⟩ 1 1 [.int .i64 x.code,.int .i64 x.operand] rfl rfl (World.news_of_block (cs:=#[.int .i64 x.code,.int .i64 x.operand]) (t:=113) (fr:=(0,0)) (by simpa using heap_alloc_new W1 (.cells #[.int .i64 x.code,.int .i64 x.operand] 113))) hc2 hc3 hc4 hc5 ?_;intro v' w2 hown2 hgrow _))
        have hbf:Below w3.heap.size w3 w2:=(HBL1.out.alloc hbs _).trans (below_grown (HOW1.out.alloc _) hgrow hc5)
        clear hgrow
        go_roundg (n - (i + 1))
        case measure=>have:=HG.out;omega
        case rel=>exact ⟨i + 1,L ++ [⟨x.code,x.operand⟩],by simp,by omega,rfl,by rw [rows_snoc];exact hown2,by rw [resL_take r.labels r.ins i HIL.out,HRS.out];simp only;rw [← HX.out,HONE.out],hbf⟩
       ·have y1:(q.toList == [])=false:=by
         rw [beq_eq_false_iff_ne,ByteArray.toList_eq,HQ.out]
         exact fun e=>hnm (by simpa using e)
        have hRW:=HRJ.out.below (B':=BB) HBL1.out
        have r1:W1.cell? ⟨rb,1,none⟩=some (.map (some ml)):=(hRW.blk.cell 1).trans rfl
        have hrl1:=hRW.blk.lt
        have HNM:=Lib.hid hnm
        have hqs:q.size ≤ maxLen:=by
         have e1:q.size=q.data.toList.length:=Array.length_toList.symm
         rw [e1,HQ.out];unfold maxLen;simp;omega
        have hlk:=fun nq=>(hRW.labs.drewN nq).look q hqs
        have hqq:q.data.toList=x.name.s:=by rw [HQ.out]
        rw [hqq] at hlk
        clear hRW hqq hqs hnm
        cases hlab:labF2 r.labels x.name.s with
        | none =>
         have HERR:Hid (resL r.labels r.ins=.error (11,x.name.pos)):=Lib.hid (resL_fail r.labels r.ins i HIL.out HRS.out (by rw [← HX.out];unfold resOne;rw [if_neg HNM.out,hlab]))
         simp only [hlab] at hlk
         clear hlab
         go_upto_region 20 with fail
         go_quiet (fail)
         go_wp2_with (go_at_call 139;refine (fail_any _ _ _).mono ?_;rintro r w2 ⟨hr,hw⟩;subst hr;subst hw)
         refine door_fault rfl rfl rfl (HPX.out.o.drewN _) (HPX.out.e.drewN _) (HPX.out.a.drewN _) fun w' hF=>?_
         refine ⟨?_,?_⟩
         ·have:parseF s.data.toList=.error (11,x.name.pos):=by unfold parseF;rw [HLN.out];exact HERR.out
          rw [this]
          rfl
         ·refine (below_drewN (HW3.out.trans (HBL1.out.mono HW3.out.size)) _).trans (hF.below ?_ ?_)
          ·exact Nat.le_trans HW3.out.size HBL1.out.size
          ·intro q hq
           have:=HOB.out
           rcases hq with rfl | rfl | rfl <;> omega
        | some k =>
         simp only [hlab] at hlk
         have hk5:=labF2_le HGD.out hlab
         have HLB2:=Lib.hid hlab
         clear hlab
         go_upto_region 20 with fail
         go_quiet (fail)
         obtain ⟨wq,hwq⟩:∃ wq,wq=W1.drewN nq:=⟨_,rfl⟩
         rw [← hwq]
         have hXq:Blk wq xb 204 #[.int .i64 x.code,.int .i64 x.operand,.int .i64 x.pos,.string q,.int .i64 x.name.pos]:=hwq ▸ HXB.out.drewN nq
         have HBQ:Hid (Below w3.heap.size w3 wq):=Lib.hid (hwq ▸ below_drewN HBL1.out _)
         have HOQ:Hid (wq.ownsRow w3.heap.size 113 2 u11 i (rows opc L)):=Lib.hid (hwq ▸ own_drewN HOW1.out)
         clear hwq hlk x0 x1 x2 x3 x4 HBL1 HOW1 hrl1 r1 hxl
         have x0:wq.cell? ⟨xb,0,none⟩=some (.int .i64 x.code):=(hXq.cell 0).trans rfl
         have x1:wq.cell? ⟨xb,1,none⟩=some (.int .i64 x.operand):=(hXq.cell 1).trans rfl
         have x2:wq.cell? ⟨xb,2,none⟩=some (.int .i64 x.pos):=(hXq.cell 2).trans rfl
         have xf:wq.frozen? ⟨xb,1,none⟩=false:=hXq.frozen 1
         have hxl:=hXq.lt
         have HXQ:=Lib.hid hXq
         clear hXq
         by_cases h26:x.code=26
         ·have t26:((x.code:Int) != 26)=false:=by simp;omega
          have HONE:Hid (resOne r.labels x=.ok ⟨x.code,(k:Int)⟩):=Lib.hid (by unfold resOne;rw [if_neg HNM.out,HLB2.out];simp only;rw [if_pos h26])
          clear h26
          go_upto_region 26 with fail
          obtain ⟨W2,hW2⟩:∃ W2,W2=wq.setCell ⟨xb,1,none⟩ (.int .i64 k):=⟨_,rfl⟩
          rw [← hW2]
          have hX2:Blk W2 xb 204 #[.int .i64 x.code,.int .i64 k,.int .i64 x.pos,.string q,.int .i64 x.name.pos]:=hW2 ▸ HXQ.out.set_ 1 (.int .i64 k)
          have HBL1:Hid (Below w3.heap.size w3 W2):=Lib.hid (hW2 ▸ HBQ.out.setCell HXW.out _)
          have HOW1:Hid (W2.ownsRow w3.heap.size 113 2 u11 i (rows opc L)):=Lib.hid (hW2 ▸ own_set HOQ.out HXQ.out (by decide) _)
          clear hW2 x0 x1 x2 xf hxl
          have x0:W2.cell? ⟨xb,0,none⟩=some (.int .i64 x.code):=(hX2.cell 0).trans rfl
          have x1:W2.cell? ⟨xb,1,none⟩=some (.int .i64 k):=(hX2.cell 1).trans rfl
          have hxl:=hX2.lt
          clear hX2
          have hc2:∀ u ∈ ([.int .i64 x.code,.int .i64 k]:List Value),u.oneCell'=true:=by intro u hu;simp at hu;rcases hu with rfl | rfl <;> rfl
          have hc3:i + 1 ≤ maxLen:=by unfold maxLen;omega
          have hc4:(i + 1) * 16 ≤ 140737488355328:=by omega
          have hbs:=HBL1.out.size
          have hc5:w3.heap.size ≤ (W2.alloc (.cells #[.int .i64 x.code,.int .i64 k] 113)).heap.size:=by simp;omega
          go_wp2_with (at_builtin;go_must (refine wpList_append_own _ rfl _ _ 108 rfl w3.heap.size 113 i0 (.agg #[.int .i64 0,.int .i64 0]) 2 16 Tryz.underlying108 hi0 hz0 hz1 hz2 rfl (by decide) _ _ _ rfl (HOW1.out.alloc _) ⟨W2.heap.size,0,none⟩ 1 1 [.int .i64 x.code,.int .i64 k] rfl rfl (World.news_of_block (cs:=#[.int .i64 x.code,.int .i64 k]) (t:=113) (fr:=(0,0)) (by simpa using heap_alloc_new W2 (.cells #[.int .i64 x.code,.int .i64 k] 113))) hc2 hc3 hc4 hc5 ?_;intro v' w2 hown2 hgrow _))
          have hbf:Below w3.heap.size w3 w2:=(HBL1.out.alloc hbs _).trans (below_grown (HOW1.out.alloc _) hgrow hc5)
          clear hgrow
          go_roundg (n - (i + 1))
          case measure=>have:=HG.out;omega
          case rel=>exact ⟨i + 1,L ++ [⟨x.code,k⟩],by simp,by omega,rfl,by rw [rows_snoc];exact hown2,by rw [resL_take r.labels r.ins i HIL.out,HRS.out];simp only;rw [← HX.out,HONE.out],hbf⟩
         ·have t26:((x.code:Int) != 26)=true:=by simp;omega
          have HONE:Hid (resOne r.labels x=.ok ⟨x.code,(k:Int) - ((x.pos:Int) + 3)⟩):=Lib.hid (by unfold resOne;rw [if_neg HNM.out,HLB2.out];simp only;rw [if_neg h26])
          clear h26
          go_upto_region 26 with fail
          obtain ⟨W2,hW2⟩:∃ W2,W2=wq.setCell ⟨xb,1,none⟩ (.int .i64 ((k:Int) - ((x.pos:Int) + 3))):=⟨_,rfl⟩
          rw [← hW2]
          have hX2:Blk W2 xb 204 #[.int .i64 x.code,.int .i64 ((k:Int) - ((x.pos:Int) + 3)),.int .i64 x.pos,.string q,.int .i64 x.name.pos]:=hW2 ▸ HXQ.out.set_ 1 (.int .i64 ((k:Int) - ((x.pos:Int) + 3)))
          have HBL1:Hid (Below w3.heap.size w3 W2):=Lib.hid (hW2 ▸ HBQ.out.setCell HXW.out _)
          have HOW1:Hid (W2.ownsRow w3.heap.size 113 2 u11 i (rows opc L)):=Lib.hid (hW2 ▸ own_set HOQ.out HXQ.out (by decide) _)
          clear hW2 x0 x1 x2 xf hxl
          have x0:W2.cell? ⟨xb,0,none⟩=some (.int .i64 x.code):=(hX2.cell 0).trans rfl
          have x1:W2.cell? ⟨xb,1,none⟩=some (.int .i64 ((k:Int) - ((x.pos:Int) + 3))):=(hX2.cell 1).trans rfl
          have hxl:=hX2.lt
          clear hX2
          have hc2:∀ u ∈ ([.int .i64 x.code,.int .i64 ((k:Int) - ((x.pos:Int) + 3))]:List Value),u.oneCell'=true:=by intro u hu;simp at hu;rcases hu with rfl | rfl <;> rfl
          have hc3:i + 1 ≤ maxLen:=by unfold maxLen;omega
          have hc4:(i + 1) * 16 ≤ 140737488355328:=by omega
          have hbs:=HBL1.out.size
          have hc5:w3.heap.size ≤ (W2.alloc (.cells #[.int .i64 x.code,.int .i64 ((k:Int) - ((x.pos:Int) + 3))] 113)).heap.size:=by simp;omega
          go_wp2_with (at_builtin;go_must (refine wpList_append_own _ rfl _ _ 108 rfl w3.heap.size 113 i0 (.agg #[.int .i64 0,.int .i64 0]) 2 16 Tryz.underlying108 hi0 hz0 hz1 hz2 rfl (by decide) _ _ _ rfl (HOW1.out.alloc _) ⟨W2.heap.size,0,none⟩ 1 1 [.int .i64 x.code,.int .i64 ((k:Int) - ((x.pos:Int) + 3))] rfl rfl (World.news_of_block (cs:=#[.int .i64 x.code,.int .i64 ((k:Int) - ((x.pos:Int) + 3))]) (t:=113) (fr:=(0,0)) (by simpa using heap_alloc_new W2 (.cells #[.int .i64 x.code,.int .i64 ((k:Int) - ((x.pos:Int) + 3))] 113))) hc2 hc3 hc4 hc5 ?_;intro v' w2 hown2 hgrow _))
          have hbf:Below w3.heap.size w3 w2:=(HBL1.out.alloc hbs _).trans (below_grown (HOW1.out.alloc _) hgrow hc5)
          clear hgrow
          go_roundg (n - (i + 1))
          case measure=>have:=HG.out;omega
          case rel=>exact ⟨i + 1,L ++ [⟨x.code,((k:Int) - ((x.pos:Int) + 3))⟩],by simp,by omega,rfl,by rw [rows_snoc];exact hown2,by rw [resL_take r.labels r.ins i HIL.out,HRS.out];simp only;rw [← HX.out,HONE.out],hbf⟩
      ·have e1:decide ((i:Int) < (n:Int))=false:=decide_eq_false (by omega)
       have e2:decide (i < n)=false:=decide_eq_false hin
       obtain rfl:i=n:=by omega
       have HRL:Hid (resL r.labels r.ins=.ok L):=Lib.hid (by
        have h1:=HRS.out
        rwa [List.take_of_length_le (by rw [← HN3.out];exact Nat.le_refl _)] at h1)
       have hgood:=resL_good HGD.out r.ins L (fun _ h=>h) HRL.out
       have hsz:(bytesOf L).length ≤ 512:=by rw [resL_size HGD.out HRL.out];exact HRJ.out.size
       have hi512:i ≤ 512:=by have h1:=HRJ.out.len;have h2:=HRJ.out.size;have:=HN3.out;omega
       obtain ⟨R2,c2,rfl,hc2,hRd2⟩:=own_shapes hown
       have HENC:=Lib.hid (enc_ok L R2 i c2 wr (HE3.out.below (hbl.mono HE3.out.size)).env.here.shapes hRd2 hi512 hgood.1 hsz)
       have HP4:=Lib.hid (HP3.out.below hbl HPB.out)
       have HOB4:Hid (ob + 1 + 1 < wr.heap.size):=Lib.hid (Nat.lt_of_lt_of_le HPB.out hbl.size)
       have HW4:Hid (Below w.heap.size w wr):=Lib.hid (HW3.out.trans (hbl.mono HW3.out.size))
       have HPF:Hid (parseF s.data.toList=.ok L):=Lib.hid (by unfold parseF;rw [HLN.out];exact HRL.out)
       obtain ⟨out,hout⟩:∃ out:ByteArray,out=⟨(bytesOf L).toArray⟩:=⟨_,rfl⟩
       rw [← hout] at HENC
       have HOUT:=Lib.hid hout
       clear hgood hsz hown hRd2 hbl hout r2 hrl
       have z1:ob ≠ ob + 1:=by omega
       have z2:ob ≠ ob + 1 + 1:=by omega
       have z3:ob + 1 ≠ ob + 1 + 1:=by omega
       go_wp2_with (go_at_call 100;refine HENC.out.mono ?_;rintro e w4 ⟨rfl,hb4⟩;have P4:=HP4.out.below hb4 HOB4.out;have p0:w4.cell? ⟨ob,0,none⟩=some (.string ⟨#[]⟩):=(P4.o.cell 0).trans rfl;have p1:w4.cell? ⟨ob + 1,0,none⟩=some (.int .i64 0):=(P4.e.cell 0).trans rfl;have p2:w4.cell? ⟨ob + 1 + 1,0,none⟩=some (.int .i64 0):=(P4.a.cell 0).trans rfl;have f0:=P4.o.frozen 0;have f1:=P4.e.frozen 0;have f2:=P4.a.frozen 0;have l0:=P4.o.lt;have l1:=P4.e.lt;have l2:=P4.a.lt)
       refine door_idle (v0:=out) (v1:=0) (v2:=0) rfl rfl rfl (by simp [go_sem,p0,p1,p2,z1,z2,z3,Ne.symm z1,Ne.symm z2,Ne.symm z3]) (by simp [go_sem,p0,p1,p2,z1,z2,z3,Ne.symm z1,Ne.symm z2,Ne.symm z3]) (by simp [go_sem,p0,p1,p2,z1,z2,z3,Ne.symm z1,Ne.symm z2,Ne.symm z3]) ?_
       refine ⟨?_,?_⟩
       ·rw [HPF.out,HOUT.out]
        rfl
       ·have hB4:Below w.heap.size w w4:=HW4.out.trans (hb4.mono HW4.out.size)
        have hq:=HOB.out
        exact (((hB4.setCell (show w.heap.size ≤ ob by omega) _).setCell (show w.heap.size ≤ ob by omega) _).setCell (show w.heap.size ≤ ob + 1 by omega) _).setCell (show w.heap.size ≤ ob + 1 + 1 by omega) _
end Go.Proofs.YtiheggkkgbfndaaGreatDoor
namespace Go.Proofs.YtiheggkkgbfndaaGreatDoor
open Go.RowKit Go.Joins Go.ChangeShapes Go.WideShapes Go.Deep Go.Maps Go.Sort
set_option linter.unusedVariables false
set_option linter.unusedSimpArgs false
set_option maxRecDepth 100000
theorem rleads_any (c:Nat) (w:World):Calls Tryz.prog 104 #[.int .i64 c] w fun r w'=>r=.returned (.bool (leadsF c))∧w'=w:=by
 by_cases h24:c=24
 ·subst h24
  go_enter Tryz.func104,Tryz.ntmps104
  go_wp2
  go_ret
  exact ⟨rfl,rfl⟩
 ·by_cases h25:c=25
  ·subst h25
   go_enter Tryz.func104,Tryz.ntmps104
   go_wp2
   go_ret
   exact ⟨rfl,rfl⟩
  ·by_cases h26:c=26
   ·subst h26
    go_enter Tryz.func104,Tryz.ntmps104
    go_wp2
    go_ret
    exact ⟨rfl,rfl⟩
   ·have d1:((c:Int) == 24)=false:=by simp;omega
    have d2:((c:Int) == 25)=false:=by simp;omega
    have d3:((c:Int) == 26)=false:=by simp;omega
    have HL:Hid (leadsF c=false):=Lib.hid (by simp [leadsF,h24,h25,h26])
    go_enter Tryz.func104,Tryz.ntmps104
    go_wp2
    go_ret
    exact ⟨by rw [HL.out];rfl,rfl⟩
def plc (l:List Nat):List Value:=l.map fun (p:Nat)=>.int .i64 (p:Int)
theorem plc_at (l:List Nat) (i:Nat) (h:i < l.length):(plc l)[i]?=some (.int .i64 (l[i]:Int)):=by simp [plc,h]
theorem plc_snoc (l:List Nat) (x:Nat):plc (l ++ [x])=plc l ++ [.int .i64 (x:Int)]:=by simp [plc]
end Go.Proofs.YtiheggkkgbfndaaGreatDoor
