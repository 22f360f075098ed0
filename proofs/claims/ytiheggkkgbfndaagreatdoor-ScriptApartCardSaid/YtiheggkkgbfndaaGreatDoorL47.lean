/- carousellaw24: ScriptApart: the walk. -/
import Derived.Test.YtiheggkkgbfndaaGreatDoorL39
import Derived.Deep.RegionLaw
import Derived.Deep.CutRange
import Derived.Test.YtiheggkkgbfndaaGreatDoorL43
import Derived.Test.YtiheggkkgbfndaaGreatDoorL44
import Derived.Test.YtiheggkkgbfndaaGreatDoorL46
namespace Go.Proofs.YtiheggkkgbfndaaGreatDoor
open Go.RowKit Go.Joins Go.ChangeShapes Go.WideShapes Go.Deep
set_option linter.unusedVariables false
set_option linter.unusedSimpArgs false
set_option maxRecDepth 100000

theorem upd_self {ι α:Type} [DecidableEq ι] (V:ι→α) (p:ι):upd V p (V p)=V:=by
 funext i
 by_cases h:i=p
 ·rw [h,upd_same]
 ·rw [upd_ne V _ h]
theorem upd_upd {ι α:Type} [DecidableEq ι] (V:ι→α) (p:ι) (v v':α):upd (upd V p v) p v'=upd V p v':=by
 funext i
 by_cases h:i=p
 ·rw [h,upd_same,upd_same]
 ·rw [upd_ne _ _ h,upd_ne _ _ h,upd_ne _ _ h]
theorem own_at {B:Nat} {W:World} {e:TypeId} {v:Value} {l:List Int} (h:W.ownsRow B e 1 v l.length (rows i64C l)):∃ R c,v=.slice R l.length c∧(0 < l.length→∃ b,R=some ⟨b,0,none⟩∧B ≤ b∧b < W.heap.size):=by
 rcases h.2 with ⟨rfl,h0⟩ | ⟨g,cap,cur,rfl,hb,hh,_⟩
 ·exact ⟨none,0,by rw [h0],fun hn=>by omega⟩
 ·exact ⟨_,cap,rfl,fun _=>⟨g,rfl,hb,(Array.getElem?_eq_some_iff.1 hh).1⟩⟩
theorem own_cell {B b n c k:Nat} {W:World} {e:TypeId} {l:List Int} (h:W.ownsRow B e 1 (.slice (some ⟨b,0,none⟩) n c) l.length (rows i64C l)) {u:Int} (hu:l[k]?=some u):W.cell? ⟨b,k,none⟩=some (.int .i64 u):=by
 have h1:=h.cells (g:=b) rfl k (.int .i64 u) (by
  have h2:=rows_at i64C 1 (fun _=>rfl) l k 0 (List.getElem?_eq_some_iff.1 hu).1 (by omega)
  rw [Nat.mul_one,Nat.add_zero] at h2
  rw [h2,(List.getElem?_eq_some_iff.1 hu).2]
  rfl)
 rw [Addr.add_lit,Nat.zero_add] at h1
 exact h1
theorem set_upto {m k:Nat} {xs:List Int} {F:Nat→Int} (hl:xs.length=m) (hk:k < m) (h:∀ j,j < k→xs[j]?=some (F j)):∀ j,j < k + 1→(xs.set k (F k))[j]?=some (F j):=by
 intro j hj
 by_cases he:k=j
 ·subst he
  rw [List.getElem?_set_self (by omega)]
 ·rw [List.getElem?_set_ne he]
  exact h j (by omega)
theorem thr_steps {l:List PLine} {i:Nat} {x:PLine} (h:l[i]?=some x) (hs:stepsN l ≤ 20000):x.thr.length ≤ 20000:=by
 have h1:=steps_take l i x h
 have h2:=steps_le l (i + 1)
 omega
theorem apart_tab {B g n k:Nat} {W WA W':World} {t e:TypeId} {V:Nat→Value} {v:Value} {xs:List Value} (h:Tab W g t n V) (hA:Below W.heap.size W WA) (hv:W.ownsRow B e 1 v k xs) (hg:WA.grownBy W' v.ownBlock) (ht:e ≠ t):Tab W' g t n V:=by
 obtain ⟨cs,hcs⟩:=h.blk
 refine h.keep ((hg.block g (Nat.lt_of_lt_of_le h.lt hA.size) fun he=>own_ne_blk hv hcs ht he.symm).trans (hA.block g h.lt))
theorem Frm.blkk {B b:Nat} {W0 W:World} {ts:List TypeId} (h:Frm W0 W (St B W0 ts)) {t:TypeId} {cs:Array Value} (hb:Blk W0 b t cs) (ht:t ∉ ts):Blk W b t cs:=by
 unfold Blk at hb ⊢
 rw [h.kept hb ht]
 exact hb
theorem Frm.tabk {B g n:Nat} {W0 W:World} {ts:List TypeId} (h:Frm W0 W (St B W0 ts)) {t:TypeId} {V:Nat→Value} (hb:Tab W0 g t n V) (ht:t ∉ ts):Tab W g t n V:=by
 obtain ⟨cs,h1,h2⟩:=hb
 exact ⟨cs,h.blkk h1 ht,h2⟩
theorem Frm.rowk {ι:Type} {B:Nat} {W0 W:World} {ts:List TypeId} (h:Frm W0 W (St B W0 ts)) {e:TypeId} {P:ι→Prop} {V:ι→Value} {X:ι→List Int} (hb:Rowz B W0 e P V X) (ht:e ∉ ts):Rowz B W e P V X :=
 hb.keep fun i hi b hq=>by
  obtain ⟨cs,hcs⟩:=hb.blk hi hq
  exact h.kept hcs ht
def Dn (i k:Nat) (p:Nat × Nat):Prop:=p.1 < i ∨ (p.1=i∧p.2 < k)
def goodX (T:List (Value × List (PJob × Value))) (p:Nat × Nat) (l:List Int):Prop:=l.length=(argX T p).length + 1∧∀ j:Nat,j < l.length→l[j]?=some (1000 * (p.1:Int) + 10 * (p.2:Int) + (j:Int))
structure Jobs (B:Nat) (w0 W:World) (T:List (Value × List (PJob × Value))) (G:Nat→Nat) (V:Nat × Nat→Value) (X:Nat × Nat→List Int):Prop where
 tab:∀ (i:Nat) (t:Value × List (PJob × Value)),T[i]?=some t→0 < t.2.length→Tab W (G i) 53 t.2.length fun k=>V (i,k)
 row:Rowz B W 2 (argP T) V X
 frm:Frm w0 W (St B w0 [53,2])
abbrev JobT:=List (Value × List (PJob × Value))
theorem Jobs.put {B:Nat} {w0 W WA W':World} {T:JobT} {G:Nat→Nat} {V:Nat × Nat→Value} {X:Nat × Nat→List Int} (h:Jobs B w0 W T G V X) (hS:∀ (i i':Nat) (t t':Value × List (PJob × Value)),T[i]?=some t→T[i']?=some t'→0 < t.2.length→0 < t'.2.length→i ≠ i'→G i ≠ G i')
  {i k:Nat} {t:Value × List (PJob × Value)} (ht:T[i]?=some t) (hk:k < t.2.length) (hGB:B ≤ G i) (hA:Below W.heap.size W WA) {v v':Value} {u:Int} (hV:V (i,k)=v) (hg:WA.grownBy W' v.ownBlock) (hv:W'.ownsRow B 2 1 v' ((X (i,k)).length + 1) (rows i64C (X (i,k)) ++ [Value.int .i64 u])) (hat:v'.ownBlock=v.ownBlock ∨ v'.ownBlock=some WA.heap.size) :
  Jobs B w0 (W'.setCell ⟨G i,k * 2 + 1,none⟩ v') T G (upd V (i,k) v') (upd X (i,k) (X (i,k) ++ [u])):=by
 have hp:argP T (i,k):=⟨t,_,ht,List.getElem?_eq_getElem hk⟩
 have hown:=h.row.own (i,k) hp
 rw [hV] at hown
 have hti:=apart_tab (h.tab i t ht (by omega)) hA hown hg (by decide)
 obtain ⟨cs,hcs⟩:=hti.blk
 refine ⟨fun i' t' ht' hn'=>?_,?_,?_⟩
 ·by_cases hi:i'=i
  ·subst hi
   rw [ht] at ht'
   obtain rfl:=Option.some.inj ht'
   have h1:=hti.set k v'
   have h2:(fun k_1=>upd V (i',k) v' (i',k_1))=upd (fun k=>V (i',k)) k v':=by
    funext q
    by_cases hq:q=k
    ·rw [hq,upd_same,upd_same]
    ·rw [upd_ne _ _ hq,upd_ne V _ (by intro he;exact hq (congrArg Prod.snd he))]
   rw [h2]
   exact h1
  ·have h1:=apart_tab (h.tab i' t' ht' hn') hA hown hg (by decide)
   have h2:(fun k_1=>upd V (i,k) v' (i',k_1))=fun k=>V (i',k):=by
    funext q
    rw [upd_ne V _ (by intro he;exact hi (congrArg Prod.fst he))]
   rw [h2]
   exact h1.keep (Below.heap_setCell W' ⟨G i,k * 2 + 1,none⟩ v' (G i') (hS i' i t' t ht' ht hn' (by omega) hi))
 ·exact (h.row.grow hp hA (v':=v') (u:=u) (W':=W') (by rw [hV];exact hg) hv (by rw [hV];exact hat)).other hcs (by decide) _
 ·exact (h.frm.growS hA hown (by simp) hg).setS hcs (by simp) hGB _
theorem jobs_app {B:Nat} {w0 W WA W':World} {T:JobT} {G:Nat→Nat} {V:Nat × Nat→Value} {X:Nat × Nat→List Int} (h:Jobs B w0 W T G V X) (hS:∀ (i i':Nat) (t t':Value × List (PJob × Value)),T[i]?=some t→T[i']?=some t'→0 < t.2.length→0 < t'.2.length→i ≠ i'→G i ≠ G i')
  {i k n:Nat} {t:Value × List (PJob × Value)} (ht:T[i]?=some t) (hk:k < t.2.length) (hGB:B ≤ G i) (hA:Below W.heap.size W WA) {v v':Value} {u:Int} (hV:V (i,k)=v) (hn:n=(X (i,k)).length) (hg:WA.grownBy W' v.ownBlock) (hv:W'.ownsRow B 2 1 v' (n + 1) (rows i64C (X (i,k)) ++ [Value.int .i64 u])) (hat:v'.ownBlock=v.ownBlock ∨ v'.ownBlock=some WA.heap.size)
  {b3 gt:Nat} {c8 cg:Array Value} (h8:Blk w0 b3 29 c8) (hgt:Blk w0 gt 50 cg) :
  ∃ b c',v'=.slice (some ⟨b,0,none⟩) (n + 1) c'∧Hid (W'.cell? ⟨G i,k * 2 + 1,none⟩=some v∧W'.frozen? ⟨G i,k * 2 + 1,none⟩=false∧G i < W'.heap.size∧W'.cell? ⟨b3,8,none⟩=c8[8]?∧W'.cell? ⟨gt,i,none⟩=cg[i]?∧b3 < W'.heap.size∧gt < W'.heap.size∧Jobs B w0 (W'.setCell ⟨G i,k * 2 + 1,none⟩ v') T G (upd V (i,k) v') (upd X (i,k) (X (i,k) ++ [u]))):=by
 have hp:argP T (i,k):=⟨t,_,ht,List.getElem?_eq_getElem hk⟩
 have hown:=h.row.own (i,k) hp
 rw [hV] at hown
 have hti:=apart_tab (h.tab i t ht (by omega)) hA hown hg (by decide)
 have hf:=h.frm.growS hA hown (by simp) hg
 have hx8:=hf.blkk h8 (by decide)
 have hxg:=hf.blkk hgt (by decide)
 obtain ⟨R2,c2,rfl⟩:∃ b c2,v'=.slice (some ⟨b,0,none⟩) (n + 1) c2:=by
  rcases hv.2 with ⟨_,h0⟩ | ⟨q,cap,cur,hq,_⟩
  ·omega
  ·exact ⟨q,cap,hq⟩
 refine ⟨R2,c2,rfl,Lib.hid ⟨?_,hti.frozen _,hti.lt,hx8.cell 8,hxg.cell i,hx8.lt,hxg.lt,?_⟩⟩
 ·rw [hti.cell hk,hV]
 ·rw [hn] at hv
  exact h.put hS ht hk hGB hA hV hg (by rw [← hn] at hv ⊢;exact hv) hat
theorem Jobs.store {B:Nat} {w0 W:World} {T:JobT} {G:Nat→Nat} {V:Nat × Nat→Value} {X:Nat × Nat→List Int} (h:Jobs B w0 W T G V X) {p:Nat × Nat} (hp:argP T p) {b n c j:Nat} (hV:V p=.slice (some ⟨b,0,none⟩) n c) (u:Int):Jobs B w0 (W.setCell ⟨b,j,none⟩ (.int .i64 u)) T G V (upd X p ((X p).set j u)):=by
 have hown:=h.row.own p hp
 rw [hV] at hown
 obtain ⟨cs,hcs⟩:=own_blk hown rfl
 refine ⟨fun i t ht hn=>?_,h.row.store hp hV u,h.frm.setS hcs (by simp) (hown.lt b rfl).1 _⟩
 have h1:=h.tab i t ht hn
 obtain ⟨cs',hcs'⟩:=h1.blk
 exact h1.keep (Below.heap_setCell W ⟨b,j,none⟩ _ (G i) (hcs'.ne_ hcs (by decide)))
theorem Jobs.drew {B:Nat} {w0 W:World} {T:JobT} {G:Nat→Nat} {V:Nat × Nat→Value} {X:Nat × Nat→List Int} (h:Jobs B w0 W T G V X):Jobs B w0 W.drew T G V X:=⟨h.tab,⟨h.row.own,h.row.sep⟩,h.frm.drew⟩
structure ThrS (b gt i:Nat) (tv qv:Value) (W:World):Prop where
 c8:W.cell? ⟨b,8,none⟩=some tv
 c9:W.cell? ⟨gt,i,none⟩=some qv
theorem ThrS.below {b gt i:Nat} {tv qv:Value} {W W':World} (h:ThrS b gt i tv qv W) (hb:Below W.heap.size W W'):ThrS b gt i tv qv W' :=
 ⟨(hb.cell (World.block_lt_of_cell? W _ h.c8)).trans h.c8,(hb.cell (World.block_lt_of_cell? W _ h.c9)).trans h.c9⟩
theorem ThrS.set {b gt i g k:Nat} {tv qv u:Value} {W:World} (h:ThrS b gt i tv qv W) (h1:b ≠ g) (h2:gt ≠ g):ThrS b gt i tv qv (W.setCell ⟨g,k,none⟩ u) :=
 ⟨(World.cell?_of_block (Below.heap_setCell W ⟨g,k,none⟩ u b h1)).trans h.c8,(World.cell?_of_block (Below.heap_setCell W ⟨g,k,none⟩ u gt h2)).trans h.c9⟩
set_option maxHeartbeats 8000000 in
theorem apart_ok {C:Nat} (s:ByteArray) (x:SSt) (w:World) (hE:EnvP C w) (hp:parseS s.data.toList=.ok x):Calls Tryz.prog 7 #[.string s] w fun e w'=>e=.returned (.bool true)∧Below w.heap.size w w':=by
 have HE:=Lib.hid hE
 have HSH:=Lib.hid (shown_any w hE)
 obtain ⟨ps,hok,_⟩:=parseS_ok hp
 have hln:=parseS_lines hp
 have HRD:=Lib.hid (reads_at hE hp)
 have HRP:Hid (∀ W,Calls Tryz.prog 10 #[.string s] W fun e w'=>Below W.heap.size W w'∧∃ rv pv tv lv,e=.returned (.agg (toldC x.set.cfg rv pv tv lv 0 0))∧SetRd w' w'.heap.size x.set rv pv tv∧LinesRd w' w'.heap.size x.lines lv):=Lib.hid fun W=>by
  have h:=rreads_any s W
  rw [hp] at h
  exact h
 obtain ⟨⟨a0,a1,a2,a3,a4,a5⟩,hcf⟩:∃ c,c=x.set.cfg:=⟨_,rfl⟩
 have HPP:Hid (∀ W,Below w.heap.size w W→Calls Tryz.prog 9 #[.string s] W fun e w'=>Below W.heap.size W w'∧∃ Rr nr cr Rp np cp Rt nt ct Rl nl cl T L,e=.returned (.tuple #[.agg #[.int .i64 a0,.int .i64 a1,.int .i64 a2,.int .i64 a3,.bool a4,.int .i64 a5,.slice Rr nr cr,.slice Rp np cp,.slice Rt nt ct],.slice Rl nl cl,.int .i64 0,.int .i64 0])∧Hid (nt=T.length∧nl=L.length)∧SetAt W.heap.size w' x (.slice Rr nr cr) (.slice Rp np cp) (.slice Rt nt ct) (.slice Rl nl cl) T L):=Lib.hid fun W hW=>(pparse_any s W (hE.later hW)).mono fun e w' ⟨hb,h⟩=>by
  rw [hp] at h
  obtain ⟨rv,pv,tv,lv,T,L,rfl,h⟩:=h
  obtain ⟨Rr,cr,rfl,_⟩:=own_shapes h.regs
  obtain ⟨Rp,cp,rfl,_⟩:=own_shapes h.progs
  obtain ⟨Rt,ct,rfl,_⟩:=own_shapes h.thr
  obtain ⟨Rl,cl,rfl,_⟩:=own_shapes h.lines
  exact ⟨hb,Rr,_,cr,Rp,_,cp,Rt,_,ct,Rl,_,cl,T,L,by rw [← hcf];rfl,Lib.hid ⟨rfl,rfl⟩,h⟩
 rw [← hcf] at HRP
 simp only [toldC] at HRP
 have HCF:=Lib.hid hcf
 have HOK:=Lib.hid hok
 have HLN:=Lib.hid hln
 clear hE hp hok hln hcf
 go_enter Tryz.func7,Tryz.ntmps7
 go_upto_region 3 with (first
  | (go_at_call 8;refine HSH.out.mono ?_;rintro e w1 ⟨rfl,hb1⟩;have HB1:=Lib.hid hb1;clear hb1)
  | (go_at_call 9;refine (HPP.out _ HB1.out).mono ?_;rintro e w2 ⟨hb2,Rr,nr,cr,Rp,np,cp,Rt,nt,ct,Rl,nl,cl,T,L,rfl,HLEN,hs2⟩;have HB12:=Lib.hid hb2;have HS2:=Lib.hid hs2;clear hb2 hs2))
 have hnl9:nl ≤ 65536:=by
  have hnl:=HLEN.out.2
  have h:=HS2.out.linesEq
  have h2:L.length=x.lines.length:=by rw [← h,List.length_map]
  have:=HLN.out
  omega
 obtain ⟨w3,hw3⟩:∃ W,W=w2.alloc (.cells #[.int .i64 a0,.int .i64 a1,.int .i64 a2,.int .i64 a3,.bool a4,.int .i64 a5,.slice Rr nr cr,.slice Rp np cp,.slice Rt nt ct] 29):=⟨_,rfl⟩
 obtain ⟨b3,hb3⟩:∃ b,b=w2.heap.size:=⟨_,rfl⟩
 have HK3:Hid (Blk w3 b3 29 #[.int .i64 a0,.int .i64 a1,.int .i64 a2,.int .i64 a3,.bool a4,.int .i64 a5,.slice Rr nr cr,.slice Rp np cp,.slice Rt nt ct]):=Lib.hid (by rw [hw3,hb3];exact Blk.new _ _ _)
 have HB23:Hid (Below w2.heap.size w2 w3):=Lib.hid (hw3 ▸ (Below.refl _ _).alloc (Nat.le_refl _) _)
 rw [← hw3,← hb3]
 clear hw3 hb3
 have HS3:=Lib.hid (HS2.out.below HB23.out)
 obtain ⟨B,hB⟩:∃ B,B=w1.heap.size:=⟨_,rfl⟩
 rw [← hB] at HS3
 have HBB:=Lib.hid hB
 have HBS:Hid (B ≤ w3.heap.size):=Lib.hid (by rw [hB];exact Nat.le_trans HB12.out.size HB23.out.size)
 clear hB HS2
 -- the lines' table and lists
 obtain ⟨g,hgt⟩:∃ g,0 < nl→(∃ c,Rl=some ⟨g,0,none⟩∧c=cl)∧B ≤ g∧Tab w3 g 49 nl (lineV L):=by
  have hnl:=HLEN.out.2
  by_cases hn:0 < L.length
  ·obtain ⟨g,c,h1,h2,h3⟩:=lines_tab HS3.out hn
   injection h1 with h4 _ h5
   exact ⟨g,fun _=>⟨⟨_,h4,rfl⟩,h2,by rw [hnl];exact h3⟩⟩
  ·exact ⟨0,fun h=>by omega⟩
 have HG0:Hid (0 < nl→Rl=some ⟨g,0,none⟩∧B ≤ g):=Lib.hid fun h=>by obtain ⟨⟨_,h1,_⟩,h2,_⟩:=hgt h;exact ⟨h1,h2⟩
 have HTAB:Hid (0 < nl→Tab w3 g 49 nl (lineV L)):=Lib.hid fun h=>(hgt h).2.2
 have HROW:Hid (Rowz B w3 3 (· < nl) (lineV L) (lineX L)):=Lib.hid (by rw [HLEN.out.2];exact lines_rowz HS3.out)
 have HX0:Hid (∀ i,i < nl→(lineX L i).length ≤ 20000):=Lib.hid fun i hi=>by
  obtain ⟨y,hy⟩:∃ y,L[i]?=some y:=⟨_,List.getElem?_eq_getElem (by have:=HLEN.out.2;omega)⟩
  have h1:x.lines[i]?=some y.1:=by rw [← HS3.out.linesEq,List.getElem?_map,hy];rfl
  have h2:=thr_steps h1 HOK.out.steps
  unfold lineX
  rw [hy]
  simp only [List.length_map]
  exact h2
 have HFR:Hid (Frm w3 w3 (St B w3 [49,3])):=Lib.hid (Frm.refl _ _)
 clear hgt
 go_upto_region 6 with fail
 go_loopg [8] nl (fun gk iv W=>∃ (i:Nat) (V:Nat→Value) (X:Nat→List Int),iv=.int .i64 i∧i ≤ nl∧gk + i=nl∧Hid (0 < nl→Tab W g 49 nl V)∧Hid (Rowz B W 3 (· < nl) V X)∧Hid (∀ j:Nat,j < i→(X j).length=(lineX L j).length + 1∧∀ k:Nat,k < (lineX L j).length→(X j)[k]?=some (1000 * (j:Int) + (k:Int)))∧Hid (∀ j,i ≤ j→X j=lineX L j)∧Hid (Frm w3 W (St B w3 [49,3])))
 case atStart=>exact ⟨0,lineV L,lineX L,rfl,Nat.zero_le _,rfl,HTAB,HROW,Lib.hid (fun j hj=>by omega),Lib.hid (fun j _=>rfl),HFR⟩
 case round =>
  clear HTAB HROW HFR
  obtain ⟨i,V,X,rfl,hi,hgk,HTAB,HROW,HDONE,HREST,HFR⟩:=hrel
  have HG:=Lib.hid hgk
  clear hgk
  by_cases hil:i < nl
  ·have e1:decide ((i:Int) < (nl:Int))=true:=decide_eq_true (by omega)
   have e2:decide (i < nl)=true:=decide_eq_true hil
   have e3:(i:Int) < (nl:Int):=by omega
   have zw:IntKind.i64.wrap ((i:Int) + 1)=(i:Int) + 1:=by rw [IntKind.wrap_i64];omega
   obtain ⟨rfl,hgB⟩:=HG0.out (by omega)
   obtain ⟨m,hm⟩:∃ m,m=(X i).length:=⟨_,rfl⟩
   have hmx:m=(lineX L i).length:=by rw [hm,HREST.out i (Nat.le_refl _)]
   have hm2:m ≤ 20000:=by rw [hmx];exact HX0.out i hil
   obtain ⟨R,c,hV,hR⟩:=own_at (HROW.out.own i hil)
   rw [← hm] at hV hR
   have HV:=Lib.hid hV
   have HR:=Lib.hid hR
   have HM:=Lib.hid hm
   have HMX:=Lib.hid hmx
   have HTI:=HTAB
   have HRI:Hid (∃ xs:List Int,xs.length=m∧(∀ k:Nat,k < 0→xs[k]?=some (1000 * (i:Int) + (k:Int)))∧Rowz B wr 3 (· < nl) V (upd X i xs)):=Lib.hid ⟨X i,hm.symm,fun k hk=>by omega,by rw [upd_self];exact HROW.out⟩
   have HFI:=HFR
   clear hm hmx hV hR
   go_upto_region 9 with fail
   go_loopg [9] m (fun gk kv W=>∃ k:Nat,kv=.int .i64 k∧k ≤ m∧gk + k=m∧Hid (∃ xs:List Int,xs.length=m∧(∀ j:Nat,j < k→xs[j]?=some (1000 * (i:Int) + (j:Int)))∧Rowz B W 3 (· < nl) V (upd X i xs))∧Hid (0 < nl→Tab W g 49 nl V)∧Hid (Frm w3 W (St B w3 [49,3])))
   case atStart=>exact ⟨0,rfl,Nat.zero_le _,rfl,HRI,HTI,HFI⟩
   case round =>
    clear HRI HTI HFI HTAB HROW HFR
    obtain ⟨k,rfl,hk,hgkk,HRI,HTAB,HFR⟩:=hrel
    have HGK:=Lib.hid hgkk
    clear hgkk
    have c1:wr.cell? ⟨g,i * 2 + 1,none⟩=some (.slice R m c):=by rw [← HV.out];exact (HTAB.out (by omega)).cell hil
    have hgl:g < wr.heap.size:=(HTAB.out (by omega)).lt
    by_cases hkm:k < m
    ·have f1:decide ((k:Int) < (m:Int))=true:=decide_eq_true (by omega)
     have f2:decide (k < m)=true:=decide_eq_true hkm
     have f3:(k:Int) < (m:Int):=by omega
     have zk:IntKind.i64.wrap ((k:Int) + 1)=(k:Int) + 1:=by rw [IntKind.wrap_i64];omega
     have zm:IntKind.i64.wrap (1000 * (i:Int))=1000 * (i:Int):=by rw [IntKind.wrap_i64];omega
     have zs:IntKind.i64.wrap (1000 * (i:Int) + (k:Int))=1000 * (i:Int) + (k:Int):=by rw [IntKind.wrap_i64];omega
     obtain ⟨b,rfl,hbB,_⟩:=HR.out (by omega)
     obtain ⟨xs,hxl,hxs,hrz⟩:=HRI.out
     have hown:=hrz.own i hil
     rw [upd_same,HV.out] at hown
     obtain ⟨u,hu⟩:∃ u,xs[k]?=some u:=⟨_,List.getElem?_eq_getElem (by omega)⟩
     have x1:=own_cell hown hu
     have hown2:=hown
     rw [hxl] at hown2
     have xf:=hown2.frozenAt k
     have hbl:b < wr.heap.size:=(hown.lt b rfl).2
     obtain ⟨cs,hcs⟩:=own_blk hown rfl
     have HCS:=Lib.hid hcs
     have hgb:g ≠ b:=by
      obtain ⟨cs',hcs'⟩:=(HTAB.out (by omega)).blk
      exact hcs'.ne_ hcs (by decide)
     have HRZ2:Hid (∃ ys:List Int,ys.length=m∧(∀ j:Nat,j < k + 1→ys[j]?=some (1000 * (i:Int) + (j:Int)))∧Rowz B (wr.setCell ⟨b,k,none⟩ (.int .i64 (1000 * (i:Int) + (k:Int)))) 3 (· < nl) V (upd X i ys)):=Lib.hid ⟨xs.set k (1000 * (i:Int) + (k:Int)),by rw [List.length_set];exact hxl,set_upto (F:=fun j=>1000 * (i:Int) + (j:Int)) hxl hkm hxs,by
      have h:=hrz.store (p:=i) hil (k:=k) HV.out (1000 * (i:Int) + (k:Int))
      rw [upd_upd,upd_same] at h
      exact h⟩
     have HT2:Hid (0 < nl→Tab (wr.setCell ⟨b,k,none⟩ (.int .i64 (1000 * (i:Int) + (k:Int)))) g 49 nl V):=Lib.hid fun h=>(HTAB.out h).keep (Below.heap_setCell wr ⟨b,k,none⟩ _ g hgb)
     have HF2:Hid (Frm w3 (wr.setCell ⟨b,k,none⟩ (.int .i64 (1000 * (i:Int) + (k:Int)))) (St B w3 [49,3])):=Lib.hid (HFR.out.setS hcs (by simp) hbB _)
     clear hxs hrz hown hown2 hu hcs hxl hgb hbB
     go_wp2
     go_roundg (m - (k + 1))
     case measure=>have:=HGK.out;omega
     case rel=>exact ⟨k + 1,by simp,by omega,by omega,HRZ2,HT2,HF2⟩
    ·have f1:decide ((k:Int) < (m:Int))=false:=decide_eq_false (by omega)
     have f2:decide (k < m)=false:=decide_eq_false hkm
     obtain ⟨xs,hxl,hxs,hrz⟩:=HRI.out
     obtain rfl:k=m:=by omega
     have zn:IntKind.i64.wrap (-(i:Int))=-(i:Int):=by rw [IntKind.wrap_i64];omega
     obtain ⟨i0,hi0,hz0,hz1,hz2⟩:=info_parts info_in
     have hown:=hrz.own i hil
     rw [upd_same,HV.out,hxl] at hown
     have HOWN:=Lib.hid hown
     have HA:Hid (Below wr.heap.size wr (wr.alloc (.cells #[.int .i64 (-(i:Int))] 3))):=Lib.hid ((Below.refl _ _).alloc (Nat.le_refl _) _)
     have HOWNA:=Lib.hid (own_beb hown HA.out)
     have HRD:Hid (Reads (wr.alloc (.cells #[.int .i64 (-(i:Int))] 3)) (wr.alloc (.cells #[.int .i64 (-(i:Int))] 3)).heap.size 1 (some ⟨wr.heap.size,0,none⟩) 1 [.int .i64 (-(i:Int))]):=Lib.hid ⟨rfl,fun _=>⟨_,rfl,by simp,cell_one_new _ _ _⟩⟩
     have HONE:Hid (∀ v ∈ ([.int .i64 (-(i:Int))]:List Value),v.oneCell'=true):=Lib.hid (by intro v hv;simp at hv;subst hv;rfl)
     have hla:k + 1 ≤ maxLen:=by simp only [maxLen];omega
     have hlb:(k + 1) * 8 ≤ 140737488355328:=by omega
     have hlc:B ≤ (wr.alloc (.cells #[.int .i64 (-(i:Int))] 3)).heap.size:=by have h1:=HBS.out;have h2:=HFR.out.size;simp;omega
     have HXS:=Lib.hid hxs
     have HRZ:=Lib.hid hrz
     have HXL:=Lib.hid hxl
     clear hxs hrz hown hxl
     go_upto_region 7 with (at_builtin;go_must (refine wpList_append_any _ rfl _ _ 47 rfl B 3 i0 (.int .i64 0) 1 8 Tryz.underlying47 hi0 hz0 hz1 hz2 rfl (by decide) (.slice R k c) k (rows i64C xs) rfl HOWNA.out _ (some ⟨wr.heap.size,0,none⟩) 1 1 [.int .i64 (-(i:Int))] rfl HRD.out HONE.out hla hlb hlc ?_;intro v' w5 hown5 hgrow hat;obtain ⟨R',c',rfl,_,_⟩:=own_shapes hown5;have HT5:Hid (Tab w5 g 49 nl V):=Lib.hid (apart_tab (HTAB.out (Nat.lt_of_le_of_lt (Nat.zero_le _) hil)) HA.out HOWN.out hgrow (by decide));have y1:=HT5.out.cell hil;have y2:=HT5.out.frozen (i * 2 + 1);have y3:=HT5.out.lt;have HG5:=Lib.hid hgrow;have HO5:=Lib.hid hown5;have HAT:=Lib.hid hat;clear hgrow hown5 hat))
     have HR5:Hid (Rowz B w5 3 (· < nl) (upd V i (.slice R' (k + 1) c')) (upd X i (xs ++ [-(i:Int)]))):=Lib.hid (by
      have h:=HRZ.out.grow (p:=i) hil HA.out (v':=.slice R' (k + 1) c') (u:=-(i:Int)) (W':=w5) (by rw [HV.out];exact HG5.out) (by rw [upd_same,HXL.out];exact HO5.out) (by rw [HV.out];exact HAT.out)
      rw [upd_upd,upd_same] at h
      exact h)
     have HR6:Hid (Rowz B (w5.setCell ⟨g,i * 2 + 1,none⟩ (.slice R' (k + 1) c')) 3 (· < nl) (upd V i (.slice R' (k + 1) c')) (upd X i (xs ++ [-(i:Int)]))):=Lib.hid (by
      obtain ⟨cs,hcs⟩:=HT5.out.blk
      exact HR5.out.other hcs (by decide) _)
     have HT6:Hid (0 < nl→Tab (w5.setCell ⟨g,i * 2 + 1,none⟩ (.slice R' (k + 1) c')) g 49 nl (upd V i (.slice R' (k + 1) c'))):=Lib.hid fun _=>HT5.out.set i _
     have HF6:Hid (Frm w3 (w5.setCell ⟨g,i * 2 + 1,none⟩ (.slice R' (k + 1) c')) (St B w3 [49,3])):=Lib.hid (by
      obtain ⟨cs,hcs⟩:=HT5.out.blk
      exact (HFR.out.growS HA.out HOWN.out (by simp) HG5.out).setS hcs (by simp) hgB _)
     have HD6:Hid (∀ j:Nat,j < i + 1→((upd X i (xs ++ [-(i:Int)])) j).length=(lineX L j).length + 1∧∀ q:Nat,q < (lineX L j).length→((upd X i (xs ++ [-(i:Int)])) j)[q]?=some (1000 * (j:Int) + (q:Int))):=Lib.hid fun j hj=>by
      by_cases he:j=i
      ·subst he
       rw [upd_same,List.length_append,HXL.out,HMX.out]
       refine ⟨rfl,fun q hq=>?_⟩
       have h1:=HMX.out
       rw [List.getElem?_append_left (by rw [HXL.out];omega)]
       exact HXS.out q (by omega)
      ·rw [upd_ne X _ he]
       exact HDONE.out j (by omega)
     have HS6:Hid (∀ j,i + 1 ≤ j→(upd X i (xs ++ [-(i:Int)])) j=lineX L j):=Lib.hid fun j hj=>by
      rw [upd_ne X _ (by omega)]
      exact HREST.out j (by omega)
     clear y1 y2 y3 hla hlb hlc hi0 hz0 hz1 hz2 c1 hgl
     go_wp2
     go_roundg (nl - (i + 1))
     case measure=>have:=HG.out;omega
     case rel=>exact ⟨i + 1,_,_,by simp,by omega,by omega,HT6,HR6,HD6,HS6,HF6⟩
  ·have e1:decide ((i:Int) < (nl:Int))=false:=decide_eq_false (by omega)
   have e2:decide (i < nl)=false:=decide_eq_false hil
   have HD1:Hid (∀ j:Nat,j < nl→(X j).length=(lineX L j).length + 1∧∀ k:Nat,k < (lineX L j).length→(X j)[k]?=some (1000 * (j:Int) + (k:Int))):=Lib.hid fun j hj=>HDONE.out j (by omega)
   have HTAB1:=HTAB
   have HROW1:=HROW
   have HFR1:=HFR
   obtain ⟨VL,hVL⟩:∃ VL,VL=V:=⟨_,rfl⟩
   obtain ⟨XL,hXL⟩:∃ XL,XL=X:=⟨_,rfl⟩
   rw [← hVL] at HTAB1 HROW1
   rw [← hXL] at HD1 HROW1
   clear hVL hXL
   clear HDONE HREST HG HTAB HROW HFR hi hil
   obtain ⟨w4,hw4⟩:∃ W,W=wr:=⟨_,rfl⟩
   rw [← hw4] at HTAB1 HROW1 HFR1 ⊢
   clear hw4
   -- the threads' row,the jobs' tables
   have HJB:Hid (∀ (i:Nat) (t:Value × List (PJob × Value)),T[i]?=some t→∃ R c,t.1=.slice R t.2.length c):=Lib.hid fun i t ht=>by
    obtain ⟨R,c,h,_⟩:=own_shapes (HS3.out.jobs.own t (List.mem_of_getElem? ht))
    exact ⟨R,c,h⟩
   obtain ⟨gt,hgt⟩:∃ gt,0 < nt→Rt=some ⟨gt,0,none⟩∧(∃ cs,Blk w3 gt 50 cs)∧∀ (i:Nat) (t:Value × List (PJob × Value)),T[i]?=some t→w3.cell? ⟨gt,i,none⟩=some t.1:=by
    have hnt:=HLEN.out.1
    have h:=HS3.out.thr
    rcases h.2 with ⟨_,h0⟩ | ⟨q,cap,cur,hv,hb,hh,hnc,hcm,hcs,htk⟩
    ·exact ⟨0,fun hn=>by omega⟩
    ·injection hv with h1 h2 h3
     refine ⟨q,fun _=>⟨h1,⟨cur,hh⟩,fun i t ht=>?_⟩⟩
     have hi:i < T.length:=(List.getElem?_eq_some_iff.1 ht).1
     have h4:=rows_at valC 1 (fun _=>rfl) (T.map (·.1)) i 0 (by rw [List.length_map];exact hi) (by omega)
     rw [Nat.mul_one,Nat.add_zero,List.getElem_map,(List.getElem?_eq_some_iff.1 ht).2] at h4
     rw [(show Blk w3 q 50 cur from hh).cell,← Array.getElem?_toList]
     rw [← htk,List.getElem?_take_of_lt (by omega)] at h4
     exact h4
   have HGT:Hid (0 < nt→Rt=some ⟨gt,0,none⟩∧(∃ cs,Blk w4 gt 50 cs)∧∀ (i:Nat) (t:Value × List (PJob × Value)),T[i]?=some t→w4.cell? ⟨gt,i,none⟩=some t.1):=Lib.hid fun hn=>by
    obtain ⟨h1,⟨cs,h2⟩,h3⟩:=hgt hn
    have h4:=HFR1.out.blkk h2 (by decide)
    exact ⟨h1,⟨cs,h4⟩,fun i t ht=>by rw [h4.cell,← h2.cell];exact h3 i t ht⟩
   obtain ⟨G,hG⟩:∃ G:Nat→Nat,∀ (i:Nat) (t:Value × List (PJob × Value)),T[i]?=some t→0 < t.2.length→(∃ c,t.1=.slice (some ⟨G i,0,none⟩) t.2.length c)∧B ≤ G i∧Tab w3 (G i) 53 t.2.length fun k=>argV T (i,k):=by
    have h:∀ i,∃ q:Nat,∀ t:Value × List (PJob × Value),T[i]?=some t→0 < t.2.length→(∃ c,t.1=.slice (some ⟨q,0,none⟩) t.2.length c)∧B ≤ q∧Tab w3 q 53 t.2.length fun k=>argV T (i,k):=by
     intro i
     cases ht:T[i]? with
     | none=>exact ⟨0,fun t h=>by cases h⟩
     | some t =>
      by_cases hn:0 < t.2.length
      ·obtain ⟨q,c,h1,h2,h3⟩:=jobs_tab HS3.out ht hn
       exact ⟨q,fun t' h' _=>by obtain rfl:=Option.some.inj h';exact ⟨⟨c,h1⟩,h2,h3⟩⟩
      ·exact ⟨0,fun t' h' hn'=>by obtain rfl:=Option.some.inj h';exact absurd hn' hn⟩
    exact ⟨fun i=>(h i).choose,fun i t ht hn=>(h i).choose_spec t ht hn⟩
   have HGJ:Hid (∀ (i:Nat) (t:Value × List (PJob × Value)),T[i]?=some t→0 < t.2.length→(∃ c,t.1=.slice (some ⟨G i,0,none⟩) t.2.length c)∧B ≤ G i):=Lib.hid fun i t ht hn=>⟨(hG i t ht hn).1,(hG i t ht hn).2.1⟩
   have HGS:Hid (∀ (i i':Nat) (t t':Value × List (PJob × Value)),T[i]?=some t→T[i']?=some t'→0 < t.2.length→0 < t'.2.length→i ≠ i'→G i ≠ G i'):=Lib.hid fun i i' t t' ht ht' hn hn' hii he=>by
    obtain ⟨c,h1⟩:=(hG i t ht hn).1
    obtain ⟨c',h1'⟩:=(hG i' t' ht' hn').1
    exact jobs_sep HS3.out ht ht' hii (G i) (by rw [h1];rfl) (by rw [h1',he];rfl)
   have HJ0:Hid (Jobs B w4 w4 T G (argV T) (argX T)):=Lib.hid ⟨fun i t ht hn=>HFR1.out.tabk (hG i t ht hn).2.2 (by decide),HFR1.out.rowk (args_rowz HS3.out) (by decide),Frm.refl _ _⟩
   have HK4:=Lib.hid (HFR1.out.blkk HK3.out (by decide))
   have HA4:Hid (∀ p,argP T p→(argX T p).length ≤ 4):=Lib.hid fun p hp=>by
    obtain ⟨t,j,ht,hj⟩:=hp
    have h1:x.set.thr[p.1]?=some (t.2.map (·.1)):=by rw [← HS3.out.thrEq,List.getElem?_map,ht];rfl
    have h2:=(HOK.out.jobs _ (List.mem_of_getElem? h1)).2 j.1 (List.mem_map.2 ⟨j,List.mem_of_getElem? hj,rfl⟩)
    unfold argX
    simp only [ht,hj]
    exact h2.2.1
   have HT8:Hid (nt ≤ 8∧∀ (i:Nat) (t:Value × List (PJob × Value)),T[i]?=some t→t.2.length ≤ 32):=Lib.hid (by
    have h:=HS3.out.thrEq
    refine ⟨?_,fun i t ht=>?_⟩
    ·have h1:=HOK.out.thr
     rw [← h,List.length_map] at h1
     rw [HLEN.out.1]
     exact h1
    ·have h1:x.set.thr[i]?=some (t.2.map (·.1)):=by rw [← h,List.getElem?_map,ht];rfl
     have h2:=(HOK.out.jobs _ (List.mem_of_getElem? h1)).1
     rw [List.length_map] at h2
     exact h2)
   have HBS4:Hid (B ≤ w4.heap.size):=Lib.hid (Nat.le_trans HBS.out HFR1.out.size)
   have hnt8:=HT8.out.1
   clear hgt hG
   go_upto_region 14 with fail
   clear e1 e2
   go_loopg [10] nt (fun gk iv W=>∃ (i:Nat) (V:Nat × Nat→Value) (X:Nat × Nat→List Int),iv=.int .i64 i∧i ≤ nt∧gk + i=nt∧Hid (Jobs B w4 W T G V X)∧Hid (∀ p,argP T p→Dn i 0 p→goodX T p (X p))∧Hid (∀ p,¬ Dn i 0 p→X p=argX T p))
   case atStart=>exact ⟨0,argV T,argX T,rfl,Nat.zero_le _,rfl,HJ0,Lib.hid (fun p _ h=>by rcases h with h | h <;> omega),Lib.hid (fun p _=>rfl)⟩
   case round =>
    clear HJ0
    obtain ⟨i,V,X,rfl,hi,hgk,HJ,HDN,HRS⟩:=hrel
    have HG:=Lib.hid hgk
    clear hgk
    have p8:=((HJ.out.frm.blkk HK4.out (by decide)).cell 8).trans (show _=some (Value.slice Rt nt ct) from rfl)
    have pl:=(HJ.out.frm.blkk HK4.out (by decide)).lt
    by_cases hil:i < nt
    ·have e1:decide ((i:Int) < (nt:Int))=true:=decide_eq_true (by omega)
     have e2:decide (i < nt)=true:=decide_eq_true hil
     have e3:(i:Int) < (nt:Int):=by omega
     have zw:IntKind.i64.wrap ((i:Int) + 1)=(i:Int) + 1:=by rw [IntKind.wrap_i64];omega
     obtain ⟨rfl,_,_⟩:=HGT.out (by omega)
     obtain ⟨⟨vt,js⟩,ht⟩:∃ t,T[i]?=some t:=⟨_,List.getElem?_eq_getElem (by have:=HLEN.out.1;omega)⟩
     obtain ⟨Q,q,hvt⟩:=HJB.out i _ ht
     simp only at hvt
     subst hvt
     obtain ⟨m,hm⟩:∃ m,m=js.length:=⟨_,rfl⟩
     rw [← hm] at ht
     have HT:=Lib.hid ht
     have HM:=Lib.hid hm
     have hm32:m ≤ 32:=by rw [hm];exact HT8.out.2 i _ ht
     have HJI:=HJ
     have HDI:Hid (∀ p,argP T p→Dn i 0 p→goodX T p (X p)):=HDN
     clear hm ht
     go_upto_region 17 with fail
     clear p8 pl
     go_loopg [11] m (fun gk kv W=>∃ (k:Nat) (V:Nat × Nat→Value) (X:Nat × Nat→List Int),kv=.int .i64 k∧k ≤ m∧gk + k=m∧Hid (Jobs B w4 W T G V X)∧Hid (∀ p,argP T p→Dn i k p→goodX T p (X p))∧Hid (∀ p,¬ Dn i k p→X p=argX T p))
     case atStart=>exact ⟨0,V,X,rfl,Nat.zero_le _,rfl,HJI,HDI,HRS⟩
     case round =>
      clear HJI HDI HRS HJ HDN
      obtain ⟨k,V,X,rfl,hk,hgkk,HJ,HDN,HRS⟩:=hrel
      have HGK:=Lib.hid hgkk
      clear hgkk
      have HKW:=Lib.hid (HJ.out.frm.blkk HK4.out (by decide))
      have p8:=(HKW.out.cell 8).trans (show _=some (Value.slice (some ⟨gt,0,none⟩) nt ct) from rfl)
      have pl:=HKW.out.lt
      obtain ⟨cst,hcst⟩:=(HGT.out (by omega)).2.1
      have hbt:=HJ.out.frm.blkk hcst (by decide)
      have p9:wr.cell? ⟨gt,i,none⟩=some (.slice Q m q):=by
       rw [hbt.cell,← hcst.cell]
       exact (HGT.out (by omega)).2.2 i _ HT.out
      have pg:=hbt.lt
      have HBT:=Lib.hid hbt
      clear hcst hbt
      by_cases hkm:k < m
      ·have f1:decide ((k:Int) < (m:Int))=true:=decide_eq_true (by omega)
       have f2:decide (k < m)=true:=decide_eq_true hkm
       have f3:(k:Int) < (m:Int):=by omega
       have zk:IntKind.i64.wrap ((k:Int) + 1)=(k:Int) + 1:=by rw [IntKind.wrap_i64];omega
       obtain ⟨jb,hjb⟩:∃ j,js[k]?=some j:=⟨_,List.getElem?_eq_getElem (by have:=HM.out;omega)⟩
       have hP:argP T (i,k):=⟨_,jb,HT.out,hjb⟩
       have HP:=Lib.hid hP
       have hjs:0 < js.length:=by have:=HM.out;omega
       have HTJ:Hid (Tab wr (G i) 53 m fun k=>V (i,k)):=Lib.hid (by have h:=HJ.out.tab i _ HT.out hjs;simp only at h;rw [← HM.out] at h;exact h)
       obtain ⟨⟨c9,hq⟩,hGB⟩:=HGJ.out i _ HT.out hjs
       simp only at hq
       injection hq with hq1 hq2 hq3
       subst hq1
       obtain ⟨n,hn⟩:∃ n,n=(X (i,k)).length:=⟨_,rfl⟩
       have hnx:n=(argX T (i,k)).length:=by rw [hn,HRS.out (i,k) (by unfold Dn;simp)]
       have hn4:n ≤ 4:=by rw [hnx];exact HA4.out _ hP
       obtain ⟨R,c,hV,hR⟩:=own_at (HJ.out.row.own (i,k) hP)
       rw [← hn] at hV hR
       have HV:=Lib.hid hV
       have HN:=Lib.hid hn
       have HNX:=Lib.hid hnx
       have HGB:=Lib.hid hGB
       have c3:wr.cell? ⟨G i,k * 2 + 1,none⟩=some (.slice R n c):=by rw [← HV.out];exact HTJ.out.cell hkm
       have hgl:G i < wr.heap.size:=HTJ.out.lt
       have zh:IntKind.i64.wrap (100 * (i:Int))=100 * (i:Int):=by rw [IntKind.wrap_i64];omega
       have zs:IntKind.i64.wrap (100 * (i:Int) + (k:Int))=100 * (i:Int) + (k:Int):=by rw [IntKind.wrap_i64];omega
       clear hjb hP hjs hq2 hq3 hn hnx hV hR hGB
       go_upto_region 19 with fail
       have HJD:Hid (Jobs B w4 wr.drew T G V X):=Lib.hid HJ.out.drew
       obtain ⟨i0,hi0,hz0,hz1,hz2⟩:=info_parts info_i64
       have hown:=HJD.out.row.own (i,k) HP.out
       rw [HV.out,← HN.out] at hown
       have HOWN:=Lib.hid hown
       have HA:Hid (Below wr.drew.heap.size wr.drew (wr.drew.alloc (.cells #[.int .i64 (100 * (i:Int) + (k:Int))] 2))):=Lib.hid ((Below.refl _ _).alloc (Nat.le_refl _) _)
       have HOWNA:=Lib.hid (own_beb hown HA.out)
       have HRD:Hid (Reads (wr.drew.alloc (.cells #[.int .i64 (100 * (i:Int) + (k:Int))] 2)) (wr.drew.alloc (.cells #[.int .i64 (100 * (i:Int) + (k:Int))] 2)).heap.size 1 (some ⟨wr.drew.heap.size,0,none⟩) 1 [.int .i64 (100 * (i:Int) + (k:Int))]):=Lib.hid ⟨rfl,fun _=>⟨_,rfl,by simp,cell_one_new _ _ _⟩⟩
       have HONE:Hid (∀ v ∈ ([.int .i64 (100 * (i:Int) + (k:Int))]:List Value),v.oneCell'=true):=Lib.hid (by intro v hv;simp at hv;subst hv;rfl)
       have hla:n + 1 ≤ maxLen:=by simp only [maxLen];omega
       have hlb:(n + 1) * 8 ≤ 140737488355328:=by omega
       have hlc:B ≤ (wr.drew.alloc (.cells #[.int .i64 (100 * (i:Int) + (k:Int))] 2)).heap.size:=by have h1:=HBS4.out;have h2:=HJD.out.frm.size;rw [World.size_alloc];omega
       have HTD:Hid (Tab wr.drew (G i) 53 m fun k=>V (i,k)):=Lib.hid (by have h:=HJD.out.tab i _ HT.out (by have:=HM.out;simp only;omega);simp only at h;rw [← HM.out] at h;exact h)
       clear hown
       obtain ⟨cst,hcst⟩:=(HGT.out (by omega)).2.1
       have HCST:=Lib.hid hcst
       have HCI:Hid (cst[i]?=some (.slice (some ⟨G i,0,none⟩) m q)):=Lib.hid (by rw [← hcst.cell];exact (HGT.out (by omega)).2.2 i _ HT.out)
       have HNE8:Hid (b3 ≠ G i):=Lib.hid (by obtain ⟨cs,hcs⟩:=HTD.out.blk;exact (HJD.out.frm.blkk HK4.out (by decide)).ne_ hcs (by decide))
       have HNE9:Hid (gt ≠ G i):=Lib.hid (by obtain ⟨cs,hcs⟩:=HTD.out.blk;exact (HJD.out.frm.blkk HCST.out (by decide)).ne_ hcs (by decide))
       clear hcst
       go_cut [] from 83 to 147 (fun wc=>Hid (∃ b c',Jobs B w4 wc T G (upd V (i,k) (.slice (some ⟨b,0,none⟩) (n + 1) c')) (upd X (i,k) (X (i,k) ++ [100 * (i:Int) + (k:Int)]))))
       case first =>
        have hS0:ThrS b3 gt i (.slice (some ⟨gt,0,none⟩) nt ct) (.slice (some ⟨G i,0,none⟩) m q) wr.drew:=⟨p8,p9⟩
        have hi1:∀ W:World,(Instr.indexAt 27 (.slice (some ⟨gt,0,none⟩) nt ct) (.int .i64 i)).run Tryz.prog W=.ok (.pointer (some ⟨gt,i,none⟩)) W:=fun W=>by go_simp
        have hi2:∀ W:World,(Instr.indexAt 50 (.slice (some ⟨G i,0,none⟩) m q) (.int .i64 k)).run Tryz.prog W=.ok (.pointer (some ⟨G i,k * 2,none⟩)) W:=fun W=>by go_simp
        have hm1:∀ W:World,(binOp .mul 3 (.int .i64 100) (.int .i64 i)).run Tryz.prog W=.ok (.int .i64 (100 * (i:Int))) W:=fun W=>by go_simp
        have hm2:∀ W:World,(binOp .add 3 (.int .i64 (100 * (i:Int))) (.int .i64 k)).run Tryz.prog W=.ok (.int .i64 (100 * (i:Int) + (k:Int))) W:=fun W=>by go_simp
        refine wp_abs fun a ha=>?_
        have f0:a.eval (.tmp 4)=.pointer (some ⟨b3,0,none⟩):=by rw [ha];rfl
        have f1:a.eval (.tmp 10)=.int .i64 i:=by rw [ha];rfl
        have f2:a.eval (.tmp 11)=.int .i64 k:=by rw [ha];rfl
        have hsz:116 ≤ a.tmps.size:=by rw [ha];exact Nat.le_of_ble_eq_true rfl
        refine wp_region_held_drew (S:=ThrS b3 gt i (.slice (some ⟨gt,0,none⟩) nt ct) (.slice (some ⟨G i,0,none⟩) m q)) (by kernel_rfl) hS0 (fun hS=>?_)
        refine take_at 0 93 (v:=.pointer (some ⟨b3,8,none⟩)) rfl rfl (by kernel_rfl) (by kernel_rfl) (by kernel_rfl) (fun _ _ _ h=>h) (yi_field (b:=b3) (k:=0) rfl 29 (.tmp 4) 2 rfl (by (simp (discharger:=(first | decide | omega | (simp only [Act.size_put];omega))) only [Act.eval_put_same,Act.eval_put_ne,eval_const,f0,f1,f2]);all_goals rfl) Tryz.underlying29 rfl (fun w'=>by go_simp)) hS ?_
        refine take_at 1 94 (v:=.slice (some ⟨gt,0,none⟩) nt ct) rfl rfl (by kernel_rfl) (by kernel_rfl) (by kernel_rfl) (fun _ _ _ h=>h) (yi_load1 rfl 27 (.tmp 93) rfl (by (simp (discharger:=(first | decide | omega | (simp only [Act.size_put];omega))) only [Act.eval_put_same,Act.eval_put_ne,eval_const,f0,f1,f2]);all_goals rfl) (fun w' h=>by have h8:=h.c8;go_simp)) hS ?_
        refine take_at 2 95 (v:=.int .i64 i) rfl rfl (by kernel_rfl) (by kernel_rfl) (by kernel_rfl) (fun _ _ _ h=>h) (yi_move rfl (.tmp 10) rfl (by (simp (discharger:=(first | decide | omega | (simp only [Act.size_put];omega))) only [Act.eval_put_same,Act.eval_put_ne,eval_const,f0,f1,f2]);all_goals rfl)) hS ?_
        refine take_at 3 96 (v:=.pointer (some ⟨gt,i,none⟩)) rfl rfl (by kernel_rfl) (by kernel_rfl) (by kernel_rfl) (fun _ _ _ h=>h) (yi_index rfl 27 (.tmp 94) (.tmp 95) rfl (by (simp (discharger:=(first | decide | omega | (simp only [Act.size_put];omega))) only [Act.eval_put_same,Act.eval_put_ne,eval_const,f0,f1,f2]);all_goals rfl) (by (simp (discharger:=(first | decide | omega | (simp only [Act.size_put];omega))) only [Act.eval_put_same,Act.eval_put_ne,eval_const,f0,f1,f2]);all_goals rfl) hi1) hS ?_
        refine take_at 4 97 (v:=.slice (some ⟨G i,0,none⟩) m q) rfl rfl (by kernel_rfl) (by kernel_rfl) (by kernel_rfl) (fun _ _ _ h=>h) (yi_load1 rfl 50 (.tmp 96) rfl (by (simp (discharger:=(first | decide | omega | (simp only [Act.size_put];omega))) only [Act.eval_put_same,Act.eval_put_ne,eval_const,f0,f1,f2]);all_goals rfl) (fun w' h=>by have h9:=h.c9;go_simp)) hS ?_
        refine take_at 5 98 (v:=.int .i64 k) rfl rfl (by kernel_rfl) (by kernel_rfl) (by kernel_rfl) (fun _ _ _ h=>h) (yi_move rfl (.tmp 11) rfl (by (simp (discharger:=(first | decide | omega | (simp only [Act.size_put];omega))) only [Act.eval_put_same,Act.eval_put_ne,eval_const,f0,f1,f2]);all_goals rfl)) hS ?_
        refine take_at 6 99 (v:=.pointer (some ⟨b3,8,none⟩)) rfl rfl (by kernel_rfl) (by kernel_rfl) (by kernel_rfl) (fun _ _ _ h=>h) (yi_field (b:=b3) (k:=0) rfl 29 (.tmp 4) 2 rfl (by (simp (discharger:=(first | decide | omega | (simp only [Act.size_put];omega))) only [Act.eval_put_same,Act.eval_put_ne,eval_const,f0,f1,f2]);all_goals rfl) Tryz.underlying29 rfl (fun w'=>by go_simp)) hS ?_
        refine take_at 7 100 (v:=.slice (some ⟨gt,0,none⟩) nt ct) rfl rfl (by kernel_rfl) (by kernel_rfl) (by kernel_rfl) (fun _ _ _ h=>h) (yi_load1 rfl 27 (.tmp 99) rfl (by (simp (discharger:=(first | decide | omega | (simp only [Act.size_put];omega))) only [Act.eval_put_same,Act.eval_put_ne,eval_const,f0,f1,f2]);all_goals rfl) (fun w' h=>by have h8:=h.c8;go_simp)) hS ?_
        refine take_at 8 101 (v:=.int .i64 i) rfl rfl (by kernel_rfl) (by kernel_rfl) (by kernel_rfl) (fun _ _ _ h=>h) (yi_move rfl (.tmp 10) rfl (by (simp (discharger:=(first | decide | omega | (simp only [Act.size_put];omega))) only [Act.eval_put_same,Act.eval_put_ne,eval_const,f0,f1,f2]);all_goals rfl)) hS ?_
        refine take_at 9 102 (v:=.pointer (some ⟨gt,i,none⟩)) rfl rfl (by kernel_rfl) (by kernel_rfl) (by kernel_rfl) (fun _ _ _ h=>h) (yi_index rfl 27 (.tmp 100) (.tmp 101) rfl (by (simp (discharger:=(first | decide | omega | (simp only [Act.size_put];omega))) only [Act.eval_put_same,Act.eval_put_ne,eval_const,f0,f1,f2]);all_goals rfl) (by (simp (discharger:=(first | decide | omega | (simp only [Act.size_put];omega))) only [Act.eval_put_same,Act.eval_put_ne,eval_const,f0,f1,f2]);all_goals rfl) hi1) hS ?_
        refine take_at 10 103 (v:=.slice (some ⟨G i,0,none⟩) m q) rfl rfl (by kernel_rfl) (by kernel_rfl) (by kernel_rfl) (fun _ _ _ h=>h) (yi_load1 rfl 50 (.tmp 102) rfl (by (simp (discharger:=(first | decide | omega | (simp only [Act.size_put];omega))) only [Act.eval_put_same,Act.eval_put_ne,eval_const,f0,f1,f2]);all_goals rfl) (fun w' h=>by have h9:=h.c9;go_simp)) hS ?_
        refine take_at 11 104 (v:=.int .i64 k) rfl rfl (by kernel_rfl) (by kernel_rfl) (by kernel_rfl) (fun _ _ _ h=>h) (yi_move rfl (.tmp 11) rfl (by (simp (discharger:=(first | decide | omega | (simp only [Act.size_put];omega))) only [Act.eval_put_same,Act.eval_put_ne,eval_const,f0,f1,f2]);all_goals rfl)) hS ?_
        refine take_at 12 105 (v:=.pointer (some ⟨G i,k * 2,none⟩)) rfl rfl (by kernel_rfl) (by kernel_rfl) (by kernel_rfl) (fun _ _ _ h=>h) (yi_index rfl 50 (.tmp 103) (.tmp 104) rfl (by (simp (discharger:=(first | decide | omega | (simp only [Act.size_put];omega))) only [Act.eval_put_same,Act.eval_put_ne,eval_const,f0,f1,f2]);all_goals rfl) (by (simp (discharger:=(first | decide | omega | (simp only [Act.size_put];omega))) only [Act.eval_put_same,Act.eval_put_ne,eval_const,f0,f1,f2]);all_goals rfl) hi2) hS ?_
        refine take_at 13 106 (v:=.pointer (some ⟨G i,k * 2 + 1,none⟩)) rfl rfl (by kernel_rfl) (by kernel_rfl) (by kernel_rfl) (fun _ _ _ h=>h) (yi_field (b:=G i) (k:=k * 2) rfl 53 (.tmp 105) 1 rfl (by (simp (discharger:=(first | decide | omega | (simp only [Act.size_put];omega))) only [Act.eval_put_same,Act.eval_put_ne,eval_const,f0,f1,f2]);all_goals rfl) Tryz.underlying53 rfl (fun w'=>by go_simp)) hS ?_
        refine take_at 15 108 (v:=.int .i64 i) rfl rfl (by kernel_rfl) (by kernel_rfl) (by kernel_rfl) (fun _ _ _ h=>h) (yi_move rfl (.tmp 10) rfl (by (simp (discharger:=(first | decide | omega | (simp only [Act.size_put];omega))) only [Act.eval_put_same,Act.eval_put_ne,eval_const,f0,f1,f2]);all_goals rfl)) hS ?_
        refine take_at 16 109 (v:=.int .i64 (100 * (i:Int))) rfl rfl (by kernel_rfl) (by kernel_rfl) (by kernel_rfl) (fun _ _ _ h=>h) (yi_mul rfl (.const (.int .i64 100)) (.tmp 108) rfl (eval_const _ _) (by (simp (discharger:=(first | decide | omega | (simp only [Act.size_put];omega))) only [Act.eval_put_same,Act.eval_put_ne,eval_const,f0,f1,f2]);all_goals rfl) hm1) hS ?_
        refine take_at 17 110 (v:=.int .i64 k) rfl rfl (by kernel_rfl) (by kernel_rfl) (by kernel_rfl) (fun _ _ _ h=>h) (yi_move rfl (.tmp 11) rfl (by (simp (discharger:=(first | decide | omega | (simp only [Act.size_put];omega))) only [Act.eval_put_same,Act.eval_put_ne,eval_const,f0,f1,f2]);all_goals rfl)) hS ?_
        refine take_at 18 111 (v:=.int .i64 (100 * (i:Int) + (k:Int))) rfl rfl (by kernel_rfl) (by kernel_rfl) (by kernel_rfl) (fun _ _ _ h=>h) (yi_add rfl (.tmp 109) (.tmp 110) rfl (by (simp (discharger:=(first | decide | omega | (simp only [Act.size_put];omega))) only [Act.eval_put_same,Act.eval_put_ne,eval_const,f0,f1,f2]);all_goals rfl) (by (simp (discharger:=(first | decide | omega | (simp only [Act.size_put];omega))) only [Act.eval_put_same,Act.eval_put_ne,eval_const,f0,f1,f2]);all_goals rfl) hm2) hS ?_
        refine pair_at 14 19 107 112 (.load 51 (.tmp 106)) (.buildSlice 51 1 #[(0,.tmp 111)]) (v:=.slice R n c) (u:=.slice (some ⟨wr.drew.heap.size,0,none⟩) 1 1) (w2:=wr.drew.alloc (.cells #[.int .i64 (100 * (i:Int) + (k:Int))] 2)) (by kernel_rfl) rfl rfl rfl rfl rfl rfl rfl rfl (by kernel_rfl) (by kernel_rfl) (by decide) (by decide) ?_ ?_ hS (hS.below HA.out) ?_
        ·rintro K o a' w' (⟨rfl,rfl⟩ | ⟨rfl,rfl⟩) hd ho hK
         ·exact wp_load_i64s (.tmp 106) ho (by (simp (discharger:=(first | decide | omega | (simp only [Act.size_put];omega))) only [Act.eval_put_same,Act.eval_put_ne,eval_const,f0,f1,f2]);all_goals rfl) c3 hK
         ·exact wp_load_i64s (.tmp 106) ho (by (simp (discharger:=(first | decide | omega | (simp only [Act.size_put];omega))) only [Act.eval_put_same,Act.eval_put_ne,eval_const,f0,f1,f2]);all_goals rfl) (by rw [HA.out.cell hgl];exact c3) hK
        ·rintro K o a' (rfl | rfl) hd ho hK
         ·exact wp_build_i64 (.tmp 111) ho (by (simp (discharger:=(first | decide | omega | (simp only [Act.size_put];omega))) only [Act.eval_put_same,Act.eval_put_ne,eval_const,f0,f1,f2]);all_goals rfl) hK
         ·exact wp_build_i64 (.tmp 111) ho (by (simp (discharger:=(first | decide | omega | (simp only [Act.size_put];omega))) only [Act.eval_put_same,Act.eval_put_ne,eval_const,f0,f1,f2]);all_goals rfl) hK
        refine step_at 20 (some 113) (.call { callee:=.builtin .append,args:=#[.tmp 107,.tmp 112],argTypes:=#[51,51] }) (by kernel_rfl) rfl rfl rfl rfl fun K o hd ho hK=>wp_append_any _ (.tmp 107) (.tmp 112) 51 ho B 2 i0 (.int .i64 0) 1 8 Tryz.underlying51 hi0 hz0 hz1 hz2 rfl (by decide) (.slice R n c) n (rows i64C (X (i,k))) (by (simp (discharger:=(first | decide | omega | (simp only [Act.size_put];omega))) only [Act.eval_put_same,Act.eval_put_ne,eval_const,f0,f1,f2]);all_goals rfl) HOWNA.out _ (some ⟨wr.drew.heap.size,0,none⟩) 1 1 [.int .i64 (100 * (i:Int) + (k:Int))] (by (simp (discharger:=(first | decide | omega | (simp only [Act.size_put];omega))) only [Act.eval_put_same,Act.eval_put_ne,eval_const,f0,f1,f2]);all_goals rfl) HRD.out HONE.out hla hlb hlc ?_
        intro v' w5 hown5 hgrow hat
        obtain ⟨b,c',rfl,H5⟩:=jobs_app HJD.out HGS.out HT.out (by have:=HM.out;simp only;omega) HGB.out HA.out HV.out HN.out hgrow hown5 hat HK4.out HCST.out
        have y1:=H5.out.1
        have y2:=H5.out.2.1
        have y3:=H5.out.2.2.1
        have y4:=H5.out.2.2.2.1.trans rfl
        have y5:=H5.out.2.2.2.2.1.trans HCI.out
        have HR5:=Lib.hid H5.out.2.2.2.2.2.2.2
        have hS5:ThrS b3 gt i (.slice (some ⟨gt,0,none⟩) nt ct) (.slice (some ⟨G i,0,none⟩) m q) w5:=⟨y4,y5⟩
        rw [hd]
        refine hK.out _ _ hS5 ?_
        clear hK hd ho o K hown5 hgrow hat H5
        refine take_at 21 114 (v:=.pointer (some ⟨G i,k * 2,none⟩)) rfl rfl (by kernel_rfl) (by kernel_rfl) (by kernel_rfl) (fun _ _ _ h=>h) (yi_index rfl 50 (.tmp 97) (.tmp 98) rfl (by (simp (discharger:=(first | decide | omega | (simp only [Act.size_put];omega))) only [Act.eval_put_same,Act.eval_put_ne,eval_const,f0,f1,f2]);all_goals rfl) (by (simp (discharger:=(first | decide | omega | (simp only [Act.size_put];omega))) only [Act.eval_put_same,Act.eval_put_ne,eval_const,f0,f1,f2]);all_goals rfl) hi2) hS5 ?_
        refine take_at 22 115 (v:=.pointer (some ⟨G i,k * 2 + 1,none⟩)) rfl rfl (by kernel_rfl) (by kernel_rfl) (by kernel_rfl) (fun _ _ _ h=>h) (yi_field (b:=G i) (k:=k * 2) rfl 53 (.tmp 114) 1 rfl (by (simp (discharger:=(first | decide | omega | (simp only [Act.size_put];omega))) only [Act.eval_put_same,Act.eval_put_ne,eval_const,f0,f1,f2]);all_goals rfl) Tryz.underlying53 rfl (fun w'=>by go_simp)) hS5 ?_
        refine step_at 23 none (.store 51 (.tmp 115) (.tmp 113)) (by kernel_rfl) rfl rfl rfl rfl fun K o hd ho hK=>wp_store1 51 (.tmp 115) (.tmp 113) ho hd (by (simp (discharger:=(first | decide | omega | (simp only [Act.size_put];omega))) only [Act.eval_put_same,Act.eval_put_ne,eval_const,f0,f1,f2]);all_goals rfl) (by (simp (discharger:=(first | decide | omega | (simp only [Act.size_put];omega))) only [Act.eval_put_same,Act.eval_put_ne,eval_const,f0,f1,f2]);all_goals rfl) (i64s_store y1 y2) (hK.out _ _ (hS5.set HNE8.out HNE9.out) ?_)
        clear hK hd ho o K
        refine wpAnyH_done (by kernel_rfl) ?_ _
        clear hS hS5 hS0 f0 f1 f2 hsz hi1 hi2 hm1 hm2 y1 y2 y4 y5
        subst ha
        simp only [Act.put,List.setIfInBounds_toArray,List.set_cons_zero,List.set_cons_succ]
        go_wp2_with fail
        go_meet
        exact Lib.hid ⟨_,_,HR5.out⟩
       obtain ⟨b,c',hj6⟩:=hcut.out
       have HJ6:=Lib.hid hj6
       clear hj6 hcut
       obtain ⟨V2,hV2⟩:∃ V2,V2=upd V (i,k) (.slice (some ⟨b,0,none⟩) (n + 1) c'):=⟨_,rfl⟩
       have HV2:Hid (V2 (i,k)=.slice (some ⟨b,0,none⟩) (n + 1) c'):=Lib.hid (by rw [hV2,upd_same])
       rw [← hV2] at HJ6
       have HY:Hid (∃ ys:List Int,ys.length=n + 1∧(∀ q:Nat,q < 0→ys[q]?=some (1000 * (i:Int) + 10 * (k:Int) + (q:Int)))∧Jobs B w4 wc T G V2 (upd X (i,k) ys)):=Lib.hid ⟨_,by rw [List.length_append,List.length_singleton,← HN.out],fun q hq=>by omega,HJ6.out⟩
       clear hV2
       go_upto_region 21 with fail
       go_loopg [12] (n + 1) (fun gk jv W=>∃ j:Nat,jv=.int .i64 j∧j ≤ n + 1∧gk + j=n + 1∧Hid (∃ ys:List Int,ys.length=n + 1∧(∀ q:Nat,q < j→ys[q]?=some (1000 * (i:Int) + 10 * (k:Int) + (q:Int)))∧Jobs B w4 W T G V2 (upd X (i,k) ys)))
       case atStart=>exact ⟨0,rfl,Nat.zero_le _,rfl,HY⟩
       case round =>
        clear HY HJ6 HJ HKW HBT HTJ HJD HTD HOWN HOWNA HA HRD
        obtain ⟨j,rfl,hj,hgj,HY⟩:=hrel
        have HGJ2:=Lib.hid hgj
        clear hgj
        obtain ⟨ys,hyl,hys,hJ⟩:=HY.out
        have hbx:=hJ.frm.blkk HK4.out (by decide)
        have p8:=(hbx.cell 8).trans (show _=some (Value.slice (some ⟨gt,0,none⟩) nt ct) from rfl)
        have pl:=hbx.lt
        obtain ⟨cst,hcst⟩:=(HGT.out (by omega)).2.1
        have hbt:=hJ.frm.blkk hcst (by decide)
        have p9:wr.cell? ⟨gt,i,none⟩=some (.slice (some ⟨G i,0,none⟩) m q):=by
         rw [hbt.cell,← hcst.cell]
         exact (HGT.out (by omega)).2.2 i _ HT.out
        have pg:=hbt.lt
        have htj:Tab wr (G i) 53 m fun k=>V2 (i,k):=by have h:=hJ.tab i _ HT.out (by have:=HM.out;simp only;omega);simp only at h;rw [← HM.out] at h;exact h
        have c3:wr.cell? ⟨G i,k * 2 + 1,none⟩=some (.slice (some ⟨b,0,none⟩) (n + 1) c'):=by rw [← HV2.out];exact htj.cell hkm
        have hgl:G i < wr.heap.size:=htj.lt
        by_cases hjn:j < n + 1
        ·have j1:decide ((j:Int) < ((n + 1:Nat):Int))=true:=decide_eq_true (by omega)
         have j2:decide (j < n + 1)=true:=decide_eq_true hjn
         have j3:(j:Int) < ((n + 1:Nat):Int):=by omega
         have j4:decide ((j:Int) < (n:Int) + 1)=true:=decide_eq_true (by omega)
         have j5:(j:Int) < (n:Int) + 1:=by omega
         have zj:IntKind.i64.wrap ((j:Int) + 1)=(j:Int) + 1:=by rw [IntKind.wrap_i64];omega
         have m1:IntKind.i64.wrap (1000 * (i:Int))=1000 * (i:Int):=by rw [IntKind.wrap_i64];omega
         have m2:IntKind.i64.wrap (10 * (k:Int))=10 * (k:Int):=by rw [IntKind.wrap_i64];omega
         have m3:IntKind.i64.wrap (1000 * (i:Int) + 10 * (k:Int))=1000 * (i:Int) + 10 * (k:Int):=by rw [IntKind.wrap_i64];omega
         have m4:IntKind.i64.wrap (1000 * (i:Int) + 10 * (k:Int) + (j:Int))=1000 * (i:Int) + 10 * (k:Int) + (j:Int):=by rw [IntKind.wrap_i64];omega
         have hown:=hJ.row.own (i,k) HP.out
         rw [upd_same,HV2.out] at hown
         obtain ⟨v,hv⟩:∃ v,ys[j]?=some v:=⟨_,List.getElem?_eq_getElem (by omega)⟩
         have x1:=own_cell hown hv
         have hown2:=hown
         rw [hyl] at hown2
         have xf:=hown2.frozenAt j
         have hbl:b < wr.heap.size:=(hown.lt b rfl).2
         have HY2:Hid (∃ ys:List Int,ys.length=n + 1∧(∀ q:Nat,q < j + 1→ys[q]?=some (1000 * (i:Int) + 10 * (k:Int) + (q:Int)))∧Jobs B w4 (wr.setCell ⟨b,j,none⟩ (.int .i64 (1000 * (i:Int) + 10 * (k:Int) + (j:Int)))) T G V2 (upd X (i,k) ys)):=Lib.hid ⟨ys.set j (1000 * (i:Int) + 10 * (k:Int) + (j:Int)),by rw [List.length_set];exact hyl,set_upto (F:=fun q=>1000 * (i:Int) + 10 * (k:Int) + (q:Int)) hyl hjn hys,by
          have h:=hJ.store HP.out (j:=j) HV2.out (1000 * (i:Int) + 10 * (k:Int) + (j:Int))
          rw [upd_upd,upd_same] at h
          exact h⟩
         clear hys hJ hbx hcst hbt htj hown hown2 hv hyl
         go_wp2
         go_roundg (n + 1 - (j + 1))
         case measure=>have:=HGJ2.out;omega
         case rel=>exact ⟨j + 1,by simp,by omega,by omega,HY2⟩
        ·have j1:decide ((j:Int) < ((n + 1:Nat):Int))=false:=decide_eq_false (by omega)
         have j2:decide (j < n + 1)=false:=decide_eq_false hjn
         have j4:decide ((j:Int) < (n:Int) + 1)=false:=decide_eq_false (by omega)
         have HJ2:=Lib.hid hJ
         have HD2:Hid (∀ p,argP T p→Dn i (k + 1) p→goodX T p (upd X (i,k) ys p)):=Lib.hid fun p hp hd=>by
          by_cases he:p=(i,k)
          ·subst he
           rw [upd_same]
           exact ⟨by rw [hyl,HNX.out],fun q hq=>hys q (by omega)⟩
          ·rw [upd_ne X _ he]
           refine HDN.out p hp ?_
           unfold Dn at hd ⊢
           rcases hd with hd | ⟨hd1,hd2⟩
           ·exact .inl hd
           ·refine .inr ⟨hd1,?_⟩
            have:p.2 ≠ k:=fun h=>he (Prod.ext hd1 h)
            omega
         have HR2:Hid (∀ p,¬ Dn i (k + 1) p→upd X (i,k) ys p=argX T p):=Lib.hid fun p hd=>by
          have he:p ≠ (i,k):=fun h=>hd (by rw [h];exact .inr ⟨rfl,Nat.lt_succ_self k⟩)
          rw [upd_ne X _ he]
          exact HRS.out p fun h=>hd (by unfold Dn at h ⊢;rcases h with h | ⟨h1,h2⟩;exact .inl h;exact .inr ⟨h1,by omega⟩)
         clear hys hJ hbx hcst hbt htj hyl
         go_wp2
         go_roundg (m - (k + 1))
         case measure=>have:=HGK.out;omega
         case rel=>exact ⟨k + 1,V2,_,by simp,by omega,by omega,HJ2,HD2,HR2⟩
      ·have f1:decide ((k:Int) < (m:Int))=false:=decide_eq_false (by omega)
       have f2:decide (k < m)=false:=decide_eq_false hkm
       have HD2:Hid (∀ p,argP T p→Dn (i + 1) 0 p→goodX T p (X p)):=Lib.hid fun p hp hd=>HDN.out p hp (by
        obtain ⟨t,j,h1,h2⟩:=hp
        unfold Dn at hd ⊢
        by_cases he:p.1=i
        ·refine .inr ⟨he,?_⟩
         rw [he,HT.out] at h1
         obtain rfl:=Option.some.inj h1
         have h3:=(List.getElem?_eq_some_iff.1 h2).1
         have h4:=HM.out
         simp only at h3
         omega
        ·exact .inl (by omega))
       have HR2:Hid (∀ p,¬ Dn (i + 1) 0 p→X p=argX T p):=Lib.hid fun p hd=>HRS.out p (fun h=>hd (by unfold Dn at h ⊢;rcases h with h | h <;> exact .inl (by omega)))
       go_wp2
       go_roundg (nt - (i + 1))
       case measure=>have:=HG.out;omega
       case rel=>exact ⟨i + 1,V,X,by simp,by omega,by omega,HJ,HD2,HR2⟩
    ·have e1:decide ((i:Int) < (nt:Int))=false:=decide_eq_false (by omega)
     have e2:decide (i < nt)=false:=decide_eq_false hil
     obtain ⟨w5,hw5⟩:∃ W,W=wr:=⟨_,rfl⟩
     rw [← hw5] at HJ p8 pl ⊢
     clear hw5
     have HTL:Hid (0 < nl→Tab w5 g 49 nl VL):=Lib.hid fun h=>HJ.out.frm.tabk (HTAB1.out h) (by decide)
     have HRL:Hid (Rowz B w5 3 (· < nl) VL XL):=Lib.hid (HJ.out.frm.rowk HROW1.out (by decide))
     have HXA:Hid (∀ p,argP T p→goodX T p (X p)):=Lib.hid fun p hp=>HDN.out p hp (by
      obtain ⟨t,j,h1,_⟩:=hp
      have h2:=(List.getElem?_eq_some_iff.1 h1).1
      have h3:=HLEN.out.1
      exact .inl (by omega))
     clear HTAB1 HROW1 HDN HRS HG hi hil
     go_upto_region 25 with fail
     clear e1 e2 p8 pl
     go_loopg [13] nl (fun gk iv W=>∃ i:Nat,iv=.int .i64 i∧i ≤ nl∧gk + i=nl∧W=w5)
     case atStart=>exact ⟨0,rfl,Nat.zero_le _,rfl,rfl⟩
     case round =>
      obtain ⟨i,rfl,hi,hgk,hwr⟩:=hrel
      obtain rfl:=hwr.symm
      clear hwr
      have HG:=Lib.hid hgk
      clear hgk
      by_cases hil:i < nl
      ·have e1:decide ((i:Int) < (nl:Int))=true:=decide_eq_true (by omega)
       have e2:decide (i < nl)=true:=decide_eq_true hil
       have e3:(i:Int) < (nl:Int):=by omega
       have zw:IntKind.i64.wrap ((i:Int) + 1)=(i:Int) + 1:=by rw [IntKind.wrap_i64];omega
       obtain ⟨rfl,_⟩:=HG0.out (by omega)
       obtain ⟨m,hm⟩:∃ m,m=(lineX L i).length:=⟨_,rfl⟩
       have hm2:m ≤ 20000:=by rw [hm];exact HX0.out i hil
       have hd1:=HD1.out i hil
       rw [← hm] at hd1
       obtain ⟨R,c,hV,hR⟩:=own_at (HRL.out.own i hil)
       rw [hd1.1] at hV hR
       obtain ⟨b,rfl,_,hbl⟩:=hR (by omega)
       have HD:=Lib.hid hd1.2
       have HLX:=Lib.hid hd1.1
       have HOW:=Lib.hid (HRL.out.own i hil)
       have HV:=Lib.hid hV
       have c1:w5.cell? ⟨g,i * 2 + 1,none⟩=some (.slice (some ⟨b,0,none⟩) (m + 1) c):=by rw [← hV];exact (HTL.out (by omega)).cell hil
       have hgl:g < w5.heap.size:=(HTL.out (by omega)).lt
       clear hd1 hm hV hR
       go_upto_region 28 with fail
       go_loopg [14] m (fun gk kv W=>∃ k:Nat,kv=.int .i64 k∧k ≤ m∧gk + k=m∧W=w5)
       case atStart=>exact ⟨0,rfl,Nat.zero_le _,rfl,rfl⟩
       case round =>
        obtain ⟨k,rfl,hk,hgkk,hwr⟩:=hrel
        obtain rfl:=hwr.symm
        clear hwr
        have HGK:=Lib.hid hgkk
        clear hgkk
        have zk:IntKind.i64.wrap ((k:Int) + 1)=(k:Int) + 1:=by rw [IntKind.wrap_i64];omega
        by_cases hkm:k < m
        ·have f1:decide ((k:Int) + 1 < (m:Int) + 1)=true:=decide_eq_true (by omega)
         have f2:decide (k < m)=true:=decide_eq_true hkm
         have f3:(k:Int) < (m:Int) + 1:=by omega
         have f4:decide ((k:Int) < (m:Int))=true:=decide_eq_true (by omega)
         have zm:IntKind.i64.wrap (1000 * (i:Int))=1000 * (i:Int):=by rw [IntKind.wrap_i64];omega
         have zs:IntKind.i64.wrap (1000 * (i:Int) + (k:Int))=1000 * (i:Int) + (k:Int):=by rw [IntKind.wrap_i64];omega
         have x1:w5.cell? ⟨b,k,none⟩=some (.int .i64 (1000 * (i:Int) + (k:Int))):=by
          have h:=HOW.out
          rw [HV.out] at h
          exact own_cell h (HD.out k hkm)
         have q1:((1000 * (i:Int) + (k:Int)) != (1000 * (i:Int) + (k:Int)))=false:=by simp
         go_wp2
         go_roundg (m - (k + 1))
         case measure=>have:=HGK.out;omega
         case rel=>exact ⟨k + 1,by simp,by omega,by omega,rfl⟩
        ·have f1:decide ((k:Int) + 1 < (m:Int) + 1)=false:=decide_eq_false (by omega)
         have f2:decide (k < m)=false:=decide_eq_false hkm
         have f4:decide ((k:Int) < (m:Int))=false:=decide_eq_false (by omega)
         go_wp2
         go_roundg (nl - (i + 1))
         case measure=>have:=HG.out;omega
         case rel=>exact ⟨i + 1,by simp,by omega,by omega,rfl⟩
      ·have e1:decide ((i:Int) < (nl:Int))=false:=decide_eq_false (by omega)
       have e2:decide (i < nl)=false:=decide_eq_false hil
       have hbx:=HJ.out.frm.blkk HK4.out (by decide)
       have HBX:=Lib.hid hbx
       have p8:=(hbx.cell 8).trans (show _=some (Value.slice Rt nt ct) from rfl)
       have pl:=hbx.lt
       clear hbx hi hil HG
       go_upto_region 33 with fail
       clear e1 e2
       go_loopg [15] nt (fun gk iv W=>∃ i:Nat,iv=.int .i64 i∧i ≤ nt∧gk + i=nt∧W=w5)
       case atStart=>exact ⟨0,rfl,Nat.zero_le _,rfl,rfl⟩
       case round =>
        obtain ⟨i,rfl,hi,hgk,hwr⟩:=hrel
        obtain rfl:=hwr.symm
        clear hwr
        have HG:=Lib.hid hgk
        clear hgk
        by_cases hil:i < nt
        ·have e1:decide ((i:Int) < (nt:Int))=true:=decide_eq_true (by omega)
         have e2:decide (i < nt)=true:=decide_eq_true hil
         have e3:(i:Int) < (nt:Int):=by omega
         have zw:IntKind.i64.wrap ((i:Int) + 1)=(i:Int) + 1:=by rw [IntKind.wrap_i64];omega
         obtain ⟨rfl,⟨cst,hcst⟩,hgt⟩:=HGT.out (by omega)
         obtain ⟨⟨vt,js⟩,ht⟩:∃ t,T[i]?=some t:=⟨_,List.getElem?_eq_getElem (by have:=HLEN.out.1;omega)⟩
         obtain ⟨Q,q,hvt⟩:=HJB.out i _ ht
         simp only at hvt
         subst hvt
         obtain ⟨m,hm⟩:∃ m,m=js.length:=⟨_,rfl⟩
         rw [← hm] at ht
         have hbt:=HJ.out.frm.blkk hcst (by decide)
         have p9:w5.cell? ⟨gt,i,none⟩=some (.slice Q m q):=by
          rw [hbt.cell,← hcst.cell]
          exact hgt i _ ht
         have pg:=hbt.lt
         have HT:=Lib.hid ht
         have HM:=Lib.hid hm
         have hm32:m ≤ 32:=by rw [hm];exact HT8.out.2 i _ ht
         clear hm ht hcst hgt hbt
         go_upto_region 36 with fail
         go_loopg [16] m (fun gk kv W=>∃ k:Nat,kv=.int .i64 k∧k ≤ m∧gk + k=m∧W=w5)
         case atStart=>exact ⟨0,rfl,Nat.zero_le _,rfl,rfl⟩
         case round =>
          obtain ⟨k,rfl,hk,hgkk,hwr⟩:=hrel
          obtain rfl:=hwr.symm
          clear hwr
          have HGK:=Lib.hid hgkk
          clear hgkk
          by_cases hkm:k < m
          ·have f1:decide ((k:Int) < (m:Int))=true:=decide_eq_true (by omega)
           have f2:decide (k < m)=true:=decide_eq_true hkm
           have f3:(k:Int) < (m:Int):=by omega
           have zk:IntKind.i64.wrap ((k:Int) + 1)=(k:Int) + 1:=by rw [IntKind.wrap_i64];omega
           obtain ⟨jb,hjb⟩:∃ j,js[k]?=some j:=⟨_,List.getElem?_eq_getElem (by have:=HM.out;omega)⟩
           have hP:argP T (i,k):=⟨_,jb,HT.out,hjb⟩
           have hjs:0 < js.length:=by have:=HM.out;omega
           have htj:Tab w5 (G i) 53 m fun k=>V (i,k):=by have h:=HJ.out.tab i _ HT.out hjs;simp only at h;rw [← HM.out] at h;exact h
           obtain ⟨⟨c9,hq⟩,_⟩:=HGJ.out i _ HT.out hjs
           simp only at hq
           injection hq with hq1 hq2 hq3
           subst hq1
           obtain ⟨n,hn⟩:∃ n,n=(X (i,k)).length:=⟨_,rfl⟩
           have hgx:=HXA.out (i,k) hP
           have hn5:1 ≤ n∧n ≤ 5:=by have h1:=hgx.1;have h2:=HA4.out _ hP;omega
           have hown:=HJ.out.row.own (i,k) hP
           obtain ⟨R,c,hV,hR⟩:=own_at hown
           rw [← hn] at hV hR
           obtain ⟨b,rfl,_,hbl⟩:=hR (by omega)
           have c3:w5.cell? ⟨G i,k * 2 + 1,none⟩=some (.slice (some ⟨b,0,none⟩) n c):=by rw [← hV];exact htj.cell hkm
           have hgl:G i < w5.heap.size:=htj.lt
           have HXX:=Lib.hid hgx.2
           rw [hV] at hown
           have HOW:=Lib.hid hown
           have HN:=Lib.hid hn
           clear hjb hP hjs htj hq2 hq3 hn hgx hown hV hR
           go_upto_region 39 with fail
           go_loopg [17] n (fun gk jv W=>∃ j:Nat,jv=.int .i64 j∧j ≤ n∧gk + j=n∧W=w5)
           case atStart=>exact ⟨0,rfl,Nat.zero_le _,rfl,rfl⟩
           case round =>
            obtain ⟨j,rfl,hj,hgj,hwr⟩:=hrel
            obtain rfl:=hwr.symm
            clear hwr
            have HGJ2:=Lib.hid hgj
            clear hgj
            by_cases hjn:j < n
            ·have j1:decide ((j:Int) < (n:Int))=true:=decide_eq_true (by omega)
             have j2:decide (j < n)=true:=decide_eq_true hjn
             have j3:(j:Int) < (n:Int):=by omega
             have zj:IntKind.i64.wrap ((j:Int) + 1)=(j:Int) + 1:=by rw [IntKind.wrap_i64];omega
             have m1:IntKind.i64.wrap (1000 * (i:Int))=1000 * (i:Int):=by rw [IntKind.wrap_i64];omega
             have m2:IntKind.i64.wrap (10 * (k:Int))=10 * (k:Int):=by rw [IntKind.wrap_i64];omega
             have m3:IntKind.i64.wrap (1000 * (i:Int) + 10 * (k:Int))=1000 * (i:Int) + 10 * (k:Int):=by rw [IntKind.wrap_i64];omega
             have m4:IntKind.i64.wrap (1000 * (i:Int) + 10 * (k:Int) + (j:Int))=1000 * (i:Int) + 10 * (k:Int) + (j:Int):=by rw [IntKind.wrap_i64];omega
             have x1:w5.cell? ⟨b,j,none⟩=some (.int .i64 (1000 * (i:Int) + 10 * (k:Int) + (j:Int))):=own_cell HOW.out (HXX.out j (by rw [← HN.out];exact hjn))
             have q1:((1000 * (i:Int) + 10 * (k:Int) + (j:Int)) != (1000 * (i:Int) + 10 * (k:Int) + (j:Int)))=false:=by simp
             go_wp2
             go_roundg (n - (j + 1))
             case measure=>have:=HGJ2.out;omega
             case rel=>exact ⟨j + 1,by simp,by omega,by omega,rfl⟩
            ·have j1:decide ((j:Int) < (n:Int))=false:=decide_eq_false (by omega)
             have j2:decide (j < n)=false:=decide_eq_false hjn
             go_wp2
             go_roundg (m - (k + 1))
             case measure=>have:=HGK.out;omega
             case rel=>exact ⟨k + 1,by simp,by omega,by omega,rfl⟩
          ·have f1:decide ((k:Int) < (m:Int))=false:=decide_eq_false (by omega)
           have f2:decide (k < m)=false:=decide_eq_false hkm
           go_wp2
           go_roundg (nt - (i + 1))
           case measure=>have:=HG.out;omega
           case rel=>exact ⟨i + 1,by simp,by omega,by omega,rfl⟩
        ·have e1:decide ((i:Int) < (nt:Int))=false:=decide_eq_false (by omega)
         have e2:decide (i < nt)=false:=decide_eq_false hil
         have HB5:Hid (Below w.heap.size w w5):=Lib.hid (by
          have h0:w.heap.size ≤ B:=by rw [HBB.out];exact HB1.out.size
          have h2:Below w.heap.size w w3:=HB1.out.trans ((HB12.out.trans (HB23.out.mono HB12.out.size)).mono HB1.out.size)
          have h3:Below w.heap.size w3 w4:=HFR1.out.below h2.size fun q hq=>Nat.le_trans h0 hq.1
          have h4:Below w.heap.size w w4:=h2.trans h3
          exact h4.trans (HJ.out.frm.below h4.size fun q hq=>Nat.le_trans h0 hq.1))
         obtain ⟨ur,hur⟩:∃ n,n=x.set.regs.length:=⟨_,rfl⟩
         obtain ⟨up,hup⟩:∃ n,n=x.set.progs.length:=⟨_,rfl⟩
         obtain ⟨ut,hut⟩:∃ n,n=x.set.thr.length:=⟨_,rfl⟩
         obtain ⟨ul,hul⟩:∃ n,n=x.lines.length:=⟨_,rfl⟩
         have HP1:Hid (∀ W,Below w.heap.size w W→Calls Tryz.prog 9 #[.string s] W fun e w'=>Below W.heap.size W w'∧∃ Rr cr Rp cp Rt ct Rl cl,e=.returned (.tuple #[.agg #[.int .i64 a0,.int .i64 a1,.int .i64 a2,.int .i64 a3,.bool a4,.int .i64 a5,.slice Rr ur cr,.slice Rp up cp,.slice Rt ut ct],.slice Rl ul cl,.int .i64 0,.int .i64 0])∧SetRd w' w'.heap.size x.set (.slice Rr ur cr) (.slice Rp up cp) (.slice Rt ut ct)∧LinesRd w' w'.heap.size x.lines (.slice Rl ul cl)):=Lib.hid fun W hW=>(HRD.out W hW).mono fun e w' ⟨h1,Rr,cr,Rp,cp,Rt,ct,Rl,cl,h2,h3,h4⟩=>by
          subst hur hup hut hul
          exact ⟨h1,Rr,cr,Rp,cp,Rt,ct,Rl,cl,by rw [h2,← HCF.out];rfl,h3,h4⟩
         have HP2:Hid (∀ W,Calls Tryz.prog 10 #[.string s] W fun e w'=>Below W.heap.size W w'∧∃ Rr cr Rp cp Rt ct Rl cl,e=.returned (.agg #[.int .i64 a0,.int .i64 a1,.int .i64 a2,.int .i64 a3,.bool a4,.int .i64 a5,.slice Rr ur cr,.slice Rp up cp,.slice Rt ut ct,.slice Rl ul cl,.int .i64 0,.int .i64 0])∧SetRd w' w'.heap.size x.set (.slice Rr ur cr) (.slice Rp up cp) (.slice Rt ut ct)∧LinesRd w' w'.heap.size x.lines (.slice Rl ul cl)):=Lib.hid fun W=>(HRP.out W).mono fun e w' ⟨h1,rv,pv,tv,lv,h2,h3,h4⟩=>by
          obtain ⟨Rr,cr,Rp,cp,Rt,ct,rfl,rfl,rfl⟩:=set_shape h3
          obtain ⟨_,Rl,cl,_,rfl,_⟩:=id h4
          subst hur hup hut hul
          exact ⟨h1,Rr,cr,Rp,cp,Rt,ct,Rl,cl,h2,h3,h4⟩
         have HSS:Hid (∀ W C v1 v2 v3 v1' v2' v3',C ≤ W.heap.size→SetRd W C x.set v1 v2 v3→SetRd W C x.set v1' v2' v3'→Calls Tryz.prog 11 #[.agg #[.int .i64 a0,.int .i64 a1,.int .i64 a2,.int .i64 a3,.bool a4,.int .i64 a5,v1,v2,v3],.agg #[.int .i64 a0,.int .i64 a1,.int .i64 a2,.int .i64 a3,.bool a4,.int .i64 a5,v1',v2',v3']] W fun e w'=>e=.returned (.bool true)∧Below W.heap.size W w'):=Lib.hid fun W C v1 v2 v3 v1' v2' v3' h1 h2 h3=>setups_same ⟨a0,a1,a2,a3,a4,a5⟩ x.set C v1 v2 v3 v1' v2' v3' W h1 h2 h3
         clear hur hup hut hul HRD HRP HPP
         go_upto_region 43 with fail
         clear e1 e2 p8 pl hil hi
         go_upto_region 44 with (go_at_call 9;refine (HP1.out w5 HB5.out).mono ?_;rintro e v2 ⟨hb2,Ur,vr,Up,vp,Ut,vt,Ul,vl,rfl,hs2,hl2⟩;have HV2:=Lib.hid (HB5.out.trans (hb2.mono HB5.out.size));have HS2:=Lib.hid hs2;have HL2:=Lib.hid hl2;clear hb2 hs2 hl2)
         obtain ⟨v3,hv3⟩:∃ W,W=v2.alloc (.cells #[.int .i64 a0,.int .i64 a1,.int .i64 a2,.int .i64 a3,.bool a4,.int .i64 a5,.slice Ur ur vr,.slice Up up vp,.slice Ut ut vt] 29):=⟨_,rfl⟩
         obtain ⟨d3,hd3⟩:∃ b,b=v2.heap.size:=⟨_,rfl⟩
         have HL3:Hid (Blk v3 d3 29 #[.int .i64 a0,.int .i64 a1,.int .i64 a2,.int .i64 a3,.bool a4,.int .i64 a5,.slice Ur ur vr,.slice Up up vp,.slice Ut ut vt]):=Lib.hid (by rw [hv3,hd3];exact Blk.new _ _ _)
         have HV23:Hid (Below v2.heap.size v2 v3):=Lib.hid (hv3 ▸ (Below.refl _ _).alloc (Nat.le_refl _) _)
         rw [← hv3,← hd3]
         clear hv3 hd3
         go_upto_region 45 with (go_at_call 10;refine (HP2.out v3).mono ?_;rintro e v4 ⟨hb4,Qr,dr,Qp,dp,Qt,dt,Ql,dl,rfl,hs4,hl4⟩;have HV34:=Lib.hid hb4;have HS4:=Lib.hid hs4;have HL4:=Lib.hid hl4;clear hb4 hs4 hl4)
         obtain ⟨v5,hv5⟩:∃ W,W=v4.alloc (.cells #[.int .i64 a0,.int .i64 a1,.int .i64 a2,.int .i64 a3,.bool a4,.int .i64 a5,.slice Qr ur dr,.slice Qp up dp,.slice Qt ut dt,.slice Ql ul dl,.int .i64 0,.int .i64 0] 35):=⟨_,rfl⟩
         obtain ⟨d5,hd5⟩:∃ b,b=v4.heap.size:=⟨_,rfl⟩
         have HL5:Hid (Blk v5 d5 35 #[.int .i64 a0,.int .i64 a1,.int .i64 a2,.int .i64 a3,.bool a4,.int .i64 a5,.slice Qr ur dr,.slice Qp up dp,.slice Qt ut dt,.slice Ql ul dl,.int .i64 0,.int .i64 0]):=Lib.hid (by rw [hv5,hd5];exact Blk.new _ _ _)
         have HV45:Hid (Below v4.heap.size v4 v5):=Lib.hid (hv5 ▸ (Below.refl _ _).alloc (Nat.le_refl _) _)
         rw [← hv5,← hd5]
         clear hv5 hd5
         have HV24:Hid (Below v2.heap.size v2 v4):=Lib.hid (HV23.out.trans (HV34.out.mono HV23.out.size))
         have HV25:Hid (Below v2.heap.size v2 v5):=Lib.hid (HV24.out.trans (HV45.out.mono HV24.out.size))
         have HV35:Hid (Below v3.heap.size v3 v5):=Lib.hid (HV34.out.trans (HV45.out.mono HV34.out.size))
         have HKA:Hid (Blk v5 d3 29 #[.int .i64 a0,.int .i64 a1,.int .i64 a2,.int .i64 a3,.bool a4,.int .i64 a5,.slice Ur ur vr,.slice Up up vp,.slice Ut ut vt]):=Lib.hid (HL3.out.below HV35.out HL3.out.lt)
         have HSA:=Lib.hid ((HS2.out.below HV25.out).more HV24.out.size)
         have HSB:=Lib.hid (HS4.out.below HV45.out)
         have HLA:=Lib.hid ((HL2.out.below HV25.out).more HV24.out.size)
         have HLB:=Lib.hid (HL4.out.below HV45.out)
         have p0:=(HKA.out.cell 0).trans (show _=some (Value.int .i64 a0) from rfl)
         have p1:=(HKA.out.cell 1).trans (show _=some (Value.int .i64 a1) from rfl)
         have p2:=(HKA.out.cell 2).trans (show _=some (Value.int .i64 a2) from rfl)
         have p3:=(HKA.out.cell 3).trans (show _=some (Value.int .i64 a3) from rfl)
         have p4:=(HKA.out.cell 4).trans (show _=some (Value.bool a4) from rfl)
         have p5:=(HKA.out.cell 5).trans (show _=some (Value.int .i64 a5) from rfl)
         have p6:=(HKA.out.cell 6).trans (show _=some (Value.slice Ur ur vr) from rfl)
         have p7:=(HKA.out.cell 7).trans (show _=some (Value.slice Up up vp) from rfl)
         have p8:=(HKA.out.cell 8).trans (show _=some (Value.slice Ut ut vt) from rfl)
         have pl:=HKA.out.lt
         have q0:=(HL5.out.cell 0).trans (show _=some (Value.int .i64 a0) from rfl)
         have q1:=(HL5.out.cell 1).trans (show _=some (Value.int .i64 a1) from rfl)
         have q2:=(HL5.out.cell 2).trans (show _=some (Value.int .i64 a2) from rfl)
         have q3:=(HL5.out.cell 3).trans (show _=some (Value.int .i64 a3) from rfl)
         have q4:=(HL5.out.cell 4).trans (show _=some (Value.bool a4) from rfl)
         have q5:=(HL5.out.cell 5).trans (show _=some (Value.int .i64 a5) from rfl)
         have q6:=(HL5.out.cell 6).trans (show _=some (Value.slice Qr ur dr) from rfl)
         have q7:=(HL5.out.cell 7).trans (show _=some (Value.slice Qp up dp) from rfl)
         have q8:=(HL5.out.cell 8).trans (show _=some (Value.slice Qt ut dt) from rfl)
         have q9:=(HL5.out.cell 9).trans (show _=some (Value.slice Ql ul dl) from rfl)
         have q10:=(HL5.out.cell 10).trans (show _=some (Value.int .i64 0) from rfl)
         have q11:=(HL5.out.cell 11).trans (show _=some (Value.int .i64 0) from rfl)
         have ql:=HL5.out.lt
         go_upto_region 46 with (go_at_call 11;refine (HSS.out v5 v4.heap.size _ _ _ _ _ _ HV45.out.size HSA.out HSB.out).mono ?_;rintro e v6 ⟨rfl,hb6⟩;have HV56:=Lib.hid hb6;clear hb6)
         clear p0 p1 p2 p3 p4 p5 p6 p7 p8 pl q0 q1 q2 q3 q4 q5 q6 q7 q8 q9 q10 q11 ql
         have HV46:Hid (Below v4.heap.size v4 v6):=Lib.hid (HV45.out.trans (HV56.out.mono HV45.out.size))
         have HKB:=Lib.hid (HL5.out.below HV56.out HL5.out.lt)
         have q9:=(HKB.out.cell 9).trans (show _=some (Value.slice Ql ul dl) from rfl)
         have ql:=HKB.out.lt
         have HLA6:=Lib.hid (HLA.out.below (HV56.out.mono HV45.out.size))
         have HLB6:=Lib.hid (HLB.out.below (HV56.out.mono HV45.out.size))
         go_upto_region 47 with (go_at_call 12;refine (lines_same x.lines v4.heap.size _ _ v6 HV46.out.size HLA6.out HLB6.out).mono ?_;rintro e v7 ⟨rfl,m7,hw7⟩;have HV67:Hid (Below v6.heap.size v6 v7):=Lib.hid (hw7 ▸ below_drewN (Below.refl _ _) m7);clear hw7)
         clear q9 ql
         go_wp2
         go_ret
         have h27:Below v2.heap.size v2 v7:=(HV25.out.trans (HV56.out.mono HV25.out.size)).trans (HV67.out.mono (HV25.out.trans (HV56.out.mono HV25.out.size)).size)
         exact ⟨rfl,HV2.out.trans (h27.mono HV2.out.size)⟩
theorem law_apart {C:Nat} (s:ByteArray) (w:World) (hE:EnvP C w):Calls Tryz.prog 7 #[.string s] w fun e w'=>e=.returned (.bool true)∧Below w.heap.size w w':=by
 cases hp:parseS s.data.toList with
 | ok x=>exact apart_ok s x w hE hp
 | error y =>
  have HSH:=Lib.hid (shown_any w hE)
  have h9:=parseS_err hp
  have HPP:Hid (∀ W,Below w.heap.size w W→Calls Tryz.prog 9 #[.string s] W fun e w'=>Below W.heap.size W w'∧e=.returned (.tuple #[.agg (setupC noCfg nilC nilC nilC),nilC,.int .i64 y.1,.int .i64 y.2])):=Lib.hid fun W hW=>(pparse_any s W (hE.later hW)).mono fun e w' ⟨hb,h⟩=>by
   rw [hp] at h
   exact ⟨hb,h⟩
  obtain ⟨y1,y2⟩:=y
  simp only at HPP h9
  have e1:((y1:Int) != 0)=true:=by simp;omega
  have e2:decide (y1=0)=false:=decide_eq_false (by omega)
  have e3:(y1 == 0)=false:=by simp;omega
  simp only [setupC,noCfg,nilC] at HPP
  clear hE hp
  go_enter Tryz.func7,Tryz.ntmps7
  go_wp2_with (first
   | (go_at_call 8;refine HSH.out.mono ?_;rintro e w1 ⟨rfl,hb1⟩;have HB1:=Lib.hid hb1;clear hb1)
   | (go_at_call 9;refine (HPP.out _ HB1.out).mono ?_;rintro e w2 ⟨hb2,rfl⟩;have HB2:=Lib.hid (HB1.out.trans (hb2.mono HB1.out.size));clear hb2))
  go_ret
  exact ⟨rfl,HB2.out.alloc HB2.out.size _⟩
end Go.Proofs.YtiheggkkgbfndaaGreatDoor
