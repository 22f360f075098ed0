/- carouselref24: the first line. -/
import Derived.Test.YtiheggkkgbfndaaGreatDoorL30
import Derived.Test.YtiheggkkgbfndaaGreatDoorL31
import Derived.Test.YtiheggkkgbfndaaGreatDoorL20
namespace Go.Proofs.YtiheggkkgbfndaaGreatDoor
open Go.RowKit Go.Joins Go.ChangeShapes Go.WideShapes Go.Deep
set_option linter.unusedVariables false
set_option linter.unusedSimpArgs false
set_option maxRecDepth 100000
def numsL:List (List UInt8)→Option (List Nat)
 | []=>some []
 | s :: l=>match natF s,numsL l with
  | some n,some r=>some (n :: r)
  | _,_=>none
theorem numsL_snoc:∀ (l:List (List UInt8)) (s:List UInt8),numsL (l ++ [s])=match numsL l,natF s with | some r,some x=>some (r ++ [x]) | _,_=>none
 | [],s=>by
  rw [List.nil_append,numsL,numsL]
  cases natF s <;> rfl
 | a :: l,s=>by
  rw [List.cons_append,numsL,numsL_snoc l s,numsL]
  cases natF a <;> cases numsL l <;> cases natF s <;> rfl
theorem numsL_app:∀ {l r:List (List UInt8)},numsL l=none→numsL (l ++ r)=none
 | [],r,h=>by cases h
 | a :: l,r,h=>by
  rw [numsL] at h
  rw [List.cons_append,numsL]
  cases ha:natF a with
  | none=>rfl
  | some x =>
   cases hl:numsL l with
   | none=>rw [numsL_app hl]
   | some y=>rw [ha,hl] at h;cases h
theorem nums_next {l:List (List UInt8)} {i:Nat} {s:List UInt8} {A:List Nat} {n:Nat} (h:l[i]?=some s) (h1:numsL (l.take i)=some A) (h2:natF s=some n):numsL (l.take (i + 1))=some (A ++ [n]):=by
 rw [take_snoc l i s h,numsL_snoc,h1,h2]
theorem nums_bad {l:List (List UInt8)} {i:Nat} {s:List UInt8} {k:Nat} (hk:i < k) (h:l[i]?=some s) (h2:natF s=none):numsL (l.take k)=none:=by
 have h3:numsL (l.take (i + 1))=none:=by
  rw [take_snoc l i s h,numsL_snoc,h2]
  cases numsL (l.take i) <;> rfl
 have h4:=numsL_app (r:=(l.take k).drop (i + 1)) h3
 have h5:l.take (i + 1)=(l.take k).take (i + 1):=by rw [List.take_take,Nat.min_eq_left (by omega)]
 rw [h5,List.take_append_drop] at h4
 exact h4
def cfgO (m:Bool):Option (List Nat)→Option Cfg
 | some [a,b,c,d,e]=>some ⟨(a:Int),(b:Int),(c:Int),(d:Int),m,(e:Int)⟩
 | _=>none
theorem nums_five (a b c d e:List UInt8) (m:Bool):(match numIn a 0 maxI,numIn b 0 maxI,numIn c 0 maxI,numIn d 0 maxI,numIn e 0 maxI with
       | some a,some b,some c,some d,some e=>some (⟨a,b,c,d,m,e⟩:Cfg)
       | _,_,_,_,_=>none)=cfgO m (numsL [a,b,c,d,e]):=by
  rw [numIn_natF,numIn_natF,numIn_natF,numIn_natF,numIn_natF]
  unfold numsL numsL numsL numsL numsL numsL
  cases natF a with
  | none=>rfl
  | some xa=>cases natF b with
    | none=>rfl
    | some xb=>cases natF c with
      | none=>rfl
      | some xc=>cases natF d with
        | none=>rfl
        | some xd=>cases natF e with
          | none=>rfl
          | some xe=>rfl
theorem configL_eq {l w a b c d e k:List UInt8} (hs:splitF 32 l=[w,a,b,c,d,e,k]):configL l=if w=wConfig∧(k=wSingle ∨ k=wMulti) then cfgO (k == wMulti) (numsL [a,b,c,d,e]) else none:=by
 unfold configL
 rw [hs]
 simp only
 split
 ·exact nums_five a b c d e _
 ·rfl
theorem configL_no {l:List UInt8} (h:(splitF 32 l).length ≠ 7):configL l=none:=by
 unfold configL
 split
 ·rename_i w a b c d e k hs
  rw [hs] at h
  exact absurd rfl h
 ·rfl
def cfgV (c:Cfg):Value:=.agg #[.int .i64 c.raw,.int .i64 c.ring,.int .i64 c.writes,.int .i64 c.stamps,.bool c.multi,.int .i64 c.tries,.slice none 0 0]
def ConfigPost (l:List UInt8) (w:World) (e:Ending) (w':World):Prop:=Below w.heap.size w w'∧∃ (c:Cfg) (b:Bool),e=.returned (.tuple #[cfgV c,.bool b])∧b=(configL l).isSome∧∀ c',configL l=some c'→c'=c
theorem ConfigPost.no {l:List UInt8} {w w':World} {c:Cfg} (hb:Below w.heap.size w w') (h:configL l=none):ConfigPost l w (.returned (.tuple #[cfgV c,.bool false])) w':=⟨hb,c,false,rfl,by rw [h];rfl,fun c' hc=>by rw [h] at hc;cases hc⟩
theorem ConfigPost.yes {l:List UInt8} {w w':World} {c:Cfg} (hb:Below w.heap.size w w') (h:configL l=some c):ConfigPost l w (.returned (.tuple #[cfgV c,.bool true])) w':=⟨hb,c,true,rfl,by rw [h];rfl,fun c' hc=>by rw [h] at hc;injection hc with hc;exact hc.symm⟩
theorem results_cfg {fn:Func} (h:fn.results=#[.cell 2 25,.tmp 3]) (tmps:Array Value) (w:World) {rb:Nat} {c:Cfg} {b:Bool} (h2:tmps.getD 2 undef=.pointer (some ⟨rb,0,none⟩)) (h3:tmps.getD 3 undef=.bool b)
  (hK:Blk w rb 25 #[.int .i64 c.raw,.int .i64 c.ring,.int .i64 c.writes,.int .i64 c.stamps,.bool c.multi,.int .i64 c.tries,.slice none 0 0]):(results fn tmps).run Tryz.prog w=.ok (.tuple #[cfgV c,.bool b]) w:=by
 have r0:w.cell? ⟨rb,0,none⟩=some (.int .i64 c.raw):=(hK.cell 0).trans rfl
 have r1:w.cell? ⟨rb,1,none⟩=some (.int .i64 c.ring):=(hK.cell 1).trans rfl
 have r2:w.cell? ⟨rb,2,none⟩=some (.int .i64 c.writes):=(hK.cell 2).trans rfl
 have r3:w.cell? ⟨rb,3,none⟩=some (.int .i64 c.stamps):=(hK.cell 3).trans rfl
 have r4:w.cell? ⟨rb,4,none⟩=some (.bool c.multi):=(hK.cell 4).trans rfl
 have r5:w.cell? ⟨rb,5,none⟩=some (.int .i64 c.tries):=(hK.cell 5).trans rfl
 have r6:w.cell? ⟨rb,6,none⟩=some (.slice none 0 0):=(hK.cell 6).trans rfl
 have hl:=hK.lt
 simp only [Array.getD_eq_getD_getElem?] at h2 h3
 simp [results,h,h2,h3,go_sem,r0,r1,r2,r3,r4,r5,r6,cfgV]
theorem below_seven {B:Nat} {w w1:World} {rb:Nat} (h:Below B w w1) (hB:B ≤ rb) (a b c d e f g:Value):Below B w (((((((w1.setCell ⟨rb,0,none⟩ a).setCell ⟨rb,1,none⟩ b).setCell ⟨rb,2,none⟩ c).setCell ⟨rb,3,none⟩ d).setCell ⟨rb,4,none⟩ e).setCell ⟨rb,5,none⟩ f).setCell ⟨rb,6,none⟩ g) :=
 ((((((h.setCell hB _).setCell hB _).setCell hB _).setCell hB _).setCell hB _).setCell hB _).setCell hB _
theorem blk_seven {w1:World} {rb:Nat} {x0 x1 x2 x3 x4 x5 x6:Value} {t:TypeId} (h:Blk w1 rb t #[x0,x1,x2,x3,x4,x5,x6]) (a b c d e f g:Value):Blk (((((((w1.setCell ⟨rb,0,none⟩ a).setCell ⟨rb,1,none⟩ b).setCell ⟨rb,2,none⟩ c).setCell ⟨rb,3,none⟩ d).setCell ⟨rb,4,none⟩ e).setCell ⟨rb,5,none⟩ f).setCell ⟨rb,6,none⟩ g) rb t #[a,b,c,d,e,f,g]:=by
 have h0:Blk _ rb t #[a,x1,x2,x3,x4,x5,x6]:=h.set_ 0 a
 have h1:Blk _ rb t #[a,b,x2,x3,x4,x5,x6]:=h0.set_ 1 b
 have h2:Blk _ rb t #[a,b,c,x3,x4,x5,x6]:=h1.set_ 2 c
 have h3:Blk _ rb t #[a,b,c,d,x4,x5,x6]:=h2.set_ 3 d
 have h4:Blk _ rb t #[a,b,c,d,e,x5,x6]:=h3.set_ 4 e
 have h5:Blk _ rb t #[a,b,c,d,e,f,x6]:=h4.set_ 5 f
 exact h5.set_ 6 g
def noCfg:Cfg:=⟨0,0,0,0,false,0⟩
set_option maxHeartbeats 4000000 in
theorem rconfig_any (s:ByteArray) (hs:s.size ≤ 65535) (w:World):Calls Tryz.prog 21 #[.string s] w (ConfigPost s.data.toList w):=by
 have HWO:=Lib.hid (fun W=>swords_any s hs W)
 have hlz:s.data.toList.length ≤ 65535:=by
  have h1:s.data.toList.length=s.size:=Array.length_toList
  omega
 have HBR:=Lib.hid (brief_split hlz)
 clear hlz
 obtain ⟨w0,hw0⟩:∃ w0,w0=w.alloc (.cells #[.int .i64 0,.int .i64 0,.int .i64 0,.int .i64 0,.bool false,.int .i64 0,.slice none 0 0] 25):=⟨_,rfl⟩
 obtain ⟨rb,hrb⟩:∃ rb,rb=w.heap.size:=⟨_,rfl⟩
 have HK0:Hid (Blk w0 rb 25 #[.int .i64 0,.int .i64 0,.int .i64 0,.int .i64 0,.bool false,.int .i64 0,.slice none 0 0]):=Lib.hid (by rw [hw0,hrb];exact Blk.new _ _ _)
 have HB0:Hid (Below w.heap.size w w0):=Lib.hid (hw0 ▸ (Below.refl _ _).alloc (Nat.le_refl _) _)
 have HRB:Hid (rb=w.heap.size):=Lib.hid hrb
 go_enter Tryz.func21,Tryz.ntmps21
 go_upto_region 1 with fail
 rw [← hw0,← hrb]
 clear hw0 hrb
 go_upto_region 2 with (go_at_call 50;refine (HWO.out _).mono ?_;rintro e w1 ⟨v,rfl,hown,hb1⟩)
 obtain ⟨g,cap,rfl,hgB,hgl⟩:=hown.form (by have:=splitF_length 32 s.data.toList;omega)
 obtain ⟨ws,hws⟩:∃ ws,ws=splitF 32 s.data.toList:=⟨_,rfl⟩
 rw [← hws] at hown
 have HW1:Hid (WordsAt w1 w1.heap.size g ws):=Lib.hid (WordsAt.of_own hown)
 obtain ⟨m,hm⟩:∃ m,m=ws.length:=⟨_,rfl⟩
 rw [← hws,← hm]
 have HWS:=Lib.hid hws
 have HMM:=Lib.hid hm
 have HB1:=Lib.hid hb1
 have HBW:Hid (Below w.heap.size w w1):=Lib.hid (HB0.out.trans (hb1.mono HB0.out.size))
 have HK1:Hid (Blk w1 rb 25 #[.int .i64 0,.int .i64 0,.int .i64 0,.int .i64 0,.bool false,.int .i64 0,.slice none 0 0]):=Lib.hid (HK0.out.below hb1 HK0.out.lt)
 clear hws hm hown hgB hb1 hgl
 have hgl1:=HW1.out.lt
 have hrl:=HK1.out.lt
 have r0:w1.cell? ⟨rb,0,none⟩=some (.int .i64 0):=(HK1.out.cell 0).trans rfl
 have r1:w1.cell? ⟨rb,1,none⟩=some (.int .i64 0):=(HK1.out.cell 1).trans rfl
 have r2:w1.cell? ⟨rb,2,none⟩=some (.int .i64 0):=(HK1.out.cell 2).trans rfl
 have r3:w1.cell? ⟨rb,3,none⟩=some (.int .i64 0):=(HK1.out.cell 3).trans rfl
 have r4:w1.cell? ⟨rb,4,none⟩=some (.bool false):=(HK1.out.cell 4).trans rfl
 have r5:w1.cell? ⟨rb,5,none⟩=some (.int .i64 0):=(HK1.out.cell 5).trans rfl
 have r6:w1.cell? ⟨rb,6,none⟩=some (.slice none 0 0):=(HK1.out.cell 6).trans rfl
 have f0:=HK1.out.frozen 0
 have f1:=HK1.out.frozen 1
 have f2:=HK1.out.frozen 2
 have f3:=HK1.out.frozen 3
 have f4:=HK1.out.frozen 4
 have f5:=HK1.out.frozen 5
 have f6:=HK1.out.frozen 6
 by_cases h7:m=7
 ·subst h7
  obtain ⟨u,xa,xb,xc,xd,xe,xk,hws⟩:∃ u a b c d e k,ws=[u,a,b,c,d,e,k]:=by
   match ws,HMM.out with
   | [u,a,b,c,d,e,k],_=>exact ⟨u,a,b,c,d,e,k,rfl⟩
  subst hws
  have HEQ:=Lib.hid (configL_eq HWS.out.symm)
  obtain ⟨su,hsu⟩:∃ su:ByteArray,su=⟨u.toArray⟩:=⟨_,rfl⟩
  have hsul:su.data.toList=u:=by rw [hsu]
  have c0:w1.cell? ⟨g,0,none⟩=some (.string su):=by rw [hsu];exact HW1.out.cell 0 u rfl
  have HSU:=Lib.hid hsul
  clear hsu hsul
  by_cases hcf:u=wConfig
  ·have q1:(su.toList == [99,111,110,102,105,103])=true:=str_yes (HSU.out.trans hcf)
   have HCF:=Lib.hid hcf
   clear hcf
   go_upto_region 6 with fail
   have HAT:Hid (∀ i:Nat,1 ≤ i→i < 6→∃ x,[xa,xb,xc,xd,xe][i - 1]?=some x∧[u,xa,xb,xc,xd,xe,xk][i]?=some x):=Lib.hid fun i h1 h2=>by
    obtain ⟨j,rfl⟩:∃ j,i=j + 1:=⟨i - 1,by omega⟩
    match j,h2 with
    | 0,_=>exact ⟨xa,rfl,rfl⟩
    | 1,_=>exact ⟨xb,rfl,rfl⟩
    | 2,_=>exact ⟨xc,rfl,rfl⟩
    | 3,_=>exact ⟨xd,rfl,rfl⟩
    | 4,_=>exact ⟨xe,rfl,rfl⟩
   obtain ⟨l5,hl5⟩:∃ l5,l5=[xa,xb,xc,xd,xe]:=⟨_,rfl⟩
   have HL5:=Lib.hid hl5
   rw [← hl5] at HAT HEQ
   clear hl5 c0 r0 r1 r2 r3 r4 r5 r6 f0 f1 f2 f3 f4 f5 f6 q1
   obtain ⟨i0,hi,hz0,hz1,hz2⟩:=info_parts info_i64
   go_loopg [5,6,7,8] 6 (fun gk nv iv _ _ W=>∃ (i:Nat) (A:List Nat),iv=.int .i64 i∧1 ≤ i∧i ≤ 6∧gk + i=7∧A.length + 1=i∧W.ownsRow w1.heap.size 2 1 nv A.length (rows natC A)∧Hid (numsL (l5.take (i - 1))=some A)∧Below w1.heap.size w1 W)
   case atStart=>exact ⟨1,[],rfl,Nat.le_refl _,by omega,rfl,rfl,World.ownsRow_nil _ _ _ _,Lib.hid rfl,Below.refl _ _⟩
   case round =>
    obtain ⟨i,A,rfl,h1i,hi6,hgk,hAl,hown,HI,hbw⟩:=hrel
    have HG:=Lib.hid hgk
    have HKW:=Lib.hid (HK1.out.below hbw hrl)
    have HBW2:Hid (Below w.heap.size w wr):=Lib.hid (HBW.out.trans (hbw.mono HBW.out.size))
    have hrl2:=HKW.out.lt
    have hgl2:g < wr.heap.size:=Nat.lt_of_lt_of_le hgl1 hbw.size
    clear hgk
    by_cases hil:i < 6
    ·have e3:decide ((i:Int) < 6)=true:=decide_eq_true (by omega)
     have e4:decide (i < 6)=true:=decide_eq_true hil
     have hi7:(i:Int) < 7:=by omega
     obtain ⟨x,hx5,hx7⟩:=HAT.out i h1i hil
     obtain ⟨sx,hsx⟩:∃ sx:ByteArray,sx=⟨x.toArray⟩:=⟨_,rfl⟩
     have hsxl:sx.data.toList=x:=by rw [hsx]
     have ci:wr.cell? ⟨g,i,none⟩=some (.string sx):=by rw [hsx];exact (HW1.out.below hbw).cell i x hx7
     have hsxz:sx.size ≤ 4294967296:=by
      have h1:sx.size=sx.data.toList.length:=Array.length_toList.symm
      have h2:=HBR.out.each x (by rw [← HWS.out];exact List.mem_of_getElem? hx7)
      rw [h1,hsxl];omega
     have zw:IntKind.i64.wrap ((i:Int) + 1)=(i:Int) + 1:=by rw [IntKind.wrap_i64];omega
     have HNM:=Lib.hid (rNumber_any sx wr hsxz)
     unfold NatPost at HNM
     rw [hsxl] at HNM
     obtain ⟨on,hon⟩:∃ on,on=natF x:=⟨_,rfl⟩
     rw [← hon] at HNM
     have HON:=Lib.hid hon
     have HX5:=Lib.hid hx5
     have HOW:=Lib.hid hown
     have HBX:=Lib.hid hbw
     have hs0:=hbw.size
     clear hon hx5 hx7 hsx hsxl hsxz hown hbw
     cases on with
     | none =>
      have HN:Hid (configL s.data.toList=none):=Lib.hid (by
       have h5:l5.take 5=l5:=by rw [HL5.out];rfl
       have:=nums_bad (k:=5) (by omega) HX5.out HON.out.symm
       rw [h5] at this
       rw [HEQ.out,this]
       split <;> rfl)
      have r0:wr.cell? ⟨rb,0,none⟩=some (.int .i64 0):=(HKW.out.cell 0).trans rfl
      have r1:wr.cell? ⟨rb,1,none⟩=some (.int .i64 0):=(HKW.out.cell 1).trans rfl
      have r2:wr.cell? ⟨rb,2,none⟩=some (.int .i64 0):=(HKW.out.cell 2).trans rfl
      have r3:wr.cell? ⟨rb,3,none⟩=some (.int .i64 0):=(HKW.out.cell 3).trans rfl
      have r4:wr.cell? ⟨rb,4,none⟩=some (.bool false):=(HKW.out.cell 4).trans rfl
      have r5:wr.cell? ⟨rb,5,none⟩=some (.int .i64 0):=(HKW.out.cell 5).trans rfl
      have r6:wr.cell? ⟨rb,6,none⟩=some (.slice none 0 0):=(HKW.out.cell 6).trans rfl
      have f0:=HKW.out.frozen 0
      have f1:=HKW.out.frozen 1
      have f2:=HKW.out.frozen 2
      have f3:=HKW.out.frozen 3
      have f4:=HKW.out.frozen 4
      have f5:=HKW.out.frozen 5
      have f6:=HKW.out.frozen 6
      go_upto_region 9 with (go_at_call 51;refine HNM.out.mono ?_;rintro e w2 ⟨hw,n',hm64,rfl,hmv⟩;obtain rfl:=hw.symm)
      (try simp only [Option.isSome_none])
      clear hmv
      go_wp2
      refine bodyPost_ret (results_cfg rfl _ _ (c:=noCfg) (b:=false) rfl rfl (blk_seven HKW.out _ _ _ _ _ _ _)) rfl ?_
      exact ConfigPost.no (below_seven HBW2.out (by have:=HRB.out;omega) _ _ _ _ _ _ _) HN.out
     | some n =>
      go_upto_region 9 with (go_at_call 51;refine HNM.out.mono ?_;rintro e w2 ⟨hw,n',hm64,rfl,hmv⟩;obtain rfl:=hw.symm)
      obtain rfl:=hmv n rfl
      (try simp only [Option.isSome_some])
      clear hmv hm64
      have hc2:∀ u ∈ ([.int .i64 (n:Int)]:List Value),u.oneCell'=true:=by intro u hu;simp at hu;subst hu;rfl
      have hc3:A.length + 1 ≤ maxLen:=by unfold maxLen;omega
      have hc4:(A.length + 1) * 8 ≤ 140737488355328:=by omega
      have hc5:w1.heap.size ≤ (wr.alloc (.cells #[.int .i64 (n:Int)] 2)).heap.size:=by simp;omega
      go_wp2_with (at_builtin;go_must (refine wpList_append_own _ rfl _ _ 51 rfl w1.heap.size 2 i0 (.int .i64 0) 1 8 Tryz.underlying51 hi hz0 hz1 hz2 rfl (by decide) _ _ _ rfl (HOW.out.alloc _) ⟨wr.heap.size,0,none⟩ 1 1 [.int .i64 (n:Int)] rfl rfl (cell_one_new _ _ _) hc2 hc3 hc4 hc5 ?_;intro v' w2 hown2 hgrow2 _))
      go_roundg (7 - (i + 1))
      case measure=>have:=HG.out;omega
      case rel =>
       refine ⟨i + 1,A ++ [n],by simp,by omega,by omega,by omega,by rw [List.length_append,List.length_singleton];omega,?_,Lib.hid (by rw [show i + 1 - 1=i - 1 + 1 by omega];exact nums_next HX5.out HI.out HON.out.symm),(HBX.out.alloc hs0 _).trans (below_grown (HOW.out.alloc _) hgrow2 hc5)⟩
       rw [List.length_append,List.length_singleton,rows_snoc]
       exact hown2
    ·have e3:decide ((i:Int) < 6)=false:=decide_eq_false (by omega)
     have e4:decide (i < 6)=false:=decide_eq_false hil
     obtain rfl:i=6:=by omega
     obtain ⟨a,b,c,d,e,rfl⟩:∃ a b c d e,A=[a,b,c,d,e]:=by
      match A,hAl with
      | [a,b,c,d,e],_=>exact ⟨a,b,c,d,e,rfl⟩
     have HNL:Hid (numsL l5=some [a,b,c,d,e]):=Lib.hid (by
      have h5:l5.take (6 - 1)=l5:=by rw [HL5.out];rfl
      have:=HI.out
      rwa [h5] at this)
     obtain ⟨h,ch,rfl,hhB,hhl⟩:=hown.form (by simp)
     have n0:wr.cell? ⟨h,0,none⟩=some (.int .i64 (a:Int)):=(hown.cellAt 0 (by simp)).trans rfl
     have n1:wr.cell? ⟨h,1,none⟩=some (.int .i64 (b:Int)):=(hown.cellAt 1 (by simp)).trans rfl
     have n2:wr.cell? ⟨h,2,none⟩=some (.int .i64 (c:Int)):=(hown.cellAt 2 (by simp)).trans rfl
     have n3:wr.cell? ⟨h,3,none⟩=some (.int .i64 (d:Int)):=(hown.cellAt 3 (by simp)).trans rfl
     have n4:wr.cell? ⟨h,4,none⟩=some (.int .i64 (e:Int)):=(hown.cellAt 4 (by simp)).trans rfl
     obtain ⟨sk,hsk⟩:∃ sk:ByteArray,sk=⟨xk.toArray⟩:=⟨_,rfl⟩
     have hskl:sk.data.toList=xk:=by rw [hsk]
     have c6:wr.cell? ⟨g,6,none⟩=some (.string sk):=by rw [hsk];exact (HW1.out.below hbw).cell 6 xk rfl
     have HSK:=Lib.hid hskl
     have HBX:=Lib.hid hbw
     clear hown hbw hsk hskl
     go_upto_region 12 with fail
     obtain ⟨bm,hbm⟩:∃ bm,(sk.toList == [109,117,108,116,105])=bm:=⟨_,rfl⟩
     go_cut [9] from 41 to 60 (fun bv wc=>bv=.pointer (some ⟨wr.heap.size,0,none⟩)∧Blk wc wr.heap.size 25 #[.int .i64 (a:Int),.int .i64 (b:Int),.int .i64 (c:Int),.int .i64 (d:Int),.bool bm,.int .i64 (e:Int),.slice none 0 0]∧Below wr.heap.size wr wc)
     case first =>
      go_region
      all_goals go_wp2
      all_goals go_meet
      all_goals exact ⟨rfl,by first | exact (Blk.new _ _ _).drew | exact Blk.new _ _ _,by repeat (first | with_reducible exact Below.refl _ _ | with_reducible refine Below.drew ?_ | with_reducible refine below_drewN ?_ _ | ((with_reducible refine Below.alloc ?_ ?_ _);(rotate_left;focus (first | with_reducible exact Nat.le_refl _ | omega | (simp;done) | (simp;omega) | (simp [World.setCell];done) | (simp [World.setCell];omega)))) | ((with_reducible refine Below.setCell ?_ ?_ _);(rotate_left;focus (first | with_reducible exact Nat.le_refl _ | omega | (simp;done) | (simp;omega) | (simp [World.setCell];done) | (simp [World.setCell];omega)))))⟩
     case rest =>
      obtain ⟨rfl,hkc,hbc⟩:=hcut
      obtain ⟨fb,hfb⟩:∃ fb,fb=wr.heap.size:=⟨_,rfl⟩
      rw [← hfb] at hkc ⊢
      have HFB:=Lib.hid hfb
      have HKC:=Lib.hid hkc
      have k0:wc.cell? ⟨fb,0,none⟩=some (.int .i64 (a:Int)):=(hkc.cell 0).trans rfl
      have k1:wc.cell? ⟨fb,1,none⟩=some (.int .i64 (b:Int)):=(hkc.cell 1).trans rfl
      have k2:wc.cell? ⟨fb,2,none⟩=some (.int .i64 (c:Int)):=(hkc.cell 2).trans rfl
      have k3:wc.cell? ⟨fb,3,none⟩=some (.int .i64 (d:Int)):=(hkc.cell 3).trans rfl
      have k4:wc.cell? ⟨fb,4,none⟩=some (.bool bm):=(hkc.cell 4).trans rfl
      have k5:wc.cell? ⟨fb,5,none⟩=some (.int .i64 (e:Int)):=(hkc.cell 5).trans rfl
      have k6:wc.cell? ⟨fb,6,none⟩=some (.slice none 0 0):=(hkc.cell 6).trans rfl
      have hkl:=hkc.lt
      have hkr:=HKW.out.below hbc hrl2
      have HKR:=Lib.hid hkr
      have r0:wc.cell? ⟨rb,0,none⟩=some (.int .i64 0):=(hkr.cell 0).trans rfl
      have r1:wc.cell? ⟨rb,1,none⟩=some (.int .i64 0):=(hkr.cell 1).trans rfl
      have r2:wc.cell? ⟨rb,2,none⟩=some (.int .i64 0):=(hkr.cell 2).trans rfl
      have r3:wc.cell? ⟨rb,3,none⟩=some (.int .i64 0):=(hkr.cell 3).trans rfl
      have r4:wc.cell? ⟨rb,4,none⟩=some (.bool false):=(hkr.cell 4).trans rfl
      have r5:wc.cell? ⟨rb,5,none⟩=some (.int .i64 0):=(hkr.cell 5).trans rfl
      have r6:wc.cell? ⟨rb,6,none⟩=some (.slice none 0 0):=(hkr.cell 6).trans rfl
      have f0:=hkr.frozen 0
      have f1:=hkr.frozen 1
      have f2:=hkr.frozen 2
      have f3:=hkr.frozen 3
      have f4:=hkr.frozen 4
      have f5:=hkr.frozen 5
      have f6:=hkr.frozen 6
      have hrl3:=hkr.lt
      have d6:wc.cell? ⟨g,6,none⟩=some (.string sk):=(hbc.cell (p:=⟨g,6,none⟩) hgl2).trans c6
      have hgl3:g < wc.heap.size:=Nat.lt_of_lt_of_le hgl2 hbc.size
      obtain ⟨csg,hcsg⟩:=HW1.out.blk
      have ngr:g ≠ rb:=Blk.ne_ hcsg HK1.out (by decide)
      have nrg:rb ≠ g:=Ne.symm ngr
      have nfr:fb ≠ rb:=by omega
      have nrf:rb ≠ fb:=Ne.symm nfr
      clear hcsg
      have HBC:Hid (Below w.heap.size w wc):=Lib.hid (HBW2.out.trans (hbc.mono HBW2.out.size))
      have HRW:Hid (w.heap.size ≤ rb):=Lib.hid (by have:=HRB.out;omega)
      clear hfb hkc hkr hbc c6 n0 n1 n2 n3 n4 hgl2 hrl2 hhl hhB
      have HKS:=Lib.hid (blk_seven HKR.out (.int .i64 (a:Int)) (.int .i64 (b:Int)) (.int .i64 (c:Int)) (.int .i64 (d:Int)) (.bool bm) (.int .i64 (e:Int)) (.slice none 0 0))
      have HBS:=Lib.hid (below_seven HBC.out HRW.out (.int .i64 (a:Int)) (.int .i64 (b:Int)) (.int .i64 (c:Int)) (.int .i64 (d:Int)) (.bool bm) (.int .i64 (e:Int)) (.slice none 0 0))
      cases bm
      ·have hno:xk ≠ wMulti:=fun e=>by
        have:=str_yes (HSK.out.trans e)
        rw [show (wMulti:List UInt8)=[109,117,108,116,105] from rfl,hbm] at this
        cases this
       by_cases hsg:xk=wSingle
       ·have q5:(sk.toList == [115,105,110,103,108,101])=true:=str_yes (HSK.out.trans hsg)
        have HN:Hid (configL s.data.toList=some ⟨(a:Int),(b:Int),(c:Int),(d:Int),false,(e:Int)⟩):=Lib.hid (by
         rw [HEQ.out,if_pos ⟨HCF.out,.inl hsg⟩,HNL.out]
         have:(xk == wMulti)=false:=by rw [beq_eq_false_iff_ne];exact hno
         rw [this]
         rfl)
        clear hno hsg
        go_upto_region 13 with fail
        go_region
        all_goals go_wp2
        all_goals first | (refine bodyPost_ret (results_cfg rfl _ _ (c:=⟨(a:Int),(b:Int),(c:Int),(d:Int),false,(e:Int)⟩) (b:=true) rfl rfl (HKS.out).drew) rfl ?_;exact ConfigPost.yes HBS.out.drew HN.out) | (refine bodyPost_ret (results_cfg rfl _ _ (c:=⟨(a:Int),(b:Int),(c:Int),(d:Int),false,(e:Int)⟩) (b:=true) rfl rfl HKS.out) rfl ?_;exact ConfigPost.yes HBS.out HN.out)
       ·have q5:(sk.toList == [115,105,110,103,108,101])=false:=str_no fun e=>hsg (HSK.out.symm.trans e)
        have HN:Hid (configL s.data.toList=none):=Lib.hid (by rw [HEQ.out,if_neg fun h=>h.2.elim hsg hno])
        clear hno hsg
        go_upto_region 13 with fail
        go_region
        all_goals go_wp2
        all_goals first | (refine bodyPost_ret (results_cfg rfl _ _ (c:=⟨(a:Int),(b:Int),(c:Int),(d:Int),false,(e:Int)⟩) (b:=false) rfl rfl (HKS.out).drew) rfl ?_;exact ConfigPost.no HBS.out.drew HN.out) | (refine bodyPost_ret (results_cfg rfl _ _ (c:=⟨(a:Int),(b:Int),(c:Int),(d:Int),false,(e:Int)⟩) (b:=false) rfl rfl HKS.out) rfl ?_;exact ConfigPost.no HBS.out HN.out)
      ·have hyes:xk=wMulti:=by
        have h1:=eq_of_beq hbm
        rw [ByteArray.toList_eq,HSK.out] at h1
        exact h1
       have HN:Hid (configL s.data.toList=some ⟨(a:Int),(b:Int),(c:Int),(d:Int),true,(e:Int)⟩):=Lib.hid (by
        rw [HEQ.out,if_pos ⟨HCF.out,.inr hyes⟩,HNL.out]
        have:(xk == wMulti)=true:=by rw [beq_iff_eq];exact hyes
        rw [this]
        rfl)
       clear hyes
       go_upto_region 13 with fail
       go_region
       all_goals go_wp2
       all_goals first | (refine bodyPost_ret (results_cfg rfl _ _ (c:=⟨(a:Int),(b:Int),(c:Int),(d:Int),true,(e:Int)⟩) (b:=true) rfl rfl (HKS.out).drew) rfl ?_;exact ConfigPost.yes HBS.out.drew HN.out) | (refine bodyPost_ret (results_cfg rfl _ _ (c:=⟨(a:Int),(b:Int),(c:Int),(d:Int),true,(e:Int)⟩) (b:=true) rfl rfl HKS.out) rfl ?_;exact ConfigPost.yes HBS.out HN.out)
  ·have q1:(su.toList == [99,111,110,102,105,103])=false:=str_no fun e=>hcf (HSU.out.symm.trans e)
   have HN:Hid (configL s.data.toList=none):=Lib.hid (by rw [HEQ.out,if_neg fun h=>hcf h.1])
   clear hcf
   go_wp2
   refine bodyPost_ret (results_cfg rfl _ _ (c:=noCfg) (b:=false) rfl rfl (blk_seven HK1.out _ _ _ _ _ _ _)) rfl ?_
   exact ConfigPost.no (below_seven HBW.out (by have:=HRB.out;omega) _ _ _ _ _ _ _) HN.out
 ·have q0:((m:Int) != 7)=true:=by simp;omega
  have HN:Hid (configL s.data.toList=none):=Lib.hid (configL_no (by rw [← HWS.out,← HMM.out];exact h7))
  go_wp2
  refine bodyPost_ret (results_cfg rfl _ _ (c:=noCfg) (b:=false) rfl rfl (blk_seven HK1.out _ _ _ _ _ _ _)) rfl ?_
  exact ConfigPost.no (below_seven HBW.out (by have:=HRB.out;omega) _ _ _ _ _ _ _) HN.out
theorem split_words (s:ByteArray):Go.Lib.splitB ⟨#[32]⟩ 0 (Go.Lib.countB s ⟨#[32]⟩) s=((splitF 32 s.data.toList).map fun l=>(⟨l.toArray⟩:ByteArray))∧Go.Lib.countB s ⟨#[32]⟩ + 1=(splitF 32 s.data.toList).length:=by
 have hc:Go.Lib.countB s ⟨#[32]⟩=s.data.toList.count 32:=countFrom_eq 32 _ _ (Nat.lt_succ_self _)
 refine ⟨?_,by rw [splitF_length,hc]⟩
 rw [splitB_data,hc]
 exact congrArg _ (splitK_eq 32 _ _ (Nat.le_refl _))
theorem psplit_any {C:Nat} {w:World} (hE:EnvP C w) (s:ByteArray) (hs:s.size ≤ 65535):Calls Tryz.prog 43 #[.string s,.string ⟨#[32]⟩] w fun e w'=>∃ g,e=.returned (.slice (some ⟨g,0,none⟩) (splitF 32 s.data.toList).length (splitF 32 s.data.toList).length)∧WordsAt w' w'.heap.size g (splitF 32 s.data.toList)∧Below w.heap.size w w':=by
 obtain ⟨mx,hmx⟩:=hE.m
 have h:=Tryz.strings_Split s ⟨#[32]⟩ mx w (by omega) hmx (by decide)
 obtain ⟨h1,h2⟩:=split_words s
 rw [h1,h2] at h
 refine h.mono ?_
 rintro e w' ⟨rfl,rfl⟩
 refine ⟨_,rfl,⟨by simp,⟨_,Blk.new _ _ _⟩,fun k t ht=>?_⟩,(Below.refl _ _).alloc (Nat.le_refl _) _⟩
 rw [(Blk.new w _ _).cell k]
 simp [ht]
theorem blk_cfgP {w1:World} {p:Nat} {s:ByteArray} {a n:Nat} {c:Cfg} {rv pv tv lv:Value} {k e pl:Nat} (h:Blk w1 p 56 (RdV s a n noCfg rv pv tv lv k e pl)):Blk (((((((w1.setCell ⟨p,3,none⟩ (.int .i64 c.raw)).setCell ⟨p,4,none⟩ (.int .i64 c.ring)).setCell ⟨p,5,none⟩ (.int .i64 c.writes)).setCell ⟨p,6,none⟩ (.int .i64 c.stamps)).setCell ⟨p,7,none⟩ (.bool c.multi)).setCell ⟨p,8,none⟩ (.int .i64 c.tries)).setCell ⟨p,9,none⟩ (.slice none 0 0)) p 56 (RdV s a n c (.slice none 0 0) pv tv lv k e pl):=by
 have h0:Blk _ p 56 (RdV s a n ⟨c.raw,0,0,0,false,0⟩ rv pv tv lv k e pl):=h.set_ 3 (.int .i64 c.raw)
 have h1:Blk _ p 56 (RdV s a n ⟨c.raw,c.ring,0,0,false,0⟩ rv pv tv lv k e pl):=h0.set_ 4 (.int .i64 c.ring)
 have h2:Blk _ p 56 (RdV s a n ⟨c.raw,c.ring,c.writes,0,false,0⟩ rv pv tv lv k e pl):=h1.set_ 5 (.int .i64 c.writes)
 have h3:Blk _ p 56 (RdV s a n ⟨c.raw,c.ring,c.writes,c.stamps,false,0⟩ rv pv tv lv k e pl):=h2.set_ 6 (.int .i64 c.stamps)
 have h4:Blk _ p 56 (RdV s a n ⟨c.raw,c.ring,c.writes,c.stamps,c.multi,0⟩ rv pv tv lv k e pl):=h3.set_ 7 (.bool c.multi)
 have h5:Blk _ p 56 (RdV s a n ⟨c.raw,c.ring,c.writes,c.stamps,c.multi,c.tries⟩ rv pv tv lv k e pl):=h4.set_ 8 (.int .i64 c.tries)
 exact h5.set_ 9 (.slice none 0 0)
theorem below_cfgP {B:Nat} {w w1:World} {p:Nat} (h:Below B w w1) (hB:B ≤ p) (a b c d e f g:Value):Below B w (((((((w1.setCell ⟨p,3,none⟩ a).setCell ⟨p,4,none⟩ b).setCell ⟨p,5,none⟩ c).setCell ⟨p,6,none⟩ d).setCell ⟨p,7,none⟩ e).setCell ⟨p,8,none⟩ f).setCell ⟨p,9,none⟩ g) :=
 ((((((h.setCell hB _).setCell hB _).setCell hB _).setCell hB _).setCell hB _).setCell hB _).setCell hB _
def PCfgPost (B p:Nat) (s:ByteArray) (R:Option (Nat × Cfg)) (w:World) (e:Ending) (w':World):Prop:=Below B w w'∧match R with
 | some (n,c)=>e=.returned (.bool true)∧Blk w' p 56 (RdV s 0 n c (.slice none 0 0) (.slice none 0 0) (.slice none 0 0) (.slice none 0 0) 0 0 0)
 | none=>e=.returned (.bool false)∧∃ a n,Blk w' p 56 (RdV s a n noCfg (.slice none 0 0) (.slice none 0 0) (.slice none 0 0) (.slice none 0 0) 0 0 0)
set_option maxHeartbeats 4000000 in
theorem pconfig_none {C:Nat} (B p:Nat) (s:ByteArray) (hs:s.size ≤ 65535) (w:World) (hE:EnvP C w) (hCB:C ≤ B) (hb:Blk w p 56 (RdV s 0 0 noCfg (.slice none 0 0) (.slice none 0 0) (.slice none 0 0) (.slice none 0 0) 0 0 0)) (hBw:B ≤ w.heap.size) (hBp:B ≤ p) (hno:NoEnd s 0) :
  Calls Tryz.prog 16 #[.pointer (some ⟨p,0,none⟩)] w (PCfgPost B p s none w):=by
 have HLN:=Lib.hid (line_miss hs (Nat.zero_le _) hno p 0 noCfg (.slice none 0 0) (.slice none 0 0) (.slice none 0 0) (.slice none 0 0) 0 0 0 w hb)
 have HEN:Hid (∀ W,Below B w W→EnvP C W):=Lib.hid fun W hW=>hE.below (hW.mono hCB)
 clear hno hb hE
 go_enter Tryz.func16,Tryz.ntmps16
 go_upto_region 2 with (go_at_call 42;refine HLN.out.mono ?_;rintro e w1 ⟨rfl,hF,hB1⟩;have HF:=Lib.hid hF;have HB1:=Lib.hid hB1;clear hF hB1)
 have HBW:Hid (Below B w w1):=Lib.hid (below_of_frm HF.out hBw hBp)
 have HSP:=Lib.hid (psplit_any (HEN.out w1 HBW.out) ⟨#[]⟩ (by decide))
 go_upto_region 3 with (go_at_call 43;refine HSP.out.mono ?_;rintro e w2 ⟨g,rfl,hw,hb2⟩;have HB2:=Lib.hid (hb2.mono (Nat.le_trans hBw HF.out.size));have HQ2:=Lib.hid (HB1.out.below hb2 HB1.out.lt);clear hw hb2)
 go_wp2
 go_ret
 exact ⟨HBW.out.trans HB2.out,rfl,_,_,HQ2.out⟩
end Go.Proofs.YtiheggkkgbfndaaGreatDoor
