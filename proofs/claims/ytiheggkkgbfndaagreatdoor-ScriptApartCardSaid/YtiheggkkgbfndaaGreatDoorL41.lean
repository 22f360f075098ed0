/- script.headed: walked. -/
import Derived.Test.YtiheggkkgbfndaaGreatDoorL40
import Derived.Test.YtiheggkkgbfndaaGreatDoorSi
import Derived.Deep.CutRange
import Derived.Test.YtiheggkkgbfndaaGreatDoorL16
import Derived.Test.YtiheggkkgbfndaaGreatDoorL08
import Derived.Test.YtiheggkkgbfndaaGreatDoorL26
namespace Go.Proofs.YtiheggkkgbfndaaGreatDoor
open Go.RowKit Go.Joins Go.ChangeShapes Go.WideShapes Go.Deep
set_option linter.unusedVariables false
set_option linter.unusedSimpArgs false
set_option maxRecDepth 100000
theorem reads_ints (w:World) (t:TypeId) (L:List Int) (n:Nat) (h:L.length=n):Reads (w.alloc (.cells (L.map fun x=>Value.int .i64 x).toArray t)) (w.heap.size + 1) 1 (some ⟨w.heap.size,0,none⟩) n (rows i64C L):=by
 have hr:rows i64C L=L.map fun x=>Value.int .i64 x:=by
  unfold rows
  clear h
  induction L with
  | nil=>rfl
  | cons a r ih=>rw [List.flatMap_cons,ih];rfl
 refine ⟨by rw [hr,List.length_map,h,Nat.mul_one],fun _=>⟨_,rfl,by show w.heap.size < _;omega,fun j u hj=>?_⟩⟩
 rw [hr] at hj
 have hb:=(Blk.new w t (L.map fun x=>Value.int .i64 x).toArray).cell j
 have e:((⟨w.heap.size,0,none⟩:Addr).add j)=⟨w.heap.size,j,none⟩:=by simp [Addr.add];exact fun h=>h.symm
 rw [e,hb]
 simpa using hj
theorem trim_last (l:List UInt8) (c:UInt8):Go.Lib.trimSuffix (l ++ [c]) [c]=l:=by
 unfold Go.Lib.trimSuffix
 rw [if_pos (by rw [Go.Lib.hasSuffix];simp)]
 simp
theorem kinds_fact {W w1:World} (h:w1=W.alloc (.cells kindV 9)) (i:Nat):w1.cell? ⟨W.heap.size,i,none⟩=kindV[i]?:=by
 rw [h]
 exact (Blk.new _ _ _).cell i
theorem kinds_lt {W w1:World} (h:w1=W.alloc (.cells kindV 9)):W.heap.size < w1.heap.size:=by
 rw [h]
 simp
theorem kinds_on {w W w1:World} (h:w1=W.alloc (.cells kindV 9)) (hb:Below w.heap.size w W):Below w.heap.size w w1:=h ▸ hb.alloc hb.size _
theorem kinds_blk {W w1:World} (h:w1=W.alloc (.cells kindV 9)) {g:Nat} {t:TypeId} {cs:Array Value} (hk:Blk W g t cs):Blk w1 g t cs:=h ▸ hk.alloc _
def cfgNums (c:Cfg):List Int:=[c.raw,c.ring,c.writes,c.stamps,c.tries]
theorem row_len (w:List UInt8) (L:List Int) (h:∀ v ∈ L,i64ok v):(rowT w L).length ≤ w.length + 22 * L.length + 1:=by
 have:∀ L:List Int,(∀ v ∈ L,i64ok v)→(L.flatMap fun n=>32 :: Go.Lib.itoa n).length ≤ 22 * L.length:=by
  intro L
  induction L with
  | nil=>intro _;simp
  | cons a r ih =>
   intro h
   have h1:=ih fun v hv=>h v (List.mem_cons_of_mem _ hv)
   have h2:=itoa_len a (h a (by simp))
   rw [List.flatMap_cons,List.length_append,List.length_cons,List.length_cons]
   omega
 have:=this L h
 unfold rowT
 simp only [List.length_append,List.length_cons,List.length_nil]
 omega
theorem head_eq (c:Cfg) (rs ts a b d:ByteArray) (wd:List UInt8) (hwd:wd=if c.multi then wMulti else wSingle) (h1:rs=⟨(rowT wConfig (cfgNums c)).toArray⟩) (h2:ts=⟨(Go.Lib.trimSuffix rs.data.toList [10]).toArray⟩) (h3:a.data.toList=ts.data.toList ++ [32]) (h4:b.data.toList=a.data.toList ++ wd) (h5:d.data.toList=b.data.toList ++ [10]):d.data.toList=configT c:=by
 have e1:rs.data.toList=(wConfig ++ (cfgNums c).flatMap fun n=>32 :: Go.Lib.itoa n) ++ [10]:=by rw [h1];rfl
 have e2:ts.data.toList=wConfig ++ (cfgNums c).flatMap fun n=>32 :: Go.Lib.itoa n:=by rw [h2,e1,trim_last]
 rw [h5,h4,h3,e2,hwd]
 simp [cfgNums,configT]
theorem regs_step (l:List Reg) (i:Nat) (x:Reg) (h:l[i]?=some x) (c:Cfg) (t r z:ByteArray) (ht:t.data.toList=configT c ++ (l.take i).flatMap regionT) (hr:r=⟨(regionT x).toArray⟩) (hz:z.data.toList=t.data.toList ++ r.data.toList):z.data.toList=configT c ++ (l.take (i + 1)).flatMap regionT:=by
 rw [List.take_add_one,h,hz,ht,hr]
 simp
set_option maxHeartbeats 4000000 in
theorem headed_head {B:Nat} (c:Cfg) (regs:List Reg) (Rr:Option Addr) (nr cr:Nat) (w:World) (hE:EnvIn B w) (hok:cfgOk c regs) (hl:regs.length=nr) (hR:Reads w w.heap.size 2 Rr nr (rows Reg.cells regs)) :
  Calls Tryz.prog 29 #[.agg #[.int .i64 c.raw,.int .i64 c.ring,.int .i64 c.writes,.int .i64 c.stamps,.bool c.multi,.int .i64 c.tries,.slice Rr nr cr]] w fun e w'=>e=.returned (.string ⟨(configT c ++ regs.flatMap regionT).toArray⟩)∧Below w.heap.size w w':=by
 obtain ⟨a0,a1,a2,a3,a4,a5⟩:=c
 simp only
 have HOK:=Lib.hid hok
 have HE:=Lib.hid hE
 have HL:=Lib.hid hl
 have HR:=Lib.hid hR
 obtain ⟨k0,k0',k1,k1',k2,k2',k3,k3',k4,k4',k8,_⟩:=hok
 simp only at k0 k0' k1 k1' k2 k2' k3 k3' k4 k4'
 have h64:∀ v ∈ cfgNums ⟨a0,a1,a2,a3,a4,a5⟩,i64ok v:=by
  intro v hv
  simp [cfgNums] at hv
  unfold i64ok
  omega
 have hn8:nr ≤ 8:=by omega
 obtain ⟨w1,hw1⟩:∃ w1,w1=w.alloc (.cells #[.int .i64 a0,.int .i64 a1,.int .i64 a2,.int .i64 a3,.bool a4,.int .i64 a5,.slice Rr nr cr] 25):=⟨_,rfl⟩
 obtain ⟨b1,hb1⟩:∃ b1,b1=w.heap.size:=⟨_,rfl⟩
 have HK1:Hid (Blk w1 b1 25 #[.int .i64 a0,.int .i64 a1,.int .i64 a2,.int .i64 a3,.bool a4,.int .i64 a5,.slice Rr nr cr]):=Lib.hid (by rw [hw1,hb1];exact Blk.new _ _ _)
 have HB1:Hid (Below w.heap.size w w1):=Lib.hid (hw1 ▸ (Below.refl _ _).alloc (Nat.le_refl _) _)
 obtain ⟨rs,hrs⟩:∃ rs:ByteArray,rs=⟨(rowT wConfig (cfgNums ⟨a0,a1,a2,a3,a4,a5⟩)).toArray⟩:=⟨_,rfl⟩
 have HROW:Hid (Calls Tryz.prog 31 #[.string ⟨#[99,111,110,102,105,103]⟩,.slice (some ⟨w1.heap.size,0,none⟩) 5 5] (w1.alloc (.cells #[.int .i64 a0,.int .i64 a1,.int .i64 a2,.int .i64 a3,.int .i64 a5] 2)) fun e w'=>e=.returned (.string rs)∧Below (w1.heap.size + 1) (w1.alloc (.cells #[.int .i64 a0,.int .i64 a1,.int .i64 a2,.int .i64 a3,.int .i64 a5] 2)) w'):=Lib.hid (by
  have hBx:Below w.heap.size w (w1.alloc (.cells ((cfgNums ⟨a0,a1,a2,a3,a4,a5⟩).map fun x=>Value.int .i64 x).toArray 2)):=HB1.out.alloc HB1.out.size _
  refine (row_any ⟨#[99,111,110,102,105,103]⟩ (cfgNums ⟨a0,a1,a2,a3,a4,a5⟩) 5 5 (w1.heap.size + 1) _ _ (HE.out.below hBx HE.out.1) rfl (by decide) (by simp) h64 (reads_ints w1 _ _ 5 rfl)).mono ?_
  rintro e w' ⟨rfl,hb⟩
  refine ⟨by rw [hrs];rfl,?_⟩
  have:(w1.alloc (.cells ((cfgNums ⟨a0,a1,a2,a3,a4,a5⟩).map fun x=>Value.int .i64 x).toArray 2)).heap.size=w1.heap.size + 1:=by simp
  rw [this] at hb
  exact hb)
 obtain ⟨ts,hts⟩:∃ ts:ByteArray,ts=⟨(Go.Lib.trimSuffix rs.data.toList [10]).toArray⟩:=⟨_,rfl⟩
 have hrl:rs.size ≤ 200:=by
  have:=row_len wConfig (cfgNums ⟨a0,a1,a2,a3,a4,a5⟩) h64
  rw [hrs,size_list]
  simp only [cfgNums,wConfig,List.length_cons,List.length_nil] at this ⊢
  omega
 have HTRIM:Hid (∀ W,Calls Tryz.prog 61 #[.string rs,.string ⟨#[10]⟩] W fun e w'=>e=.returned (.string ts)∧w'=W):=Lib.hid fun W=>by
  rw [hts]
  exact Tryz.strings_TrimSuffix rs ⟨#[10]⟩ W (by omega)
 have htl:ts.size ≤ 200:=by
  have:=Go.Lib.trimSuffix_le rs.data.toList [10]
  rw [hts,size_list]
  rw [size_list] at hrl
  simp only
  omega
 have HRS:=Lib.hid hrs
 have HTS:=Lib.hid hts
 have HK8:=Lib.hid k8
 clear k0 k0' k1 k1' k2 k2' k3 k3' k4 k4' k8 hl hR hE hrl hrs hts h64
 obtain ⟨t1,ht1,g1⟩:=sum_text ts ⟨#[32]⟩ (by have:(⟨#[32]⟩:ByteArray).size=1:=rfl;omega)
 have hz1:t1.size=ts.size + 1:=by rw [size_list t1,ht1,List.length_append,← size_list];rfl
 obtain ⟨wd,hwd⟩:∃ wd:ByteArray,wd=if a4 then ⟨#[109,117,108,116,105]⟩ else ⟨#[115,105,110,103,108,101]⟩:=⟨_,rfl⟩
 have hwz:wd.size ≤ 6:=by rw [hwd];cases a4 <;> decide
 obtain ⟨t2,ht2,g2⟩:=sum_text t1 wd (by omega)
 have hz2:t2.size=t1.size + wd.size:=by rw [size_list t2,ht2,List.length_append,← size_list,← size_list]
 obtain ⟨t3,ht3,g3⟩:=sum_text t2 ⟨#[10]⟩ (by have:(⟨#[10]⟩:ByteArray).size=1:=rfl;omega)
 have hz3:t3.size ≤ 300:=by rw [size_list t3,ht3,List.length_append,← size_list];show t2.size + 1 ≤ 300;omega
 have HT3:Hid (t3.data.toList=configT ⟨a0,a1,a2,a3,a4,a5⟩):=Lib.hid (head_eq ⟨a0,a1,a2,a3,a4,a5⟩ rs ts t1 t2 t3 wd.data.toList (by rw [hwd];cases a4 <;> rfl) HRS.out HTS.out ht1 ht2 ht3)
 have HZ3:=Lib.hid hz3
 have HS1:=Lib.hid HK1.out.lt
 clear hz1 hz2 hz3 ht1 ht2 ht3 hwz htl
 go_enter Tryz.func29,Tryz.ntmps29
 go_upto_region 1 with fail
 rw [← hw1,← hb1]
 clear hw1 hb1
 have p0:=(HK1.out.cell 0).trans (show _=some (Value.int .i64 a0) from rfl)
 have p1:=(HK1.out.cell 1).trans (show _=some (Value.int .i64 a1) from rfl)
 have p2:=(HK1.out.cell 2).trans (show _=some (Value.int .i64 a2) from rfl)
 have p3:=(HK1.out.cell 3).trans (show _=some (Value.int .i64 a3) from rfl)
 have p4:=(HK1.out.cell 4).trans (show _=some (Value.bool a4) from rfl)
 have p5:=(HK1.out.cell 5).trans (show _=some (Value.int .i64 a5) from rfl)
 have pl:=HS1.out
 go_upto_region 2 with fail
 go_upto_if 8 with fail
 go_cut [3] from 8 to 8 (fun v wc=>v=.string wd∧wc=w1)
 case first =>
  cases a4
  ·rw [if_neg (by decide)] at hwd
   subst hwd
   go_wp2_with fail
   all_goals go_meet
   all_goals exact ⟨rfl,rfl⟩
  ·rw [if_pos rfl] at hwd
   subst hwd
   go_wp2_with fail
   all_goals go_meet
   all_goals exact ⟨rfl,rfl⟩
 obtain ⟨rfl,hwc⟩:=hcut
 obtain rfl:=hwc.symm
 clear hwd
 go_upto_region 5 with (first | (go_at_call 31;refine (HROW.out).mono ?_;rintro e w3 ⟨rfl,hb3⟩;have HX3:=Lib.hid hb3;clear hb3) | (go_at_call 61;refine (HTRIM.out _).mono ?_;rintro e w4 ⟨rfl,hw4⟩;obtain rfl:=hw4.symm))
 have HB3:Hid (Below w.heap.size w w3):=Lib.hid ((HB1.out.alloc HB1.out.size _).trans (HX3.out.mono (Nat.le_succ_of_le HB1.out.size)))
 have HK3:Hid (Blk w3 b1 25 #[.int .i64 a0,.int .i64 a1,.int .i64 a2,.int .i64 a3,.bool a4,.int .i64 a5,.slice Rr nr cr]):=Lib.hid ((HK1.out.alloc _).below HX3.out (Nat.lt_succ_of_lt HS1.out))
 clear p0 p1 p2 p3 p4 p5 pl g1 g2 g3
 have p6:=(HK3.out.cell 6).trans (show _=some (Value.slice Rr nr cr) from rfl)
 have pl:=HK3.out.lt
 go_upto_region 6 with fail
 clear p6 pl HX3 HROW HTRIM
 go_loopg [29,4] nr (fun gk iv sv W=>∃ (i:Nat) (t:ByteArray),iv=.int .i64 i∧i ≤ nr∧gk + i=nr∧sv=.string t∧Hid (t.data.toList=configT ⟨a0,a1,a2,a3,a4,a5⟩ ++ (regs.take i).flatMap regionT)∧Hid (t.size ≤ 300 + 50 * i)∧Hid (Below w.heap.size w W))
 case atStart=>exact ⟨0,t3,rfl,Nat.zero_le _,rfl,rfl,Lib.hid (by rw [HT3.out];simp),Lib.hid HZ3.out,HB3⟩
 case round =>
  obtain ⟨i,t,rfl,hi,hgk,rfl,HT,HTZ,HB⟩:=hrel
  have HG:=Lib.hid hgk
  clear hgk
  by_cases hil:i < nr
  ·have e1:decide ((i:Int) < (nr:Int))=true:=decide_eq_true (by omega)
   have e2:decide (i < nr)=true:=decide_eq_true hil
   have e3:(i:Int) < (nr:Int):=by omega
   have zw:IntKind.i64.wrap ((i:Int) + 1)=(i:Int) + 1:=by rw [IntKind.wrap_i64];omega
   obtain ⟨x,hx⟩:∃ x,regs[i]?=some x:=⟨_,List.getElem?_eq_getElem (by rw [HL.out];exact hil)⟩
   have hxo:=HOK.out.2.2.2.2.2.2.2.2.2.2.2 x (List.mem_of_getElem? hx)
   obtain ⟨b,off,rfl,hb,hc⟩:=reg_cells' HR.out HL.out (by omega)
   obtain ⟨kd,cap⟩:=x
   have c1:=(HB.out.cell (p:=⟨b,off + i * 2,none⟩) hb).trans (hc i _ hx).1
   have c2:=(HB.out.cell (p:=⟨b,off + i * 2 + 1,none⟩) hb).trans (hc i _ hx).2
   have hbr:b < wr.heap.size:=Nat.lt_of_lt_of_le hb HB.out.size
   have HX:=Lib.hid hx
   obtain ⟨o1,o2,o3,o4⟩:=hxo
   simp only at o1 o2 o3 o4 c1 c2
   have HCP:=Lib.hid (And.intro o3 o4)
   obtain ⟨w5,hw5⟩:∃ w5,w5=wr.alloc (.cells #[.int .i64 kd,.int .i64 cap] 67):=⟨_,rfl⟩
   obtain ⟨b5,hb5⟩:∃ b5,b5=wr.heap.size:=⟨_,rfl⟩
   have HK5:Hid (Blk w5 b5 67 #[.int .i64 kd,.int .i64 cap]):=Lib.hid (by rw [hw5,hb5];exact Blk.new _ _ _)
   have HB5:Hid (Below w.heap.size w w5):=Lib.hid (hw5 ▸ HB.out.alloc HB.out.size _)
   clear hc hx hb o3 o4
   go_upto_region 8 with fail
   rw [← hw5,← hb5]
   clear hw5 hb5 c1 c2 hbr
   have hkd:kd=1 ∨ kd=2 ∨ kd=3 ∨ kd=4:=by omega
   clear o1 o2
   obtain ⟨k,kn,hkk,hk1,hk5,hkv,hkl,hkz⟩:∃ (k:Nat) (kn:ByteArray),kd=(k:Int)∧1 ≤ k∧k < 5∧kindV[k]?=some (.string kn)∧kn.data.toList=kindsL.getD (k - 1) []∧kn.size ≤ 7:=by
    rcases hkd with rfl | rfl | rfl | rfl
    ·exact ⟨1,⟨#[99,111,117,110,116,101,114]⟩,rfl,by decide,by decide,rfl,rfl,by decide⟩
    ·exact ⟨2,⟨#[113,117,101,117,101]⟩,rfl,by decide,by decide,rfl,rfl,by decide⟩
    ·exact ⟨3,⟨#[100,105,99,116]⟩,rfl,by decide,by decide,rfl,rfl,by decide⟩
    ·exact ⟨4,⟨#[99,104,97,105,110]⟩,rfl,by decide,by decide,rfl,rfl,by decide⟩
   subst hkk
   clear hkd
   have h7:(⟨#[114,101,103,105,111,110,32]⟩:ByteArray).size=7:=rfl
   obtain ⟨pre,hpre,gp⟩:=sum_text ⟨#[114,101,103,105,111,110,32]⟩ kn (by omega)
   have hpz:pre.data.toList.length ≤ 14:=by rw [hpre,List.length_append,← size_list,← size_list];omega
   have i1:((k:Nat):Int) < 5:=by omega
   have i2:decide (((k:Nat):Int) < 5)=true:=decide_eq_true i1
   have i3:decide (k < 5)=true:=decide_eq_true hk5
   have HKV:=Lib.hid hkv
   have h64:∀ v ∈ [cap],i64ok v:=by
    intro v hv
    have:v=cap:=by simpa using hv
    have h:=HCP.out
    unfold i64ok
    omega
   obtain ⟨rr,hrr⟩:∃ rr:ByteArray,rr=⟨(rowT pre.data.toList [cap]).toArray⟩:=⟨_,rfl⟩
   have hrz:rr.size ≤ 50:=by
    have:=row_len pre.data.toList [cap] h64
    rw [hrr,size_list]
    simp only [List.length_cons,List.length_nil] at this ⊢
    omega
   have HRW:Hid (∀ (W:World) (A:Option Addr),Below w.heap.size w W→Reads W W.heap.size 1 A 1 (rows i64C [cap])→Calls Tryz.prog 31 #[.string pre,.slice A 1 1] W fun e w'=>e=.returned (.string rr)∧Below W.heap.size W w'):=Lib.hid fun W A hW hA=>by
    have hps:pre.size ≤ 14:=by rw [size_list];exact hpz
    refine (row_any pre [cap] 1 1 W.heap.size A W (HE.out.below hW HE.out.1) rfl (by omega) (Nat.le_refl _) h64 hA).mono ?_
    rintro e w' ⟨rfl,hb⟩
    exact ⟨by rw [hrr],hb⟩
   have htz:=HTZ.out
   obtain ⟨z,hz,gz⟩:=sum_text t rr (by omega)
   have HZ:Hid (z.data.toList=configT ⟨a0,a1,a2,a3,a4,a5⟩ ++ (regs.take (i + 1)).flatMap regionT):=Lib.hid (regs_step regs i _ HX.out _ t rr z HT.out (by rw [hrr,hpre,hkl];unfold regionT;simp only [Int.toNat_natCast];rfl) hz)
   have HZZ:Hid (z.size ≤ 300 + 50 * (i + 1)):=Lib.hid (by rw [size_list z,hz,List.length_append,← size_list,← size_list];omega)
   clear hrr hz hpre hpz hrz htz h64 hkl hkz h7 hkv
   have HSZ5:Hid ((w5.alloc (.cells #[.int .i64 cap] 2)).heap.size=w5.heap.size + 1):=Lib.hid (by simp)
   have k0:=(HK5.out.cell 0).trans (show _=some (Value.int .i64 (k:Int)) from rfl)
   have k1:=(HK5.out.cell 1).trans (show _=some (Value.int .i64 cap) from rfl)
   have kl:=HK5.out.lt
   go_region_with (first
    | (go_at_call 62;refine (kinds_any _).mono ?_;rintro e w6 ⟨rfl,hw6⟩;have KF:=Lib.hid (kinds_fact hw6 k);have KL:=Lib.hid (kinds_lt hw6);have HB6:=Lib.hid (kinds_on hw6 (by first | exact HB5.out.drew | exact HB5.out | exact HB5.out.drew.alloc HB5.out.size _ | exact (HB5.out.alloc HB5.out.size _).drew | exact HB5.out.alloc HB5.out.size _));have HK6:=Lib.hid (kinds_blk hw6 (by first | exact HK5.out | exact HK5.out.alloc _));have m0:=(HK6.out.cell 0).trans (show _=some (Value.int .i64 (k:Int)) from rfl);have m1:=(HK6.out.cell 1).trans (show _=some (Value.int .i64 cap) from rfl);have ml:=HK6.out.lt;have HW6:=Lib.hid hw6;clear hw6;first | (have kf:w6.cell? ⟨w5.heap.size,k,none⟩=some (Value.string kn):=KF.out.trans HKV.out;have kfl:w5.heap.size < w6.heap.size:=KL.out) | (have kf:w6.cell? ⟨w5.heap.size + 1,k,none⟩=some (Value.string kn):=(by rw [← HSZ5.out];exact KF.out.trans HKV.out);have kfl:w5.heap.size + 1 < w6.heap.size:=(by rw [← HSZ5.out];exact KL.out)))
    | (go_at_call 31;refine (HRW.out _ _ (by first | exact HB6.out.alloc HB6.out.size _ | exact HB6.out | exact (HB6.out.alloc HB6.out.size _).drew) (by first | exact (reads_ints w6 _ [cap] 1 rfl).more (by simp) | (rw [HW6.out];exact ((reads_ints w5 _ [cap] 1 rfl).alloc (by simp) _).more (by simp)))).mono ?_;rintro e w7 ⟨rfl,hb7⟩))
   all_goals (
    go_wp2_with fail
    go_roundg (nr - (i + 1))
    case measure=>have:=HG.out;omega
    case rel=>exact ⟨i + 1,z,by simp,by omega,by omega,rfl,HZ,HZZ,Lib.hid (by first | exact (HB6.out.alloc HB6.out.size _).trans (hb7.mono (HB6.out.alloc HB6.out.size _).size) | exact HB6.out.trans (hb7.mono HB6.out.size))⟩)
  ·have e1:decide ((i:Int) < (nr:Int))=false:=decide_eq_false (by omega)
   have e2:decide (i < nr)=false:=decide_eq_false hil
   have HF:Hid (t=⟨(configT ⟨a0,a1,a2,a3,a4,a5⟩ ++ regs.flatMap regionT).toArray⟩):=Lib.hid (by
    have h:=HT.out
    rw [show regs.take i=regs from List.take_of_length_le (by rw [HL.out];omega)] at h
    cases t with
    | mk d=>rw [← h])
   go_wp2
   go_ret
   exact ⟨by rw [HF.out];rfl,HB.out⟩
def ItemsTo (L:List Nat) (i:Nat) (s:List UInt8):Prop:=s=wRun ++ (runsF (L.take i)).flatMap itemT∧∀ a,L[i]?=some a→(L.take i).getLast? ≠ some a
theorem items_zero (L:List Nat):ItemsTo L 0 wRun:=⟨by simp [runsF],fun a _=>by simp⟩
theorem take_rep (L:List Nat) (i a:Nat):∀ m,(∀ j,i ≤ j→j < i + m→L[j]?=some a)→L.take (i + m)=L.take i ++ List.replicate m a
 | 0,_=>by simp
 | m + 1,h=>by
  have h1:=take_rep L i a m fun j h1 h2=>h j h1 (by omega)
  rw [← Nat.add_assoc,List.take_add_one,h (i + m) (by omega) (by omega),h1,List.append_assoc]
  show _ ++ (List.replicate m a ++ [a])=_
  rw [← List.replicate_succ']
theorem items_step (L:List Nat) (i m a:Nat) (s r:List UInt8) (h:ItemsTo L i s) (hr:∀ j,i ≤ j→j < i + (m + 1)→L[j]?=some a) (he:L[i + (m + 1)]? ≠ some a) (hs:r=s ++ itemT (a,m + 1)):ItemsTo L (i + (m + 1)) r:=by
 have ht:=take_rep L i a (m + 1) hr
 have hn:=h.2 a (hr i (Nat.le_refl _) (by omega))
 refine ⟨by rw [hs,h.1,ht,stepsT_run _ _ _ hn],fun b hb=>?_⟩
 rw [ht]
 intro hl
 rw [List.replicate_succ',← List.append_assoc,List.getLast?_append] at hl
 have:a=b:=by simpa using hl
 exact he (this ▸ hb)
theorem items_end (L:List Nat) (n:Nat) (s r:List UInt8) (hn:L.length=n) (h:ItemsTo L n s) (hr:r=s ++ [10]):r=stepsT L:=by
 have h1:=h.1
 rw [← hn,List.take_length] at h1
 rw [hr,h1]
 rfl
set_option maxHeartbeats 4000000 in
theorem items_any {B:Nat} (L:List Nat) (n c C:Nat) (A:Option Addr) (w:World) (hE:EnvIn B w) (hl:L.length=n) (hn6:n ≤ 1000000) (h99:∀ t ∈ L,t ≤ 99) (hC:C ≤ w.heap.size) (hA:Reads w C 1 A n (rows i64C (L.map fun (t:Nat)=>(t:Int)))) :
  Calls Tryz.prog 32 #[.slice A n c] w fun e w'=>e=.returned (.string ⟨(stepsT L).toArray⟩)∧Below w.heap.size w w':=by
 have HA:Hid (0 < n→∃ b off,A=some ⟨b,off,none⟩∧b < w.heap.size∧∀ i,i < n→∃ a,L[i]?=some a∧a ≤ 99∧∀ W,Below w.heap.size w W→W.cell? ⟨b,off + i,none⟩=some (.int .i64 ((a:Nat):Int))):=Lib.hid fun h0=>by
  obtain ⟨b,off,h1,h2,h3⟩:=i64_cells (hA.more hC) (by rw [List.length_map];exact hl) h0
  refine ⟨b,off,h1,h2,fun i hi=>?_⟩
  obtain ⟨a,ha⟩:∃ a,L[i]?=some a:=⟨_,List.getElem?_eq_getElem (by omega)⟩
  exact ⟨a,ha,h99 a (List.mem_of_getElem? ha),fun W hW=>(hW.cell h2).trans (h3 i a (by rw [List.getElem?_map,ha];rfl))⟩
 have HE:=Lib.hid hE
 have HL:=Lib.hid hl
 clear hA h99 hC hl hE
 go_enter Tryz.func32,Tryz.ntmps32
 go_upto_region 3 with fail
 go_loopg [4,3] n (fun gk iv sv W=>∃ (i:Nat) (t:ByteArray),iv=.int .i64 i∧i ≤ n∧gk + i=n∧sv=.string t∧Hid (ItemsTo L i t.data.toList)∧Hid (t.size ≤ 3 + 44 * i)∧Hid (Below w.heap.size w W))
 case atStart=>exact ⟨0,⟨#[114,117,110]⟩,rfl,Nat.zero_le _,rfl,rfl,Lib.hid (items_zero L),Lib.hid (by decide),Lib.hid (Below.refl _ _)⟩
 case round =>
  obtain ⟨i,t,rfl,hi,hgk,rfl,HT,HTZ,HB⟩:=hrel
  have HG:=Lib.hid hgk
  clear hgk
  by_cases hil:i < n
  ·have e1:decide ((i:Int) < (n:Int))=true:=decide_eq_true (by omega)
   have e2:decide (i < n)=true:=decide_eq_true hil
   have e3:(i:Int) < (n:Int):=by omega
   obtain ⟨b,off,rfl,hb,hall⟩:=HA.out (by omega)
   have HAL:=Lib.hid hall
   obtain ⟨a,ha,ha9,hca⟩:=hall i hil
   have HAI:=Lib.hid ha
   have HCA:=Lib.hid hca
   have hbr:b < wr.heap.size:=Nat.lt_of_lt_of_le hb HB.out.size
   obtain ⟨w0,hw0⟩:∃ w0,w0=wr:=⟨_,rfl⟩
   have HW0:=Lib.hid hw0
   clear hall ha hca hw0
   go_upto_region 5 with fail
   go_loopg [5] (n - i) (fun gk kv W=>∃ k:Nat,kv=.int .i64 k∧i ≤ k∧k ≤ n∧gk + k=n∧Hid (∀ j,i ≤ j→j < k→L[j]?=some a)∧Hid (∃ q,W=w0.drewN q))
   case atStart=>exact ⟨i,rfl,Nat.le_refl _,hi,by omega,Lib.hid (fun j h1 h2=>absurd h1 (by omega)),Lib.hid ⟨0,HW0.out.symm⟩⟩
   case round =>
    obtain ⟨k,rfl,hik,hkn,hgj,HR,HW⟩:=hrel
    have HGJ:=Lib.hid hgj
    obtain ⟨q,hq⟩:=HW.out
    have HBR:Hid (Below w.heap.size w wr):=Lib.hid (by rw [hq,HW0.out];exact below_drewN HB.out q)
    have HQ:=Lib.hid hq
    clear hgj hq
    have c1:wr.cell? ⟨b,off + i,none⟩=some (.int .i64 ((a:Nat):Int)):=HCA.out wr HBR.out
    have hbw:b < wr.heap.size:=Nat.lt_of_lt_of_le hb HBR.out.size
    have zk:IntKind.i64.wrap ((k:Int) + 1)=(k:Int) + 1:=by rw [IntKind.wrap_i64];omega
    by_cases hkl:k < n
    ·have f1:decide ((k:Int) < (n:Int))=true:=decide_eq_true (by omega)
     have f2:decide (k < n)=true:=decide_eq_true hkl
     have f3:(k:Int) < (n:Int):=by omega
     obtain ⟨a',ha',_,hca'⟩:=HAL.out k hkl
     have c2:wr.cell? ⟨b,off + k,none⟩=some (.int .i64 ((a':Nat):Int)):=hca' wr HBR.out
     have HAK:=Lib.hid ha'
     clear hca' ha'
     by_cases haa:a'=a
     ·have g1:(((a':Nat):Int) == ((a:Nat):Int))=true:=by rw [haa];simp
      have g2:decide (((a':Nat):Int)=((a:Nat):Int))=true:=decide_eq_true (by rw [haa])
      have HAA:=Lib.hid haa
      clear haa
      go_upto_region 5 with fail
      go_quiet (fail)
      go_wp2
      go_roundg (n - (k + 1))
      case measure=>have:=HGJ.out;omega
      case rel=>exact ⟨k + 1,by simp,by omega,by omega,by omega,Lib.hid (fun j h1 h2=>by
       by_cases hj:j=k
       ·rw [hj,HAK.out,HAA.out]
       ·exact HR.out j h1 (by omega)),Lib.hid ⟨_,by rw [HQ.out,World.drewN_drewN]⟩⟩
     ·have g1:(((a':Nat):Int) == ((a:Nat):Int))=false:=by rw [beq_eq_false_iff_ne];omega
      have g2:decide (((a':Nat):Int)=((a:Nat):Int))=false:=decide_eq_false (by omega)
      have HEX:Hid (L[k]? ≠ some a):=Lib.hid (by rw [HAK.out];intro h;injection h with h;exact haa h)
      clear haa HAK
      go_upto_region 5 with fail
      go_quiet (fail)
      have hne:k ≠ i:=fun h=>HEX.out (h ▸ HAI.out)
      obtain ⟨m,rfl⟩:∃ m,k=i + (m + 1):=⟨k - i - 1,by omega⟩
      have a64:i64ok ((a:Nat):Int):=⟨by omega,by omega⟩
      have m64:i64ok ((m + 1:Nat):Int):=⟨by omega,by omega⟩
      have ha21:=itoa_len _ a64
      have hm21:=itoa_len _ m64
      obtain ⟨sa,hsa⟩:∃ x:ByteArray,x=⟨(Go.Lib.itoa ((a:Nat):Int)).toArray⟩:=⟨_,rfl⟩
      obtain ⟨sm,hsm⟩:∃ x:ByteArray,x=⟨(Go.Lib.itoa ((m + 1:Nat):Int)).toArray⟩:=⟨_,rfl⟩
      have hza:sa.size ≤ 21:=by rw [hsa,size_list];exact ha21
      have hzm:sm.size ≤ 21:=by rw [hsm,size_list];exact hm21
      have HIA:Hid (∀ W,Below w.heap.size w W→Calls Tryz.prog 69 #[.int .i64 ((a:Nat):Int)] W fun e w'=>e=.returned (.string sa)∧Below W.heap.size W w'):=Lib.hid fun W hW=>by
       rw [hsa]
       exact itoa_any (HE.out.below hW HE.out.1) _ a64
      have HIM:Hid (∀ W,Below w.heap.size w W→Calls Tryz.prog 69 #[.int .i64 ((m + 1:Nat):Int)] W fun e w'=>e=.returned (.string sm)∧Below W.heap.size W w'):=Lib.hid fun W hW=>by
       rw [hsm]
       exact itoa_any (HE.out.below hW HE.out.1) _ m64
      have htz:=HTZ.out
      have h32:(⟨#[32]⟩:ByteArray).size=1:=rfl
      have h42:(⟨#[42]⟩:ByteArray).size=1:=rfl
      obtain ⟨x1,hx1,y1⟩:=sum_text ⟨#[32]⟩ sa (by omega)
      have hz1:x1.size ≤ 22:=by rw [size_list x1,hx1,List.length_append,← size_list,← size_list];omega
      obtain ⟨x2,hx2,y2⟩:=sum_text t x1 (by omega)
      have hz2:x2.size ≤ t.size + 22:=by rw [size_list x2,hx2,List.length_append,← size_list,← size_list];omega
      obtain ⟨x3,hx3,y3⟩:=sum_text ⟨#[42]⟩ sm (by omega)
      have hz3:x3.size ≤ 22:=by rw [size_list x3,hx3,List.length_append,← size_list,← size_list];omega
      obtain ⟨x4,hx4,y4⟩:=sum_text x2 x3 (by omega)
      have hz4:x4.size ≤ t.size + 44:=by rw [size_list x4,hx4,List.length_append,← size_list,← size_list];omega
      have zs:IntKind.i64.wrap (((i + (m + 1):Nat):Int) - (i:Int))=((m + 1:Nat):Int):=by rw [IntKind.wrap_i64];omega
      have zs':IntKind.i64.wrap ((i:Int) + ((m:Int) + 1) - (i:Int))=(m:Int) + 1:=by rw [IntKind.wrap_i64];omega
      have zs2:((i + (m + 1):Nat):Int) - (i:Int)=((m + 1:Nat):Int):=by omega
      have HST:∀ r:List UInt8,r=t.data.toList ++ itemT (a,m + 1)→Hid (ItemsTo L (i + (m + 1)) r):=fun r hr=>Lib.hid (items_step L i m a _ r HT.out HR.out HEX.out hr)
      by_cases hm0:m=0
      ·have d1:decide ((1:Int) < ((m + 1:Nat):Int))=false:=decide_eq_false (by omega)
       have d2:decide ((1:Int) < (m:Int) + 1)=false:=decide_eq_false (by omega)
       have HF:=HST x2.data.toList (by rw [hx2,hx1,hsa,hm0];simp [itemT])
       have HZ:Hid (x2.size ≤ 3 + 44 * (i + (m + 1))):=Lib.hid (by omega)
       have HM0:=Lib.hid hm0
       clear hm0 hx1 hx2 hx3 hx4 hz1 hz2 hz3 hz4 HST hsa hsm hza hzm htz h32 h42 ha21 hm21 a64 m64 hne
       go_upto_region 7 with fail
       go_upto_region 8 with (go_at_call 69;refine (HIA.out _ (by first | exact below_drewN HBR.out _ | exact HBR.out)).mono ?_;rintro e w2 ⟨rfl,hb2⟩)
       have HB2:Hid (Below w.heap.size w w2):=Lib.hid ((below_drewN HBR.out _).trans (hb2.mono HBR.out.size))
       clear hb2
       go_wp2
       go_roundg (n - (i + (m + 1)))
       case measure=>have:=HG.out;omega
       case rel=>exact ⟨i + (m + 1),x2,by simp,by omega,by omega,rfl,HF,HZ,HB2⟩
      ·have d1:decide ((1:Int) < ((m + 1:Nat):Int))=true:=decide_eq_true (by omega)
       have d2:decide ((1:Int) < (m:Int) + 1)=true:=decide_eq_true (by omega)
       have HF:=HST x4.data.toList (by rw [hx4,hx3,hx2,hx1,hsa,hsm];simp [itemT,show 0 < m by omega])
       have HZ:Hid (x4.size ≤ 3 + 44 * (i + (m + 1))):=Lib.hid (by omega)
       clear hm0 hx1 hx2 hx3 hx4 hz1 hz2 hz3 hz4 HST hsa hsm hza hzm htz h32 h42 ha21 hm21 a64 m64 hne
       go_upto_region 7 with fail
       go_upto_region 8 with (go_at_call 69;refine (HIA.out _ (by first | exact below_drewN HBR.out _ | exact HBR.out)).mono ?_;rintro e w2 ⟨rfl,hb2⟩)
       have HB2:Hid (Below w.heap.size w w2):=Lib.hid ((below_drewN HBR.out _).trans (hb2.mono HBR.out.size))
       clear hb2
       go_wp2_with (go_at_call 69;refine (HIM.out _ HB2.out).mono ?_;rintro e w3 ⟨rfl,hb3⟩)
       have HB3:Hid (Below w.heap.size w w3):=Lib.hid (HB2.out.trans (hb3.mono HB2.out.size))
       go_roundg (n - (i + (m + 1)))
       case measure=>have:=HG.out;omega
       case rel=>exact ⟨i + (m + 1),x4,by simp,by omega,by omega,rfl,HF,HZ,HB3⟩
    ·have f1:decide ((k:Int) < (n:Int))=false:=decide_eq_false (by omega)
     have f2:decide (k < n)=false:=decide_eq_false hkl
     have HEX:Hid (L[k]? ≠ some a):=Lib.hid (by rw [List.getElem?_eq_none (by rw [HL.out];omega)];simp)
     go_upto_region 5 with fail
     go_quiet (fail)
     have hne:k ≠ i:=fun h=>HEX.out (h ▸ HAI.out)
     obtain ⟨m,rfl⟩:∃ m,k=i + (m + 1):=⟨k - i - 1,by omega⟩
     have a64:i64ok ((a:Nat):Int):=⟨by omega,by omega⟩
     have m64:i64ok ((m + 1:Nat):Int):=⟨by omega,by omega⟩
     have ha21:=itoa_len _ a64
     have hm21:=itoa_len _ m64
     obtain ⟨sa,hsa⟩:∃ x:ByteArray,x=⟨(Go.Lib.itoa ((a:Nat):Int)).toArray⟩:=⟨_,rfl⟩
     obtain ⟨sm,hsm⟩:∃ x:ByteArray,x=⟨(Go.Lib.itoa ((m + 1:Nat):Int)).toArray⟩:=⟨_,rfl⟩
     have hza:sa.size ≤ 21:=by rw [hsa,size_list];exact ha21
     have hzm:sm.size ≤ 21:=by rw [hsm,size_list];exact hm21
     have HIA:Hid (∀ W,Below w.heap.size w W→Calls Tryz.prog 69 #[.int .i64 ((a:Nat):Int)] W fun e w'=>e=.returned (.string sa)∧Below W.heap.size W w'):=Lib.hid fun W hW=>by
      rw [hsa]
      exact itoa_any (HE.out.below hW HE.out.1) _ a64
     have HIM:Hid (∀ W,Below w.heap.size w W→Calls Tryz.prog 69 #[.int .i64 ((m + 1:Nat):Int)] W fun e w'=>e=.returned (.string sm)∧Below W.heap.size W w'):=Lib.hid fun W hW=>by
      rw [hsm]
      exact itoa_any (HE.out.below hW HE.out.1) _ m64
     have htz:=HTZ.out
     have h32:(⟨#[32]⟩:ByteArray).size=1:=rfl
     have h42:(⟨#[42]⟩:ByteArray).size=1:=rfl
     obtain ⟨x1,hx1,y1⟩:=sum_text ⟨#[32]⟩ sa (by omega)
     have hz1:x1.size ≤ 22:=by rw [size_list x1,hx1,List.length_append,← size_list,← size_list];omega
     obtain ⟨x2,hx2,y2⟩:=sum_text t x1 (by omega)
     have hz2:x2.size ≤ t.size + 22:=by rw [size_list x2,hx2,List.length_append,← size_list,← size_list];omega
     obtain ⟨x3,hx3,y3⟩:=sum_text ⟨#[42]⟩ sm (by omega)
     have hz3:x3.size ≤ 22:=by rw [size_list x3,hx3,List.length_append,← size_list,← size_list];omega
     obtain ⟨x4,hx4,y4⟩:=sum_text x2 x3 (by omega)
     have hz4:x4.size ≤ t.size + 44:=by rw [size_list x4,hx4,List.length_append,← size_list,← size_list];omega
     have zs:IntKind.i64.wrap (((i + (m + 1):Nat):Int) - (i:Int))=((m + 1:Nat):Int):=by rw [IntKind.wrap_i64];omega
     have zs':IntKind.i64.wrap ((i:Int) + ((m:Int) + 1) - (i:Int))=(m:Int) + 1:=by rw [IntKind.wrap_i64];omega
     have zs2:((i + (m + 1):Nat):Int) - (i:Int)=((m + 1:Nat):Int):=by omega
     have HST:∀ r:List UInt8,r=t.data.toList ++ itemT (a,m + 1)→Hid (ItemsTo L (i + (m + 1)) r):=fun r hr=>Lib.hid (items_step L i m a _ r HT.out HR.out HEX.out hr)
     by_cases hm0:m=0
     ·have d1:decide ((1:Int) < ((m + 1:Nat):Int))=false:=decide_eq_false (by omega)
      have d2:decide ((1:Int) < (m:Int) + 1)=false:=decide_eq_false (by omega)
      have HF:=HST x2.data.toList (by rw [hx2,hx1,hsa,hm0];simp [itemT])
      have HZ:Hid (x2.size ≤ 3 + 44 * (i + (m + 1))):=Lib.hid (by omega)
      have HM0:=Lib.hid hm0
      clear hm0 hx1 hx2 hx3 hx4 hz1 hz2 hz3 hz4 HST hsa hsm hza hzm htz h32 h42 ha21 hm21 a64 m64 hne
      go_upto_region 7 with fail
      go_upto_region 8 with (go_at_call 69;refine (HIA.out _ (by first | exact below_drewN HBR.out _ | exact HBR.out)).mono ?_;rintro e w2 ⟨rfl,hb2⟩)
      have HB2:Hid (Below w.heap.size w w2):=Lib.hid ((below_drewN HBR.out _).trans (hb2.mono HBR.out.size))
      clear hb2
      go_wp2
      go_roundg (n - (i + (m + 1)))
      case measure=>have:=HG.out;omega
      case rel=>exact ⟨i + (m + 1),x2,by simp,by omega,by omega,rfl,HF,HZ,HB2⟩
     ·have d1:decide ((1:Int) < ((m + 1:Nat):Int))=true:=decide_eq_true (by omega)
      have d2:decide ((1:Int) < (m:Int) + 1)=true:=decide_eq_true (by omega)
      have HF:=HST x4.data.toList (by rw [hx4,hx3,hx2,hx1,hsa,hsm];simp [itemT,show 0 < m by omega])
      have HZ:Hid (x4.size ≤ 3 + 44 * (i + (m + 1))):=Lib.hid (by omega)
      clear hm0 hx1 hx2 hx3 hx4 hz1 hz2 hz3 hz4 HST hsa hsm hza hzm htz h32 h42 ha21 hm21 a64 m64 hne
      go_upto_region 7 with fail
      go_upto_region 8 with (go_at_call 69;refine (HIA.out _ (by first | exact below_drewN HBR.out _ | exact HBR.out)).mono ?_;rintro e w2 ⟨rfl,hb2⟩)
      have HB2:Hid (Below w.heap.size w w2):=Lib.hid ((below_drewN HBR.out _).trans (hb2.mono HBR.out.size))
      clear hb2
      go_wp2_with (go_at_call 69;refine (HIM.out _ HB2.out).mono ?_;rintro e w3 ⟨rfl,hb3⟩)
      have HB3:Hid (Below w.heap.size w w3):=Lib.hid (HB2.out.trans (hb3.mono HB2.out.size))
      go_roundg (n - (i + (m + 1)))
      case measure=>have:=HG.out;omega
      case rel=>exact ⟨i + (m + 1),x4,by simp,by omega,by omega,rfl,HF,HZ,HB3⟩
  ·have e1:decide ((i:Int) < (n:Int))=false:=decide_eq_false (by omega)
   have e2:decide (i < n)=false:=decide_eq_false hil
   have hie:i=n:=by omega
   have hz:=HTZ.out
   obtain ⟨r,hr,gr⟩:=sum_text t ⟨#[10]⟩ (by have:(⟨#[10]⟩:ByteArray).size=1:=rfl;omega)
   have HF:Hid (r=⟨(stepsT L).toArray⟩):=Lib.hid (by
    have h:=items_end L n t.data.toList r.data.toList HL.out (hie ▸ HT.out) hr
    cases r with
    | mk d=>rw [← h])
   clear hr hie hz
   go_wp2
   go_ret
   exact ⟨by rw [HF.out];rfl,HB.out⟩
theorem blen_any (b:Nat) (l:List UInt8) (w:World) (h:Bld b l w):Calls Tryz.prog 34 #[.pointer (some ⟨b,0,none⟩)] w fun e w'=>e=.returned (.int .i64 (l.length:Int))∧w'=w:=by
 obtain ⟨p,v,hp,hb,hown⟩:=h.at_
 obtain ⟨R,cR,rfl,_,_⟩:=own_shapes hown
 have c1:w.cell? ⟨b,1,none⟩=some (.slice R l.length cR):=(hb.cell 1).trans rfl
 have hlt:=hb.lt
 clear hb hown h hp
 go_enter Tryz.func34,Tryz.ntmps34
 go_wp2
 go_ret
 exact ⟨rfl,rfl⟩
theorem bld_below {B b:Nat} {l:List UInt8} {v:Value} {w w':World} {e:Ending} (h:BldPost w b l v e w') (hB:B ≤ b) (hw:B ≤ w.heap.size):Below B w w' :=
 h.2.2.below hw fun q hq=>by rcases hq with rfl | ⟨h,_⟩ <;> omega
theorem bld_blk {b g:Nat} {l:List UInt8} {v:Value} {w w':World} {e:Ending} {t:TypeId} {cs:Array Value} (h:BldPost w b l v e w') (hg:Blk w g t cs) (hne:g ≠ b) (ht:t ≠ 5):Blk w' g t cs:=by
 refine (h.2.2.block g hg.lt fun hq=>?_).trans hg
 rcases hq with h1 | ⟨_,cs',hc⟩
 ·exact hne h1
 ·exact hg.ne_ hc ht rfl
end Go.Proofs.YtiheggkkgbfndaaGreatDoor
namespace Go.Proofs.YtiheggkkgbfndaaGreatDoor
open Go Go.Lib
set_option linter.unusedVariables false
set_option linter.unusedSimpArgs false
def jobTR (j:RJob):List UInt8:=rowT wJob (j.prog :: j.args)
def threadTR (l:List RJob):List UInt8:=wThread ++ [10] ++ l.flatMap jobTR
def lineTR (x:RLine):List UInt8:=if x.kind=1 then stepsT (x.thr.map Int.toNat) else looksL.getD (x.kind.toNat - 2) [] ++ [10]
def textR (s:RSet) (ps:List (List UInt8)) (l:List RLine):List UInt8:=configT s.cfg ++ s.regs.flatMap regionT ++ ps.flatMap progT ++ s.thr.flatMap threadTR ++ l.flatMap lineTR
theorem threadTR_raw (l:List PJob):threadTR (l.map PJob.raw)=threadT l:=by
 unfold threadTR threadT
 rw [List.flatMap_map]
 rfl
theorem lineTR_raw (x:PLine):lineTR x.raw=lineT x:=by
 unfold lineTR lineT PLine.raw
 simp only [List.map_map,Int.toNat_natCast]
 rw [show (Int.toNat ∘ fun (t:Nat)=>(t:Int))=id from rfl,List.map_id]
 by_cases h:x.kind=1
 ·rw [if_pos h,if_pos (by omega)]
 ·rw [if_neg h,if_neg (by omega)]
theorem textR_raw (s:PSet) (ps:List (List UInt8)) (l:List PLine):textR s.raw ps (l.map PLine.raw)=textS s ps l:=by
 unfold textR textS PSet.raw
 simp only
 rw [List.flatMap_map,List.flatMap_map]
 congr 1
 ·congr 1
  exact congrArg (fun f=>List.flatMap f s.thr) (funext threadTR_raw)
 ·exact congrArg (fun f=>List.flatMap f l) (funext lineTR_raw)
theorem flat_take {α:Type} (f:α→List UInt8) (l:List α) (i:Nat) (x:α) (h:l[i]?=some x):(l.take (i + 1)).flatMap f=(l.take i).flatMap f ++ f x:=by
 rw [List.take_add_one,h]
 simp
theorem flat_len {α:Type} (f:α→List UInt8) (m:Nat):∀ l:List α,(∀ x ∈ l,(f x).length ≤ m)→(l.flatMap f).length ≤ m * l.length
 | [],_=>by simp
 | a :: l,h=>by
  have h1:=flat_len f m l fun x hx=>h x (List.mem_cons_of_mem _ hx)
  have h2:=h a (by simp)
  rw [List.flatMap_cons,List.length_append,List.length_cons,Nat.mul_add]
  omega
theorem job_len {n:Nat} {j:RJob} (h:rawJob n j) (h64:∀ v ∈ j.prog :: j.args,i64ok v):(jobTR j).length ≤ 114:=by
 have:=row_len wJob (j.prog :: j.args) h64
 have h4:=h.2.2
 unfold jobTR
 simp only [wJob,List.length_cons,List.length_nil] at this ⊢
 omega
theorem thread_len {n:Nat} {l:List RJob} (h:thrR n l) (h64:∀ j ∈ l,∀ v ∈ j.prog :: j.args,i64ok v):(threadTR l).length ≤ 3655:=by
 have h1:=flat_len jobTR 114 l fun j hj=>job_len (h.2 j hj) (h64 j hj)
 have h2:=h.1
 unfold threadTR
 simp only [wThread,List.length_append,List.length_cons,List.length_nil]
 omega
theorem region_len {r:Reg} (h:regOk r):(regionT r).length ≤ 40:=by
 obtain ⟨k,cap⟩:=r
 obtain ⟨h1,h2,h3,h4⟩:=h
 simp only at h1 h2 h3 h4
 have h5:=itoa_len cap ⟨by omega,by omega⟩
 have hk:k=1 ∨ k=2 ∨ k=3 ∨ k=4:=by omega
 rcases hk with rfl | rfl | rfl | rfl <;>
 ·unfold regionT rowT
  simp [wRegion,kindsL]
  omega
theorem config_len {c:Cfg} {l:List Reg} (h:cfgOk c l):(configT c).length ≤ 200:=by
 obtain ⟨k0,k0',k1,k1',k2,k2',k3,k3',k4,k4',k8,_⟩:=h
 have h0:=itoa_len c.raw ⟨by omega,by omega⟩
 have h1:=itoa_len c.ring ⟨by omega,by omega⟩
 have h2:=itoa_len c.writes ⟨by omega,by omega⟩
 have h3:=itoa_len c.stamps ⟨by omega,by omega⟩
 have h4:=itoa_len c.tries ⟨by omega,by omega⟩
 have h5:(if c.multi then wMulti else wSingle).length ≤ 6:=by cases c.multi <;> decide
 unfold configT
 simp only [wConfig,List.length_append,List.length_cons,List.length_nil] at h5 ⊢
 omega
theorem head_len {c:Cfg} {l:List Reg} (h:cfgOk c l):(configT c ++ l.flatMap regionT).length ≤ 600:=by
 have h1:=config_len h
 have h8:=h.2.2.2.2.2.2.2.2.2.2
 have h2:=flat_len regionT 40 l fun r hr=>region_len (h8.2 r hr)
 have h3:=h8.1
 rw [List.length_append]
 omega
end Go.Proofs.YtiheggkkgbfndaaGreatDoor
namespace Go.Proofs.YtiheggkkgbfndaaGreatDoor
open Go.RowKit Go.Joins Go.ChangeShapes Go.WideShapes Go.Deep
set_option linter.unusedVariables false
set_option linter.unusedSimpArgs false
set_option maxRecDepth 100000
open Classical in
noncomputable def progText (p:List UInt8):Option (List UInt8):=if h:∃ L,p.length ≤ 512∧Dec (bytesL ⟨p.toArray⟩) L p.length then some (printF h.choose) else none
theorem progText_some {p:List UInt8} {L:List AOp} (h5:p.length ≤ 512) (hL:Dec (bytesL ⟨p.toArray⟩) L p.length):progText p=some (printF L):=by
 have h:∃ L,p.length ≤ 512∧Dec (bytesL ⟨p.toArray⟩) L p.length:=⟨L,h5,hL⟩
 unfold progText
 rw [dif_pos h]
 have hl:=bytesL_length ⟨p.toArray⟩
 have hz:(⟨p.toArray⟩:ByteArray).size=p.length:=by rw [size_list]
 obtain ⟨e,_⟩:=(h.choose_spec.2).det hL (.inl (by omega)) (.inl (by omega))
 rw [e]
def AsmPost (p:List UInt8) (w:World) (e:Ending) (w':World):Prop:=Below w.heap.size w w'∧((∃ t,progText p=some t∧p.length ≤ 512∧e=.returned (.tuple #[.string ⟨t.toArray⟩,.int .i64 0])) ∨ (progText p=none∧∃ n:Int,n ≠ 0∧e=.returned (.tuple #[.string ⟨#[]⟩,.int .i64 n])))
theorem asm_any {B:Nat} (p:List UInt8) (w:World) (hE:EnvIn B w) (hs:p.length ≤ 4611686018427387904):Calls Tryz.prog 30 #[.string ⟨p.toArray⟩] w (AsmPost p w):=by
 have hz:(⟨p.toArray⟩:ByteArray).size=p.length:=by rw [size_list]
 have hl:=bytesL_length ⟨p.toArray⟩
 refine (print_any ⟨p.toArray⟩ w hE (by omega)).mono ?_
 rintro e w' ⟨hb,h⟩
 refine ⟨hb,?_⟩
 rcases h with ⟨h1,rfl⟩ | ⟨h1,L,q,hD,hq,hat,rfl⟩ | ⟨h1,L,hD,rfl⟩
 ·refine .inr ⟨?_,2,by decide,rfl⟩
  unfold progText
  rw [dif_neg]
  rintro ⟨L,h5,_⟩
  omega
 ·refine .inr ⟨?_,10,by decide,rfl⟩
  unfold progText
  rw [dif_neg]
  rintro ⟨L',h5,hD'⟩
  obtain ⟨_,e⟩:=hD.det hD' (.inr hat) (.inl (by omega))
  omega
 ·rw [hz] at hD h1
  exact .inl ⟨_,progText_some h1 hD,h1,rfl⟩
end Go.Proofs.YtiheggkkgbfndaaGreatDoor
namespace Go.Proofs.YtiheggkkgbfndaaGreatDoor
open Go Go.Lib
set_option linter.unusedVariables false
set_option linter.unusedSimpArgs false
theorem progText_back {p t:List UInt8} (h:progText p=some t):∃ L,t=printF L∧Enc L∧sizeF L ≤ 512∧bytesOf L=p∧L.length ≤ 512∧p.length ≤ 512:=by
 unfold progText at h
 split at h
 ·rename_i hx
  injection h with h
  obtain ⟨h5,hD⟩:=hx.choose_spec
  have hz:(⟨p.toArray⟩:ByteArray).size=p.length:=by rw [size_list]
  obtain ⟨e1,e2,e3,e4⟩:=dec_back (s:=⟨p.toArray⟩) (by rw [hz];exact hD) (by omega)
  exact ⟨_,h.symm,e1,by omega,e3,e4,h5⟩
 ·cases h
theorem progText_len {p t:List UInt8} (h:progText p=some t):t.length ≤ 100000:=by
 obtain ⟨L,rfl,h1,h2,_,h4,_⟩:=progText_back h
 exact print_len h1 h2 h4
theorem progT_len {p t:List UInt8} (h:progText p=some t):(progT t).length ≤ 100100:=by
 have:=progText_len h
 unfold progT
 simp only [wProgram,wEnd,List.length_append,List.length_cons,List.length_nil]
 omega
theorem progs_step {l:List (List UInt8)} {i:Nat} {p t:List UInt8} {ps:List (List UInt8)} (h:(l.take i).map progText=ps.map some) (hp:l[i]?=some p) (ht:progText p=some t):(l.take (i + 1)).map progText=(ps ++ [t]).map some:=by
 rw [List.take_add_one,hp,List.map_append,h]
 simp [ht]
theorem runsF_len:∀ l:List Nat,(runsF l).length ≤ l.length
 | []=>by simp [runsF]
 | a :: l=>by
  have h:=runsF_len l
  unfold runsF
  split
  ·rename_i b k r hr
   rw [hr] at h
   simp only [List.length_cons] at h
   split
   ·simp only [List.length_cons];omega
   ·simp only [List.length_cons];omega
  ·simp
theorem runsF_mem:∀ l:List Nat,∀ x ∈ runsF l,x.1 ∈ l∧x.2 ≤ l.length
 | [],x,h=>by simp [runsF] at h
 | a :: l,x,h=>by
  have ih:=runsF_mem l
  unfold runsF at h
  split at h
  ·rename_i b k r hr
   rw [hr] at ih
   split at h
   ·rename_i hab
    rcases List.mem_cons.1 h with rfl | h
    ·have:=ih (b,k) (by simp)
     exact ⟨by rw [← hab];simp,by simp only [List.length_cons] at this ⊢;omega⟩
    ·have:=ih x (List.mem_cons_of_mem _ h)
     exact ⟨List.mem_cons_of_mem _ this.1,by simp only [List.length_cons];omega⟩
   ·rcases List.mem_cons.1 h with rfl | h
    ·exact ⟨by simp,by simp⟩
    ·have:=ih x h
     exact ⟨List.mem_cons_of_mem _ this.1,by simp only [List.length_cons];omega⟩
  ·have:x=(a,1):=by simpa using h
   rw [this]
   exact ⟨by simp,by simp⟩
theorem steps_len (l:List Nat) (h:∀ t ∈ l,t ≤ 99) (hl:l.length ≤ 1000000):(stepsT l).length ≤ 4 + 44 * l.length:=by
 have h1:=flat_len itemT 44 (runsF l) fun x hx=>by
  have h2:=runsF_mem l x hx
  have h3:=h _ h2.1
  have h4:=itoa_len (x.1:Int) ⟨by omega,by omega⟩
  have h5:=itoa_len (x.2:Int) ⟨by omega,by omega⟩
  unfold itemT
  rw [List.length_cons,List.length_append]
  split
  ·rw [List.length_cons];omega
  ·simp only [List.length_nil];omega
 have h2:=runsF_len l
 unfold stepsT
 simp only [wRun,List.length_append,List.length_cons,List.length_nil]
 omega
theorem looks_len:∀ k,k < 6→(looksL.getD k []).length ≤ 6:=by decide
theorem thr_nat {x:RLine} (h:lineR x):(∀ t ∈ x.thr.map Int.toNat,t ≤ 99)∧x.thr=(x.thr.map Int.toNat).map fun (t:Nat)=>(t:Int):=by
 refine ⟨fun t ht=>?_,?_⟩
 ·obtain ⟨a,ha,rfl⟩:=List.mem_map.1 ht
  have:=h.2.2.2 a ha
  omega
 ·rw [List.map_map]
  have:x.thr.map ((fun (t:Nat)=>(t:Int)) ∘ Int.toNat)=x.thr.map id:=List.map_congr_left fun a ha=>by
   have:=h.2.2.2 a ha
   simp only [Function.comp,id]
   omega
  rw [this,List.map_id]
theorem line_len {x:RLine} (h:lineR x) (hl:x.thr.length ≤ 1000000):(lineTR x).length ≤ 8 + 44 * x.thr.length:=by
 unfold lineTR
 split
 ·have:=steps_len (x.thr.map Int.toNat) (thr_nat h).1 (by simpa using hl)
  rw [List.length_map] at this
  omega
 ·have:=looks_len (x.kind.toNat - 2) (by have:=h.2.1;omega)
  rw [List.length_append]
  simp only [List.length_cons,List.length_nil]
  omega
theorem rlines_len {l:List RLine} (h:linedR l):∀ i,((l.take i).flatMap lineTR).length ≤ 8 * i + 44 * manyR (l.take i)
 | 0=>by simp [manyR]
 | i + 1=>by
  have ih:=rlines_len h i
  cases hx:l[i]? with
  | none =>
   have e:l.take (i + 1)=l.take i:=by rw [List.take_add_one,hx];simp
   rw [e]
   omega
  | some x =>
   have hm:=many_take l i x hx
   have hle:=many_le l (i + 1)
   have h2:=h.2
   have:=line_len (h.1 x (List.mem_of_getElem? hx)) (by omega)
   rw [flat_take lineTR l i x hx,List.length_append]
   omega
theorem line_steps {x:RLine} (h:x.kind=1):lineTR x=stepsT (x.thr.map Int.toNat):=by
 unfold lineTR
 rw [if_pos h]
theorem line_look {x:RLine} (h:x.kind ≠ 1):lineTR x=looksL.getD (x.kind.toNat - 2) [] ++ [10]:=by
 unfold lineTR
 rw [if_neg h]
theorem job_rows (p:Int) (L:List Int):rows i64C (p :: L)=[Value.int .i64 p] ++ rows i64C L:=by
 unfold rows
 rw [List.flatMap_cons]
 rfl
theorem take_len {α:Type} {l:List α} {n:Nat} (h:l.length ≤ n):l.take n=l:=List.take_of_length_le h
end Go.Proofs.YtiheggkkgbfndaaGreatDoor
