/- What place.Check and the document's Check do. -/
import Derived.Test.YtiheggkkgbfndaaGreatDoorL34
namespace Go.Proofs.YtiheggkkgbfndaaGreatDoor
open Go.RowKit Go.Joins Go.ChangeShapes Go.WideShapes Go.Deep
set_option linter.unusedVariables false
set_option linter.unusedSimpArgs false
set_option maxRecDepth 100000


theorem regs_cell {w:World} {b off n:Nat} {l:List Reg} (hl:l.length=n) (hc:∀ (j:Nat) u,(rows Reg.cells l)[j]?=some u→w.cell? ⟨b,off + j,none⟩=some u) {k:Nat} (hk:k < n) :
  w.cell? ⟨b,off + k * 2,none⟩=some (.int .i64 (l[k]'(by omega)).kind)∧w.cell? ⟨b,off + k * 2 + 1,none⟩=some (.int .i64 (l[k]'(by omega)).cap):=by
 have h0:=rows_at Reg.cells 2 (fun _=>rfl) l k 0 (by omega) (by omega)
 have h1:=rows_at Reg.cells 2 (fun _=>rfl) l k 1 (by omega) (by omega)
 exact ⟨hc (k * 2) _ h0,by rw [Nat.add_assoc];exact hc (k * 2 + 1) _ h1⟩

theorem checkF_no {c:Cfg} {l:List Reg} (h:¬ cfgOk c l):checkF c l=13:=by simp [checkF,h]
theorem checkF_yes {c:Cfg} {l:List Reg} (h:cfgOk c l):checkF c l=0:=by simp [checkF,h]

def RelC (l:List Reg) (n:Nat) (w:World) (gk:Nat) (i:Value) (wr:World):Prop :=
 ∃ k:Nat,i=.int .i64 k∧k ≤ n∧gk=n - k∧(∀ j (h:j < l.length),j < k→regOk l[j])∧Below w.heap.size w wr

set_option maxHeartbeats 2000000 in
theorem pcheck_any (c:Cfg) (l:List Reg) (A:Option Addr) (n nc:Nat) (w:World) (B:Nat) (hl:l.length=n) (hn:n ≤ 9223372036854775807) (hB:B ≤ w.heap.size) (hA:Reads w B 2 A n (rows Reg.cells l)) :
  Calls Tryz.prog 19 #[.agg #[.int .i64 c.raw,.int .i64 c.ring,.int .i64 c.writes,.int .i64 c.stamps,.bool c.multi,.int .i64 c.tries,.slice A n nc]] w fun e w'=>e=.returned (.int .i64 (checkF c l))∧Below w.heap.size w w':=by
 obtain ⟨raw,ring,writes,stamps,multi,tries⟩:=c
 have HL:=Lib.hid hl
 simp only
 clear hl
 go_enter Tryz.func19,Tryz.ntmps19
 go_wp2_with fail
 refine (within_any raw 1 64 _).mono ?_
 rintro e w1 ⟨rfl,rfl⟩
 by_cases h0:1 ≤ raw∧raw ≤ 64
 rotate_left
 ·rw [decide_eq_false h0]
  have H0:=Lib.hid h0
  clear h0
  go_wp2_with fail
  go_ret
  exact ⟨congrArg (fun z=>Ending.returned (.int .i64 z)) (checkF_no (fun h=>H0.out ⟨h.1,h.2.1⟩)).symm,by repeat (first | with_reducible exact Below.refl _ _ | with_reducible refine Below.drew ?_ | with_reducible refine below_drewN ?_ _ | ((with_reducible refine Below.alloc ?_ ?_ _);(rotate_left;focus (first | with_reducible exact Nat.le_refl _ | omega | (simp;done) | (simp;omega) | (simp [World.setCell];done) | (simp [World.setCell];omega)))) | ((with_reducible refine Below.setCell ?_ ?_ _);(rotate_left;focus (first | with_reducible exact Nat.le_refl _ | omega | (simp;done) | (simp;omega) | (simp [World.setCell];done) | (simp [World.setCell];omega)))))⟩
 rw [decide_eq_true h0]
 have H0:=Lib.hid h0
 clear h0
 go_wp2_with fail
 refine (within_any ring 1 16 _).mono ?_
 rintro e w1 ⟨rfl,rfl⟩
 by_cases h1:1 ≤ ring∧ring ≤ 16
 rotate_left
 ·rw [decide_eq_false h1]
  have H1:=Lib.hid h1
  clear h1
  go_wp2_with fail
  go_ret
  exact ⟨congrArg (fun z=>Ending.returned (.int .i64 z)) (checkF_no (fun h=>H1.out ⟨h.2.2.1,h.2.2.2.1⟩)).symm,by repeat (first | with_reducible exact Below.refl _ _ | with_reducible refine Below.drew ?_ | with_reducible refine below_drewN ?_ _ | ((with_reducible refine Below.alloc ?_ ?_ _);(rotate_left;focus (first | with_reducible exact Nat.le_refl _ | omega | (simp;done) | (simp;omega) | (simp [World.setCell];done) | (simp [World.setCell];omega)))) | ((with_reducible refine Below.setCell ?_ ?_ _);(rotate_left;focus (first | with_reducible exact Nat.le_refl _ | omega | (simp;done) | (simp;omega) | (simp [World.setCell];done) | (simp [World.setCell];omega)))))⟩
 rw [decide_eq_true h1]
 have H1:=Lib.hid h1
 clear h1
 go_wp2_with fail
 refine (within_any writes 1 24 _).mono ?_
 rintro e w1 ⟨rfl,rfl⟩
 by_cases h2:1 ≤ writes∧writes ≤ 24
 rotate_left
 ·rw [decide_eq_false h2]
  have H2:=Lib.hid h2
  clear h2
  go_wp2_with fail
  go_ret
  exact ⟨congrArg (fun z=>Ending.returned (.int .i64 z)) (checkF_no (fun h=>H2.out ⟨h.2.2.2.2.1,h.2.2.2.2.2.1⟩)).symm,by repeat (first | with_reducible exact Below.refl _ _ | with_reducible refine Below.drew ?_ | with_reducible refine below_drewN ?_ _ | ((with_reducible refine Below.alloc ?_ ?_ _);(rotate_left;focus (first | with_reducible exact Nat.le_refl _ | omega | (simp;done) | (simp;omega) | (simp [World.setCell];done) | (simp [World.setCell];omega)))) | ((with_reducible refine Below.setCell ?_ ?_ _);(rotate_left;focus (first | with_reducible exact Nat.le_refl _ | omega | (simp;done) | (simp;omega) | (simp [World.setCell];done) | (simp [World.setCell];omega)))))⟩
 rw [decide_eq_true h2]
 have H2:=Lib.hid h2
 clear h2
 go_wp2_with fail
 refine (within64_any stamps 1 1099511627776 _).mono ?_
 rintro e w1 ⟨rfl,rfl⟩
 by_cases h3:1 ≤ stamps∧stamps ≤ 1099511627776
 rotate_left
 ·rw [decide_eq_false h3]
  have H3:=Lib.hid h3
  clear h3
  go_wp2_with fail
  go_ret
  exact ⟨congrArg (fun z=>Ending.returned (.int .i64 z)) (checkF_no (fun h=>H3.out ⟨h.2.2.2.2.2.2.1,h.2.2.2.2.2.2.2.1⟩)).symm,by repeat (first | with_reducible exact Below.refl _ _ | with_reducible refine Below.drew ?_ | with_reducible refine below_drewN ?_ _ | ((with_reducible refine Below.alloc ?_ ?_ _);(rotate_left;focus (first | with_reducible exact Nat.le_refl _ | omega | (simp;done) | (simp;omega) | (simp [World.setCell];done) | (simp [World.setCell];omega)))) | ((with_reducible refine Below.setCell ?_ ?_ _);(rotate_left;focus (first | with_reducible exact Nat.le_refl _ | omega | (simp;done) | (simp;omega) | (simp [World.setCell];done) | (simp [World.setCell];omega)))))⟩
 rw [decide_eq_true h3]
 have H3:=Lib.hid h3
 clear h3
 go_wp2_with fail
 refine (within_any tries 1 255 _).mono ?_
 rintro e w1 ⟨rfl,rfl⟩
 by_cases h4:1 ≤ tries∧tries ≤ 255
 rotate_left
 ·rw [decide_eq_false h4]
  have H4:=Lib.hid h4
  clear h4
  go_wp2_with fail
  go_ret
  exact ⟨congrArg (fun z=>Ending.returned (.int .i64 z)) (checkF_no (fun h=>H4.out ⟨h.2.2.2.2.2.2.2.2.1,h.2.2.2.2.2.2.2.2.2.1⟩)).symm,by repeat (first | with_reducible exact Below.refl _ _ | with_reducible refine Below.drew ?_ | with_reducible refine below_drewN ?_ _ | ((with_reducible refine Below.alloc ?_ ?_ _);(rotate_left;focus (first | with_reducible exact Nat.le_refl _ | omega | (simp;done) | (simp;omega) | (simp [World.setCell];done) | (simp [World.setCell];omega)))) | ((with_reducible refine Below.setCell ?_ ?_ _);(rotate_left;focus (first | with_reducible exact Nat.le_refl _ | omega | (simp;done) | (simp;omega) | (simp [World.setCell];done) | (simp [World.setCell];omega)))))⟩
 rw [decide_eq_true h4]
 have H4:=Lib.hid h4
 clear h4
 by_cases h5:n ≤ 8
 rotate_left
 ·have e5:decide ((8:Int) < (n:Int))=true:=by simp;omega
  have H5:=Lib.hid h5
  clear h5
  go_wp2_with fail
  go_ret
  exact ⟨congrArg (fun z=>Ending.returned (.int .i64 z)) (checkF_no (fun h=>H5.out (by have:=h.2.2.2.2.2.2.2.2.2.2.1;rw [HL.out] at this;exact this))).symm,by repeat (first | with_reducible exact Below.refl _ _ | with_reducible refine Below.drew ?_ | with_reducible refine below_drewN ?_ _ | ((with_reducible refine Below.alloc ?_ ?_ _);(rotate_left;focus (first | with_reducible exact Nat.le_refl _ | omega | (simp;done) | (simp;omega) | (simp [World.setCell];done) | (simp [World.setCell];omega)))) | ((with_reducible refine Below.setCell ?_ ?_ _);(rotate_left;focus (first | with_reducible exact Nat.le_refl _ | omega | (simp;done) | (simp;omega) | (simp [World.setCell];done) | (simp [World.setCell];omega)))))⟩
 have e5:decide ((8:Int) < (n:Int))=false:=by simp;omega
 go_wp2_with fail
 clear e5
 go_loopg [44] n (fun gk i wr=>RelC l n w gk i wr)
 case atStart=>exact ⟨0,rfl,Nat.zero_le _,rfl,fun j _ h=>by omega,by repeat (first | with_reducible exact Below.refl _ _ | with_reducible refine Below.drew ?_ | with_reducible refine below_drewN ?_ _ | ((with_reducible refine Below.alloc ?_ ?_ _);(rotate_left;focus (first | with_reducible exact Nat.le_refl _ | omega | (simp;done) | (simp;omega) | (simp [World.setCell];done) | (simp [World.setCell];omega)))) | ((with_reducible refine Below.setCell ?_ ?_ _);(rotate_left;focus (first | with_reducible exact Nat.le_refl _ | omega | (simp;done) | (simp;omega) | (simp [World.setCell];done) | (simp [World.setCell];omega)))))⟩
 case round =>
  obtain ⟨k,rfl,hk,hgk,hreg,hbel⟩:=hrel
  have HG:=Lib.hid hgk
  have HREG:=Lib.hid hreg
  clear hgk hreg
  by_cases hkn:k < n
  ·obtain ⟨b,off,rfl,hb,hc⟩:=reads_flat hA (by omega) (by omega)
   obtain ⟨d0,d1⟩:=regs_cell HL.out hc hkn
   have hkl:k < l.length:=by rw [HL.out];exact hkn
   obtain ⟨r,hr⟩:∃ r,r=l[k]:=⟨_,rfl⟩
   rw [← hr] at d0 d1
   have g0:wr.cell? ⟨b,off + k * 2,none⟩=some (.int .i64 r.kind):=(hbel.cell (p:=⟨b,off + k * 2,none⟩) (by simp;omega)).trans d0
   have g1:wr.cell? ⟨b,off + k * 2 + 1,none⟩=some (.int .i64 r.cap):=(hbel.cell (p:=⟨b,off + k * 2 + 1,none⟩) (by simp;omega)).trans d1
   have HR:=Lib.hid hr
   clear d0 d1 hc hr
   go_wp2_with fail
   refine (psize_any r _).mono ?_
   rintro e w2 ⟨rfl,hb2⟩
   have hbel2:Below w.heap.size w w2:=(hbel.alloc hbel.size _).trans (hb2.mono (by have:=hbel.size;simp;omega))
   clear hb2
   by_cases hok:regOk r
   ·have e0:(sizeE r != 0)=false:=by simp [sizeE,hok]
    have HOK:=Lib.hid hok
    clear hok
    go_wp2_with fail
    go_roundg (n - (k + 1))
    case measure=>have:=HG.out;omega
    case rel =>
     refine ⟨k + 1,by go_num,by omega,rfl,fun j h hj=>?_,hbel2⟩
     by_cases hjk:j < k
     ·exact HREG.out j h hjk
     ·obtain rfl:j=k:=by omega
      rw [← HR.out]
      exact HOK.out
   ·have e0:(sizeE r != 0)=true:=by simp [sizeE,hok]
    have e1:sizeE r=13:=by simp [sizeE,hok]
    have HOK:=Lib.hid hok
    clear hok
    go_wp2_with fail
    go_ret
    exact ⟨congrArg (fun z=>Ending.returned (.int .i64 z)) (checkF_no (fun h=>HOK.out (h.2.2.2.2.2.2.2.2.2.2.2 r (by rw [HR.out];exact List.getElem_mem _)))).symm,hbel2⟩
  ·obtain rfl:k=n:=by omega
   go_wp2_with fail
   go_ret
   refine ⟨congrArg (fun z=>Ending.returned (.int .i64 z)) (checkF_yes ?_).symm,hbel⟩
   exact ⟨H0.out.1,H0.out.2,H1.out.1,H1.out.2,H2.out.1,H2.out.2,H3.out.1,H3.out.2,H4.out.1,H4.out.2,by rw [HL.out];exact h5,fun r hr=>by
    obtain ⟨j,hj,rfl⟩:=List.getElem_of_mem hr
    exact HREG.out j hj (by rw [← HL.out];exact hj)⟩

set_option maxHeartbeats 4000000 in
theorem rcheck_any (c:Cfg) (l:List Reg) (A:Option Addr) (n nc:Nat) (w:World) (B:Nat) (hl:l.length=n) (hn:n ≤ 9223372036854775807) (hB:B ≤ w.heap.size) (hA:Reads w B 2 A n (rows Reg.cells l)) :
  Calls Tryz.prog 23 #[.agg #[.int .i64 c.raw,.int .i64 c.ring,.int .i64 c.writes,.int .i64 c.stamps,.bool c.multi,.int .i64 c.tries,.slice A n nc]] w fun e w'=>e=.returned (.int .i64 (checkF c l))∧Below w.heap.size w w':=by
 obtain ⟨raw,ring,writes,stamps,multi,tries⟩:=c
 have HL:=Lib.hid hl
 simp only
 clear hl
 by_cases t0:raw < 1
 ·rw [checkF_no (fun h=>by have:=h.1;simp only at this;omega)]
  have f0:decide (raw < 1)=true:=decide_eq_true t0
  go_enter Tryz.func23,Tryz.ntmps23
  go_wp2_with fail
  go_ret
  exact ⟨rfl,by repeat (first | with_reducible exact Below.refl _ _ | with_reducible refine Below.drew ?_ | with_reducible refine below_drewN ?_ _ | ((with_reducible refine Below.alloc ?_ ?_ _);(rotate_left;focus (first | with_reducible exact Nat.le_refl _ | omega | (simp;done) | (simp;omega) | (simp [World.setCell];done) | (simp [World.setCell];omega)))) | ((with_reducible refine Below.setCell ?_ ?_ _);(rotate_left;focus (first | with_reducible exact Nat.le_refl _ | omega | (simp;done) | (simp;omega) | (simp [World.setCell];done) | (simp [World.setCell];omega)))))⟩
 have f0:decide (raw < 1)=false:=decide_eq_false t0
 by_cases t1:64 < raw
 ·rw [checkF_no (fun h=>by have:=h.2.1;simp only at this;omega)]
  have f1:decide (64 < raw)=true:=decide_eq_true t1
  go_enter Tryz.func23,Tryz.ntmps23
  go_wp2_with fail
  go_ret
  exact ⟨rfl,by repeat (first | with_reducible exact Below.refl _ _ | with_reducible refine Below.drew ?_ | with_reducible refine below_drewN ?_ _ | ((with_reducible refine Below.alloc ?_ ?_ _);(rotate_left;focus (first | with_reducible exact Nat.le_refl _ | omega | (simp;done) | (simp;omega) | (simp [World.setCell];done) | (simp [World.setCell];omega)))) | ((with_reducible refine Below.setCell ?_ ?_ _);(rotate_left;focus (first | with_reducible exact Nat.le_refl _ | omega | (simp;done) | (simp;omega) | (simp [World.setCell];done) | (simp [World.setCell];omega)))))⟩
 have f1:decide (64 < raw)=false:=decide_eq_false t1
 by_cases t2:ring < 1
 ·rw [checkF_no (fun h=>by have:=h.2.2.1;simp only at this;omega)]
  have f2:decide (ring < 1)=true:=decide_eq_true t2
  go_enter Tryz.func23,Tryz.ntmps23
  go_wp2_with fail
  go_ret
  exact ⟨rfl,by repeat (first | with_reducible exact Below.refl _ _ | with_reducible refine Below.drew ?_ | with_reducible refine below_drewN ?_ _ | ((with_reducible refine Below.alloc ?_ ?_ _);(rotate_left;focus (first | with_reducible exact Nat.le_refl _ | omega | (simp;done) | (simp;omega) | (simp [World.setCell];done) | (simp [World.setCell];omega)))) | ((with_reducible refine Below.setCell ?_ ?_ _);(rotate_left;focus (first | with_reducible exact Nat.le_refl _ | omega | (simp;done) | (simp;omega) | (simp [World.setCell];done) | (simp [World.setCell];omega)))))⟩
 have f2:decide (ring < 1)=false:=decide_eq_false t2
 by_cases t3:16 < ring
 ·rw [checkF_no (fun h=>by have:=h.2.2.2.1;simp only at this;omega)]
  have f3:decide (16 < ring)=true:=decide_eq_true t3
  go_enter Tryz.func23,Tryz.ntmps23
  go_wp2_with fail
  go_ret
  exact ⟨rfl,by repeat (first | with_reducible exact Below.refl _ _ | with_reducible refine Below.drew ?_ | with_reducible refine below_drewN ?_ _ | ((with_reducible refine Below.alloc ?_ ?_ _);(rotate_left;focus (first | with_reducible exact Nat.le_refl _ | omega | (simp;done) | (simp;omega) | (simp [World.setCell];done) | (simp [World.setCell];omega)))) | ((with_reducible refine Below.setCell ?_ ?_ _);(rotate_left;focus (first | with_reducible exact Nat.le_refl _ | omega | (simp;done) | (simp;omega) | (simp [World.setCell];done) | (simp [World.setCell];omega)))))⟩
 have f3:decide (16 < ring)=false:=decide_eq_false t3
 by_cases t4:writes < 1
 ·rw [checkF_no (fun h=>by have:=h.2.2.2.2.1;simp only at this;omega)]
  have f4:decide (writes < 1)=true:=decide_eq_true t4
  go_enter Tryz.func23,Tryz.ntmps23
  go_wp2_with fail
  go_ret
  exact ⟨rfl,by repeat (first | with_reducible exact Below.refl _ _ | with_reducible refine Below.drew ?_ | with_reducible refine below_drewN ?_ _ | ((with_reducible refine Below.alloc ?_ ?_ _);(rotate_left;focus (first | with_reducible exact Nat.le_refl _ | omega | (simp;done) | (simp;omega) | (simp [World.setCell];done) | (simp [World.setCell];omega)))) | ((with_reducible refine Below.setCell ?_ ?_ _);(rotate_left;focus (first | with_reducible exact Nat.le_refl _ | omega | (simp;done) | (simp;omega) | (simp [World.setCell];done) | (simp [World.setCell];omega)))))⟩
 have f4:decide (writes < 1)=false:=decide_eq_false t4
 by_cases t5:24 < writes
 ·rw [checkF_no (fun h=>by have:=h.2.2.2.2.2.1;simp only at this;omega)]
  have f5:decide (24 < writes)=true:=decide_eq_true t5
  go_enter Tryz.func23,Tryz.ntmps23
  go_wp2_with fail
  go_ret
  exact ⟨rfl,by repeat (first | with_reducible exact Below.refl _ _ | with_reducible refine Below.drew ?_ | with_reducible refine below_drewN ?_ _ | ((with_reducible refine Below.alloc ?_ ?_ _);(rotate_left;focus (first | with_reducible exact Nat.le_refl _ | omega | (simp;done) | (simp;omega) | (simp [World.setCell];done) | (simp [World.setCell];omega)))) | ((with_reducible refine Below.setCell ?_ ?_ _);(rotate_left;focus (first | with_reducible exact Nat.le_refl _ | omega | (simp;done) | (simp;omega) | (simp [World.setCell];done) | (simp [World.setCell];omega)))))⟩
 have f5:decide (24 < writes)=false:=decide_eq_false t5
 by_cases t6:stamps < 1
 ·rw [checkF_no (fun h=>by have:=h.2.2.2.2.2.2.1;simp only at this;omega)]
  have f6:decide (stamps < 1)=true:=decide_eq_true t6
  go_enter Tryz.func23,Tryz.ntmps23
  go_wp2_with fail
  go_ret
  exact ⟨rfl,by repeat (first | with_reducible exact Below.refl _ _ | with_reducible refine Below.drew ?_ | with_reducible refine below_drewN ?_ _ | ((with_reducible refine Below.alloc ?_ ?_ _);(rotate_left;focus (first | with_reducible exact Nat.le_refl _ | omega | (simp;done) | (simp;omega) | (simp [World.setCell];done) | (simp [World.setCell];omega)))) | ((with_reducible refine Below.setCell ?_ ?_ _);(rotate_left;focus (first | with_reducible exact Nat.le_refl _ | omega | (simp;done) | (simp;omega) | (simp [World.setCell];done) | (simp [World.setCell];omega)))))⟩
 have f6:decide (stamps < 1)=false:=decide_eq_false t6
 by_cases t7:1099511627776 < stamps
 ·rw [checkF_no (fun h=>by have:=h.2.2.2.2.2.2.2.1;simp only at this;omega)]
  have f7:decide (1099511627776 < stamps)=true:=decide_eq_true t7
  go_enter Tryz.func23,Tryz.ntmps23
  go_wp2_with fail
  go_ret
  exact ⟨rfl,by repeat (first | with_reducible exact Below.refl _ _ | with_reducible refine Below.drew ?_ | with_reducible refine below_drewN ?_ _ | ((with_reducible refine Below.alloc ?_ ?_ _);(rotate_left;focus (first | with_reducible exact Nat.le_refl _ | omega | (simp;done) | (simp;omega) | (simp [World.setCell];done) | (simp [World.setCell];omega)))) | ((with_reducible refine Below.setCell ?_ ?_ _);(rotate_left;focus (first | with_reducible exact Nat.le_refl _ | omega | (simp;done) | (simp;omega) | (simp [World.setCell];done) | (simp [World.setCell];omega)))))⟩
 have f7:decide (1099511627776 < stamps)=false:=decide_eq_false t7
 by_cases t8:tries < 1
 ·rw [checkF_no (fun h=>by have:=h.2.2.2.2.2.2.2.2.1;simp only at this;omega)]
  have f8:decide (tries < 1)=true:=decide_eq_true t8
  go_enter Tryz.func23,Tryz.ntmps23
  go_wp2_with fail
  go_ret
  exact ⟨rfl,by repeat (first | with_reducible exact Below.refl _ _ | with_reducible refine Below.drew ?_ | with_reducible refine below_drewN ?_ _ | ((with_reducible refine Below.alloc ?_ ?_ _);(rotate_left;focus (first | with_reducible exact Nat.le_refl _ | omega | (simp;done) | (simp;omega) | (simp [World.setCell];done) | (simp [World.setCell];omega)))) | ((with_reducible refine Below.setCell ?_ ?_ _);(rotate_left;focus (first | with_reducible exact Nat.le_refl _ | omega | (simp;done) | (simp;omega) | (simp [World.setCell];done) | (simp [World.setCell];omega)))))⟩
 have f8:decide (tries < 1)=false:=decide_eq_false t8
 by_cases t9:255 < tries
 ·rw [checkF_no (fun h=>by have:=h.2.2.2.2.2.2.2.2.2.1;simp only at this;omega)]
  have f9:decide (255 < tries)=true:=decide_eq_true t9
  go_enter Tryz.func23,Tryz.ntmps23
  go_wp2_with fail
  go_ret
  exact ⟨rfl,by repeat (first | with_reducible exact Below.refl _ _ | with_reducible refine Below.drew ?_ | with_reducible refine below_drewN ?_ _ | ((with_reducible refine Below.alloc ?_ ?_ _);(rotate_left;focus (first | with_reducible exact Nat.le_refl _ | omega | (simp;done) | (simp;omega) | (simp [World.setCell];done) | (simp [World.setCell];omega)))) | ((with_reducible refine Below.setCell ?_ ?_ _);(rotate_left;focus (first | with_reducible exact Nat.le_refl _ | omega | (simp;done) | (simp;omega) | (simp [World.setCell];done) | (simp [World.setCell];omega)))))⟩
 have f9:decide (255 < tries)=false:=decide_eq_false t9
 by_cases t10:(8:Int) < (n:Int)
 ·rw [checkF_no (fun h=>by have:=h.2.2.2.2.2.2.2.2.2.2.1;rw [HL.out] at this;omega)]
  have f10:decide ((8:Int) < (n:Int))=true:=decide_eq_true t10
  go_enter Tryz.func23,Tryz.ntmps23
  go_wp2_with fail
  go_ret
  exact ⟨rfl,by repeat (first | with_reducible exact Below.refl _ _ | with_reducible refine Below.drew ?_ | with_reducible refine below_drewN ?_ _ | ((with_reducible refine Below.alloc ?_ ?_ _);(rotate_left;focus (first | with_reducible exact Nat.le_refl _ | omega | (simp;done) | (simp;omega) | (simp [World.setCell];done) | (simp [World.setCell];omega)))) | ((with_reducible refine Below.setCell ?_ ?_ _);(rotate_left;focus (first | with_reducible exact Nat.le_refl _ | omega | (simp;done) | (simp;omega) | (simp [World.setCell];done) | (simp [World.setCell];omega)))))⟩
 have f10:decide ((8:Int) < (n:Int))=false:=decide_eq_false t10
 go_enter Tryz.func23,Tryz.ntmps23
 go_wp2_with fail
 clear f0 f1 f2 f3 f4 f5 f6 f7 f8 f9 f10
 go_loopg [3] n (fun gk i wr=>RelC l n w gk i wr∧Blk wr w.heap.size 25 #[.int .i64 raw,.int .i64 ring,.int .i64 writes,.int .i64 stamps,.bool multi,.int .i64 tries,.slice A n nc])
 case atStart=>exact ⟨⟨0,rfl,Nat.zero_le _,rfl,fun j _ h=>by omega,by repeat (first | with_reducible exact Below.refl _ _ | with_reducible refine Below.drew ?_ | with_reducible refine below_drewN ?_ _ | ((with_reducible refine Below.alloc ?_ ?_ _);(rotate_left;focus (first | with_reducible exact Nat.le_refl _ | omega | (simp;done) | (simp;omega) | (simp [World.setCell];done) | (simp [World.setCell];omega)))) | ((with_reducible refine Below.setCell ?_ ?_ _);(rotate_left;focus (first | with_reducible exact Nat.le_refl _ | omega | (simp;done) | (simp;omega) | (simp [World.setCell];done) | (simp [World.setCell];omega)))))⟩,Blk.new _ _ _⟩
 case round =>
  obtain ⟨⟨k,rfl,hk,hgk,hreg,hbel⟩,hBk⟩:=hrel
  have HG:=Lib.hid hgk
  have HREG:=Lib.hid hreg
  have c6:wr.cell? ⟨w.heap.size,6,none⟩=some (.slice A n nc):=(hBk.cell 6).trans rfl
  have hlt:=hBk.lt
  clear hgk hreg
  by_cases hkn:k < n
  ·obtain ⟨b,off,rfl,hb,hc⟩:=reads_flat hA (by omega) (by omega)
   obtain ⟨d0,d1⟩:=regs_cell HL.out hc hkn
   have hkl:k < l.length:=by rw [HL.out];exact hkn
   obtain ⟨r,hr⟩:∃ r,r=l[k]:=⟨_,rfl⟩
   rw [← hr] at d0 d1
   have g0:wr.cell? ⟨b,off + k * 2,none⟩=some (.int .i64 r.kind):=(hbel.cell (p:=⟨b,off + k * 2,none⟩) (by simp;omega)).trans d0
   have g1:wr.cell? ⟨b,off + k * 2 + 1,none⟩=some (.int .i64 r.cap):=(hbel.cell (p:=⟨b,off + k * 2 + 1,none⟩) (by simp;omega)).trans d1
   have HR:=Lib.hid hr
   clear d0 d1 hc hr
   go_wp2_with fail
   refine (rsize_any r _).mono ?_
   rintro e w2 ⟨rfl,hb2⟩
   have hbel2:Below w.heap.size w w2:=hbel.trans (hb2.mono hbel.size)
   have hB2:=hBk.below hb2 hlt
   clear hb2 c6
   by_cases hok:regOk r
   ·have e0:(sizeE r != 0)=false:=by simp [sizeE,hok]
    have HOK:=Lib.hid hok
    clear hok
    go_wp2_with fail
    go_roundg (n - (k + 1))
    case measure=>have:=HG.out;omega
    case rel =>
     refine ⟨⟨k + 1,by go_num,by omega,rfl,fun j h hj=>?_,hbel2⟩,hB2⟩
     by_cases hjk:j < k
     ·exact HREG.out j h hjk
     ·obtain rfl:j=k:=by omega
      rw [← HR.out]
      exact HOK.out
   ·have e0:(sizeE r != 0)=true:=by simp [sizeE,hok]
    have e1:sizeE r=13:=by simp [sizeE,hok]
    have HOK:=Lib.hid hok
    clear hok
    go_wp2_with fail
    go_ret
    exact ⟨congrArg (fun z=>Ending.returned (.int .i64 z)) (checkF_no (fun h=>HOK.out (h.2.2.2.2.2.2.2.2.2.2.2 r (by rw [HR.out];exact List.getElem_mem _)))).symm,hbel2⟩
  ·obtain rfl:k=n:=by omega
   go_wp2_with fail
   go_ret
   refine ⟨congrArg (fun z=>Ending.returned (.int .i64 z)) (checkF_yes ?_).symm,hbel⟩
   exact ⟨by simp only;omega,by simp only;omega,by simp only;omega,by simp only;omega,by simp only;omega,by simp only;omega,by simp only;omega,by simp only;omega,by simp only;omega,by simp only;omega,by rw [HL.out];omega,fun r hr=>by
    obtain ⟨j,hj,rfl⟩:=List.getElem_of_mem hr
    exact HREG.out j hj (by rw [← HL.out];exact hj)⟩

end Go.Proofs.YtiheggkkgbfndaaGreatDoor
