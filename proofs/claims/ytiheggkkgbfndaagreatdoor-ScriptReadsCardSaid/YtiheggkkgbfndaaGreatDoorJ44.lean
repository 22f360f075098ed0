/- script.may: walked. -/
import Derived.Test.YtiheggkkgbfndaaGreatDoorJ43
import Derived.Test.YtiheggkkgbfndaaGreatDoorSi
import Derived.Deep.CutRange
import Derived.Test.YtiheggkkgbfndaaGreatDoorJ18
namespace Go.Proofs.YtiheggkkgbfndaaGreatDoor
open Go.RowKit Go.Joins Go.ChangeShapes Go.WideShapes Go.Deep
set_option linter.unusedVariables false
set_option linter.unusedSimpArgs false
set_option maxRecDepth 100000
def rjC (x : RJob × Value) : List Value := [.int .i64 x.1.prog, x.2]
def RThrRd (W : World) (C : Nat) (l : List RJob) (v : Value) : Prop := ∃ R c av, v = .slice R l.length c ∧ l.length ≤ 9223372036854775807 ∧ av.length = l.length ∧ Reads W C 2 R l.length (rows rjC (l.zip av)) ∧ ∀ (j : Nat) x a, l[j]? = some x → av[j]? = some a → ListRd W C i64C x.args a
structure RSetRd (W : World) (C : Nat) (s : RSet) (rv pv tv : Value) : Prop where
 regs : ∃ R c, rv = .slice R s.regs.length c ∧ s.regs.length ≤ 9223372036854775807 ∧ Reads W C 2 R s.regs.length (rows Reg.cells s.regs)
 progs : ListRd W C stC s.progs pv
 thr : ∃ R c vs, tv = .slice R s.thr.length c ∧ s.thr.length ≤ 9223372036854775807 ∧ vs.length = s.thr.length ∧ Reads W C 1 R s.thr.length (rows valC vs) ∧ ∀ (i : Nat) l v, s.thr[i]? = some l → vs[i]? = some v → RThrRd W C l v
theorem RThrRd.below {W W' : World} {C : Nat} {l : List RJob} {v : Value} (h : RThrRd W C l v) (hb : Below C W W') : RThrRd W' C l v := by
 obtain ⟨R, c, av, h1, h2, h3, h4, h5⟩ := h
 exact ⟨R, c, av, h1, h2, h3, h4.below hb, fun j x a hx ha => (h5 j x a hx ha).below hb⟩
theorem RThrRd.more {W : World} {C C' : Nat} {l : List RJob} {v : Value} (h : RThrRd W C l v) (hC : C ≤ C') : RThrRd W C' l v := by
 obtain ⟨R, c, av, h1, h2, h3, h4, h5⟩ := h
 exact ⟨R, c, av, h1, h2, h3, h4.more hC, fun j x a hx ha => (h5 j x a hx ha).more hC⟩
theorem RSetRd.below {W W' : World} {C : Nat} {s : RSet} {rv pv tv : Value} (h : RSetRd W C s rv pv tv) (hb : Below C W W') : RSetRd W' C s rv pv tv := by
 obtain ⟨⟨R, c, a1, a2, a3⟩, b, ⟨R', c', vs, d1, d2, d3, d4, d5⟩⟩ := h
 exact ⟨⟨R, c, a1, a2, a3.below hb⟩, b.below hb, ⟨R', c', vs, d1, d2, d3, d4.below hb, fun i l v hl hv => (d5 i l v hl hv).below hb⟩⟩
theorem RSetRd.more {W : World} {C C' : Nat} {s : RSet} {rv pv tv : Value} (h : RSetRd W C s rv pv tv) (hC : C ≤ C') : RSetRd W C' s rv pv tv := by
 obtain ⟨⟨R, c, a1, a2, a3⟩, b, ⟨R', c', vs, d1, d2, d3, d4, d5⟩⟩ := h
 exact ⟨⟨R, c, a1, a2, a3.more hC⟩, b.more hC, ⟨R', c', vs, d1, d2, d3, d4.more hC, fun i l v hl hv => (d5 i l v hl hv).more hC⟩⟩
theorem rjob_cells {W : World} {C n : Nat} {R : Option Addr} {l : List RJob} {vs : List Value} (h : Reads W C 2 R n (rows rjC (l.zip vs))) (hv : vs.length = l.length) (hl : l.length = n) (hn : 0 < n) :
  ∃ b off, R = some ⟨b, off, none⟩ ∧ b < C ∧ ∀ (i : Nat) x v, l[i]? = some x → vs[i]? = some v → W.cell? ⟨b, off + i * 2, none⟩ = some (.int .i64 x.prog) ∧ W.cell? ⟨b, off + i * 2 + 1, none⟩ = some v := by
 obtain ⟨b, off, rfl, hb, hc⟩ := reads_flat h hn (by omega)
 refine ⟨b, off, rfl, hb, fun i x v hx hvx => ?_⟩
 have hzi : (l.zip vs)[i]? = some (x, v) := by
  rw [List.getElem?_zip_eq_some]
  exact ⟨hx, hvx⟩
 have hil : i < (l.zip vs).length := (List.getElem?_eq_some_iff.1 hzi).1
 have hze : (l.zip vs)[i] = (x, v) := (List.getElem?_eq_some_iff.1 hzi).2
 have h0 := rows_at rjC 2 (fun _ => rfl) (l.zip vs) i 0 hil (by omega)
 have h1 := rows_at rjC 2 (fun _ => rfl) (l.zip vs) i 1 hil (by omega)
 rw [hze] at h0 h1
 exact ⟨by have := hc (i * 2 + 0) _ h0; simpa using this, by have := hc (i * 2 + 1) _ h1; simpa [Nat.add_assoc] using this⟩
def JobCells (w : World) (Q : Option Addr) (t : List RJob) (m : Nat) : Prop := ∀ j, j < m → ∃ (d o : Nat) (x : RJob) (A : Option Addr) (ma ca : Nat), Q = some ⟨d, o, none⟩ ∧ d < w.heap.size ∧ t[j]? = some x ∧ x.args.length = ma ∧ ma ≤ 9223372036854775807 ∧ Reads w w.heap.size 1 A ma (rows i64C x.args) ∧ ∀ W, Below w.heap.size w W → W.cell? ⟨d, o + j * 2, none⟩ = some (.int .i64 x.prog) ∧ W.cell? ⟨d, o + j * 2 + 1, none⟩ = some (.slice A ma ca)
def ThrCells (w : World) (R : Option Addr) (l : List (List RJob)) (n : Nat) : Prop := ∀ i, i < n → ∃ (b off : Nat) (t : List RJob) (Q : Option Addr) (m q : Nat), R = some ⟨b, off, none⟩ ∧ b < w.heap.size ∧ l[i]? = some t ∧ t.length = m ∧ m ≤ 9223372036854775807 ∧ (∀ W, Below w.heap.size w W → W.cell? ⟨b, off + i, none⟩ = some (.slice Q m q)) ∧ JobCells w Q t m
theorem thr_all {w : World} {C : Nat} {s : RSet} {rv pv tv : Value} (hC : C ≤ w.heap.size) (hL : RSetRd w C s rv pv tv) : ∃ R c, tv = .slice R s.thr.length c ∧ ThrCells w R s.thr s.thr.length := by
 obtain ⟨R, c, vs, rfl, hle, hvl, hR, hT⟩ := (hL.more hC).thr
 refine ⟨R, c, rfl, fun i hi => ?_⟩
 obtain ⟨b, off, rfl, hb, hc⟩ := list_cells (α := Value) (enc := valC) (l := vs) (f := fun x => x) hR (fun _ => rfl) hvl (by omega)
 obtain ⟨t, ht⟩ : ∃ x, s.thr[i]? = some x := ⟨_, List.getElem?_eq_getElem (by omega)⟩
 obtain ⟨v, hv⟩ : ∃ v, vs[i]? = some v := ⟨_, List.getElem?_eq_getElem (by omega)⟩
 obtain ⟨Q, q, av, rfl, hm, hal, hQ, hA⟩ := hT i t v ht hv
 refine ⟨b, off, t, Q, t.length, q, rfl, hb, ht, rfl, hm, fun W hW => (hW.cell hb).trans (hc i _ hv), fun j hj => ?_⟩
 obtain ⟨d, o, rfl, hd, hcd⟩ := rjob_cells hQ hal rfl (by omega)
 obtain ⟨x, hx⟩ : ∃ x, t[j]? = some x := ⟨_, List.getElem?_eq_getElem (by omega)⟩
 obtain ⟨a, ha⟩ : ∃ a, av[j]? = some a := ⟨_, List.getElem?_eq_getElem (by omega)⟩
 obtain ⟨A, ca, rfl, hma, hAr⟩ := hA j x a hx ha
 exact ⟨d, o, x, A, x.args.length, ca, rfl, hd, hx, rfl, hma, hAr, fun W hW => ⟨(hW.cell hd).trans (hcd j x _ hx ha).1, (hW.cell hd).trans (hcd j x _ hx ha).2⟩⟩
def thrR (n : Nat) (l : List RJob) : Prop := l.length ≤ 32 ∧ ∀ j ∈ l, rawJob n j
theorem may_no {s : RSet} {i : Nat} {t : List RJob} (hx : s.thr[i]? = some t) (h : ¬ thrR s.progs.length t) : decide (mayR s) = false := decide_eq_false fun hl => h (hl.2.2.2 t (List.mem_of_getElem? hx))
set_option maxHeartbeats 4000000 in
theorem may_any (s : RSet) (C : Nat) (rv pv tv : Value) (w : World) (hC : C ≤ w.heap.size) (hL : RSetRd w C s rv pv tv) :
  Calls Tryz.prog 26 #[.agg (setupC s.cfg rv pv tv)] w fun e w' => e = .returned (.bool (decide (mayR s))) ∧ Below w.heap.size w w' := by
 obtain ⟨Rt, ct, rfl, hTC⟩ := thr_all hC hL
 obtain ⟨⟨Rr, cr, rfl, hr9, hrR⟩, ⟨Rp, cp, rfl, hp9, hpR⟩, ht9⟩ := hL.more hC
 replace ht9 : s.thr.length ≤ 9223372036854775807 := by obtain ⟨_, _, _, _, h, _⟩ := ht9; exact h
 obtain ⟨nr, hnr⟩ : ∃ nr, nr = s.regs.length := ⟨_, rfl⟩
 obtain ⟨np, hnp⟩ : ∃ np, np = s.progs.length := ⟨_, rfl⟩
 obtain ⟨nt, hnt⟩ : ∃ nt, nt = s.thr.length := ⟨_, rfl⟩
 rw [← hnr] at hr9 hrR ⊢
 rw [← hnp] at hp9 ⊢
 rw [← hnt] at ht9 hTC ⊢
 clear hpR
 obtain ⟨⟨a0, a1, a2, a3, a4, a5⟩, hcf⟩ : ∃ c, c = s.cfg := ⟨_, rfl⟩
 rw [← hcf]
 simp only [setupC]
 obtain ⟨w1, hw1⟩ : ∃ w1, w1 = w.alloc (.cells #[.int .i64 a0, .int .i64 a1, .int .i64 a2, .int .i64 a3, .bool a4, .int .i64 a5, .slice Rr nr cr, .slice Rp np cp, .slice Rt nt ct] 29) := ⟨_, rfl⟩
 obtain ⟨b1, hb1⟩ : ∃ b1, b1 = w.heap.size := ⟨_, rfl⟩
 have HK1 : Hid (Blk w1 b1 29 #[.int .i64 a0, .int .i64 a1, .int .i64 a2, .int .i64 a3, .bool a4, .int .i64 a5, .slice Rr nr cr, .slice Rp np cp, .slice Rt nt ct]) := Lib.hid (by rw [hw1, hb1]; exact Blk.new _ _ _)
 have HB1 : Hid (Below w.heap.size w w1) := Lib.hid (hw1 ▸ (Below.refl _ _).alloc (Nat.le_refl _) _)
 have HS1 : Hid (b1 < w1.heap.size) := Lib.hid HK1.out.lt
 have HCHK := Lib.hid (pcheck_any ⟨a0, a1, a2, a3, a4, a5⟩ s.regs Rr nr cr w1 w.heap.size hnr.symm hr9 HB1.out.size (hrR.below HB1.out))
 have HCF := Lib.hid hcf
 have HNR := Lib.hid hnr
 have HNP := Lib.hid hnp
 have HNT := Lib.hid hnt
 have HTC := Lib.hid hTC
 clear hrR hC hL hcf hnr hnp hnt hTC hr9
 go_enter Tryz.func26, Tryz.ntmps26
 go_upto_region 1 with fail
 rw [← hw1, ← hb1]
 clear hw1 hb1
 have p0 := (HK1.out.cell 0).trans (show _ = some (Value.int .i64 a0) from rfl)
 have p1 := (HK1.out.cell 1).trans (show _ = some (Value.int .i64 a1) from rfl)
 have p2 := (HK1.out.cell 2).trans (show _ = some (Value.int .i64 a2) from rfl)
 have p3 := (HK1.out.cell 3).trans (show _ = some (Value.int .i64 a3) from rfl)
 have p4 := (HK1.out.cell 4).trans (show _ = some (Value.bool a4) from rfl)
 have p5 := (HK1.out.cell 5).trans (show _ = some (Value.int .i64 a5) from rfl)
 have p6 := (HK1.out.cell 6).trans (show _ = some (Value.slice Rr nr cr) from rfl)
 have p7 := (HK1.out.cell 7).trans (show _ = some (Value.slice Rp np cp) from rfl)
 have p8 := (HK1.out.cell 8).trans (show _ = some (Value.slice Rt nt ct) from rfl)
 have pl := HS1.out
 by_cases hcfg : cfgOk ⟨a0, a1, a2, a3, a4, a5⟩ s.regs
 ·rw [checkF_yes hcfg] at HCHK
  have HCO := Lib.hid hcfg
  clear hcfg
  by_cases h1 : 8 < nt
  ·have d1 : decide ((8 : Int) < (nt : Int)) = true := decide_eq_true (by omega)
   have d1' : decide (8 < nt) = true := decide_eq_true h1
   have HNO : Hid (decide (mayR s) = false) := Lib.hid (decide_eq_false fun h => by have := h.2.1; rw [← HNT.out] at this; omega)
   go_wp2_with (go_at_call 19; refine (HCHK.out).mono ?_; rintro e w2 ⟨rfl, hb2⟩; have HB2 := Lib.hid hb2; have HK2 := Lib.hid (HK1.out.below hb2 HS1.out); have p7 := (HK2.out.cell 7).trans (show _ = some (Value.slice Rp np cp) from rfl); have p8 := (HK2.out.cell 8).trans (show _ = some (Value.slice Rt nt ct) from rfl); have pl2 := HK2.out.lt; clear hb2)
   go_ret
   exact ⟨by rw [HNO.out]; rfl, HB1.out.trans (HB2.out.mono HB1.out.size)⟩
  ·have d1 : decide ((8 : Int) < (nt : Int)) = false := decide_eq_false (by omega)
   have d1' : decide (8 < nt) = false := decide_eq_false h1
   by_cases h2 : 16 < np
   ·have d2 : decide ((16 : Int) < (np : Int)) = true := decide_eq_true (by omega)
    have d2' : decide (16 < np) = true := decide_eq_true h2
    have HNO : Hid (decide (mayR s) = false) := Lib.hid (decide_eq_false fun h => by have := h.2.2.1; rw [← HNP.out] at this; omega)
    go_wp2_with (go_at_call 19; refine (HCHK.out).mono ?_; rintro e w2 ⟨rfl, hb2⟩; have HB2 := Lib.hid hb2; have HK2 := Lib.hid (HK1.out.below hb2 HS1.out); have p7 := (HK2.out.cell 7).trans (show _ = some (Value.slice Rp np cp) from rfl); have p8 := (HK2.out.cell 8).trans (show _ = some (Value.slice Rt nt ct) from rfl); have pl2 := HK2.out.lt; clear hb2)
    go_ret
    exact ⟨by rw [HNO.out]; rfl, HB1.out.trans (HB2.out.mono HB1.out.size)⟩
   ·have d2 : decide ((16 : Int) < (np : Int)) = false := decide_eq_false (by omega)
    have d2' : decide (16 < np) = false := decide_eq_false h2
    go_upto_region 3 with (go_at_call 19; refine (HCHK.out).mono ?_; rintro e w2 ⟨rfl, hb2⟩; have HB2 := Lib.hid hb2; have HK2 := Lib.hid (HK1.out.below hb2 HS1.out); have p7 := (HK2.out.cell 7).trans (show _ = some (Value.slice Rp np cp) from rfl); have p8 := (HK2.out.cell 8).trans (show _ = some (Value.slice Rt nt ct) from rfl); have pl2 := HK2.out.lt; clear hb2)
    have HB : Hid (Below w.heap.size w w2) := Lib.hid (HB1.out.trans (HB2.out.mono HB1.out.size))
    clear d1 d1' d2 d2' p0 p1 p2 p3 p4 p5 p6 pl HB2 HB1 HK1 HS1 HCHK
    have HS2 : Hid (b1 < w2.heap.size) := Lib.hid pl2
    have HN1 := Lib.hid h1
    have HN2 := Lib.hid h2
    go_upto_region 4 with fail
    clear p7 p8 pl2 h1 h2
    go_loopg [26] nt (fun gk iv W => ∃ i : Nat, iv = .int .i64 i ∧ i ≤ nt ∧ gk + i = nt ∧ Hid (∀ t ∈ s.thr.take i, thrR np t) ∧ Hid (Below w2.heap.size w2 W))
    case atStart => exact ⟨0, rfl, Nat.zero_le _, rfl, Lib.hid (by intro x hx; simp at hx), Lib.hid (Below.refl _ _)⟩
    case round =>
     obtain ⟨i, rfl, hi, hgk, HALL, HBW⟩ := hrel
     have HG := Lib.hid hgk
     clear hgk
     by_cases hil : i < nt
     ·have e1 : decide ((i : Int) < (nt : Int)) = true := decide_eq_true (by omega)
      have e2 : decide (i < nt) = true := decide_eq_true hil
      have e3 : (i : Int) < (nt : Int) := by omega
      have zw : IntKind.i64.wrap ((i : Int) + 1) = (i : Int) + 1 := by rw [IntKind.wrap_i64]; omega
      obtain ⟨b, off, t, Q, m, q, rfl, hb, ht, htl, hm9, hc, hj⟩ := HTC.out i hil
      have HBX : Hid (Below w.heap.size w wr) := Lib.hid (HB.out.trans (HBW.out.mono HB.out.size))
      have c1 := hc wr HBX.out
      have hbr : b < wr.heap.size := Nat.lt_of_lt_of_le hb HBX.out.size
      have HX := Lib.hid ht
      have HXL := Lib.hid htl
      have HJ := Lib.hid hj
      clear hc hj ht htl hb
      go_upto_region 6 with fail
      clear c1 hbr
      by_cases h3 : 32 < m
      ·have d3 : decide ((32 : Int) < (m : Int)) = true := decide_eq_true (by omega)
       have d3' : decide (32 < m) = true := decide_eq_true h3
       have HNO := Lib.hid (may_no HX.out (fun h => by have := h.1; have := HXL.out; omega))
       go_wp2
       go_ret
       exact ⟨by rw [HNO.out]; rfl, HBX.out⟩
      ·have d3 : decide ((32 : Int) < (m : Int)) = false := decide_eq_false (by omega)
       have d3' : decide (32 < m) = false := decide_eq_false h3
       have H3 := Lib.hid h3
       go_upto_region 9 with fail
       clear d3 d3' h3
       go_loopg [35] m (fun gk iv W => ∃ j : Nat, iv = .int .i64 j ∧ j ≤ m ∧ gk + j = m ∧ Hid (∀ x ∈ t.take j, rawJob np x) ∧ Hid (Below w2.heap.size w2 W))
       case atStart => exact ⟨0, rfl, Nat.zero_le _, rfl, Lib.hid (by intro x hx; simp at hx), HBW⟩
       case round =>
        clear HBX HBW
        obtain ⟨j, rfl, hj, hgj, HTA, HBW⟩ := hrel
        have HGJ := Lib.hid hgj
        have HBX : Hid (Below w.heap.size w wr) := Lib.hid (HB.out.trans (HBW.out.mono HB.out.size))
        clear hgj
        by_cases hjl : j < m
        ·have f1 : decide ((j : Int) < (m : Int)) = true := decide_eq_true (by omega)
         have f2 : decide (j < m) = true := decide_eq_true hjl
         have f3 : (j : Int) < (m : Int) := by omega
         have zj : IntKind.i64.wrap ((j : Int) + 1) = (j : Int) + 1 := by rw [IntKind.wrap_i64]; omega
         obtain ⟨d, o, ⟨pr, args⟩, A, ma, ca, rfl, hd, hx, hxl, hma9, _, hcd⟩ := HJ.out j hjl
         simp only at hxl hcd
         have c1 := (hcd wr HBX.out).1
         have c2 := (hcd wr HBX.out).2
         have hdr : d < wr.heap.size := Nat.lt_of_lt_of_le hd HBX.out.size
         have HXJ := Lib.hid hx
         have HXA := Lib.hid hxl
         obtain ⟨w5, hw5⟩ : ∃ w5, w5 = wr.alloc (.cells #[.int .i64 pr, .slice A ma ca] 53) := ⟨_, rfl⟩
         obtain ⟨b5, hb5⟩ : ∃ b5, b5 = wr.heap.size := ⟨_, rfl⟩
         have HK5 : Hid (Blk w5 b5 53 #[.int .i64 pr, .slice A ma ca]) := Lib.hid (by rw [hw5, hb5]; exact Blk.new _ _ _)
         have HB5 : Hid (Below w2.heap.size w2 w5) := Lib.hid (HBW.out.trans (hw5 ▸ (Below.refl _ _).alloc HBW.out.size _))
         have HB5X : Hid (Below w.heap.size w w5) := Lib.hid (HB.out.trans (HB5.out.mono HB.out.size))
         clear hcd hx hxl hd
         go_upto_region 11 with fail
         rw [← hw5, ← hb5]
         clear hw5 hb5 c1 c2 hdr
         have p0 := (HK5.out.cell 0).trans (show _ = some (Value.int .i64 pr) from rfl)
         have p1 := (HK5.out.cell 1).trans (show _ = some (Value.slice A ma ca) from rfl)
         have pl := HK5.out.lt
         have p7 := ((HK2.out.below HB5.out HS2.out).cell 7).trans (show _ = some (Value.slice Rp np cp) from rfl)
         have pl2 : b1 < w5.heap.size := Nat.lt_of_lt_of_le HS2.out HB5.out.size
         by_cases h4 : pr < 0
         ·have d4 : decide (pr < 0) = true := decide_eq_true h4
          have HNO := Lib.hid (may_no HX.out (fun h => by have := (h.2 _ (List.mem_of_getElem? HXJ.out)).1; simp only at this; omega))
          go_wp2
          go_ret
          exact ⟨by rw [HNO.out]; rfl, HB5X.out⟩
         ·have d4 : decide (pr < 0) = false := decide_eq_false h4
          by_cases h5 : (np : Int) ≤ pr
          ·have d5 : decide ((np : Int) ≤ pr) = true := decide_eq_true h5
           have HNO := Lib.hid (may_no HX.out (fun h => by have := (h.2 _ (List.mem_of_getElem? HXJ.out)).2.1; rw [← HNP.out] at this; simp only at this; omega))
           go_wp2
           go_ret
           exact ⟨by rw [HNO.out]; rfl, HB5X.out⟩
          ·have d5 : decide ((np : Int) ≤ pr) = false := decide_eq_false h5
           by_cases h6 : 4 < ma
           ·have d6 : decide ((4 : Int) < (ma : Int)) = true := decide_eq_true (by omega)
            have d6' : decide (4 < ma) = true := decide_eq_true h6
            have HNO := Lib.hid (may_no HX.out (fun h => by have := (h.2 _ (List.mem_of_getElem? HXJ.out)).2.2; have h7 := HXA.out; simp only at this; omega))
            go_wp2
            go_ret
            exact ⟨by rw [HNO.out]; rfl, HB5X.out⟩
           ·have d6 : decide ((4 : Int) < (ma : Int)) = false := decide_eq_false (by omega)
            have d6' : decide (4 < ma) = false := decide_eq_false h6
            have HTB : Hid (∀ x ∈ t.take (j + 1), rawJob np x) := Lib.hid (take_all HTA.out HXJ.out ⟨by simp only; omega, by simp only; omega, by have h7 := HXA.out; simp only; omega⟩)
            go_wp2
            go_roundg (m - (j + 1))
            case measure => have := HGJ.out; omega
            case rel => exact ⟨j + 1, by simp, by omega, by omega, HTB, HB5⟩
        ·have f1 : decide ((j : Int) < (m : Int)) = false := decide_eq_false (by omega)
         have f2 : decide (j < m) = false := decide_eq_false hjl
         have HAL' : Hid (∀ t ∈ s.thr.take (i + 1), thrR np t) := Lib.hid (take_all HALL.out HX.out ⟨by have := H3.out; have := HXL.out; omega, by
          have h := HTA.out
          have e : t.take j = t := List.take_of_length_le (by rw [HXL.out]; omega)
          rw [e] at h
          exact h⟩)
         go_wp2
         go_roundg (nt - (i + 1))
         case measure => have := HG.out; omega
         case rel => exact ⟨i + 1, by simp, by omega, by omega, HAL', HBW⟩
     ·have e1 : decide ((i : Int) < (nt : Int)) = false := decide_eq_false (by omega)
      have e2 : decide (i < nt) = false := decide_eq_false hil
      have HYES : Hid (decide (mayR s) = true) := Lib.hid (decide_eq_true ⟨by rw [← HCF.out]; exact HCO.out, by have := HN1.out; rw [← HNT.out]; omega, by have := HN2.out; rw [← HNP.out]; omega, by
       have h := HALL.out
       have e : s.thr.take i = s.thr := List.take_of_length_le (by rw [← HNT.out]; omega)
       rw [e, HNP.out] at h
       exact h⟩)
      go_wp2
      go_ret
      exact ⟨by rw [HYES.out]; rfl, HB.out.trans (HBW.out.mono HB.out.size)⟩
 ·rw [checkF_no hcfg] at HCHK
  have HNO : Hid (decide (mayR s) = false) := Lib.hid (decide_eq_false fun h => hcfg (by have := h.1; rw [← HCF.out] at this; exact this))
  clear hcfg
  go_wp2_with (go_at_call 19; refine (HCHK.out).mono ?_; rintro e w2 ⟨rfl, hb2⟩; have HB2 := Lib.hid hb2; have HK2 := Lib.hid (HK1.out.below hb2 HS1.out); have p7 := (HK2.out.cell 7).trans (show _ = some (Value.slice Rp np cp) from rfl); have p8 := (HK2.out.cell 8).trans (show _ = some (Value.slice Rt nt ct) from rfl); have pl2 := HK2.out.lt; clear hb2)
  go_ret
  exact ⟨by rw [HNO.out]; rfl, HB1.out.trans (HB2.out.mono HB1.out.size)⟩
theorem reads_ints (w : World) (t : TypeId) (L : List Int) (n : Nat) (h : L.length = n) : Reads (w.alloc (.cells (L.map fun x => Value.int .i64 x).toArray t)) (w.heap.size + 1) 1 (some ⟨w.heap.size, 0, none⟩) n (rows i64C L) := by
 have hr : rows i64C L = L.map fun x => Value.int .i64 x := by
  unfold rows
  clear h
  induction L with
  | nil => rfl
  | cons a r ih => rw [List.flatMap_cons, ih]; rfl
 refine ⟨by rw [hr, List.length_map, h, Nat.mul_one], fun _ => ⟨_, rfl, by show w.heap.size < _; omega, fun j u hj => ?_⟩⟩
 rw [hr] at hj
 have hb := (Blk.new w t (L.map fun x => Value.int .i64 x).toArray).cell j
 have e : ((⟨w.heap.size, 0, none⟩ : Addr).add j) = ⟨w.heap.size, j, none⟩ := by simp [Addr.add]; exact fun h => h.symm
 rw [e, hb]
 simpa using hj
theorem trim_last (l : List UInt8) (c : UInt8) : Go.Lib.trimSuffix (l ++ [c]) [c] = l := by
 unfold Go.Lib.trimSuffix
 rw [if_pos (by rw [Go.Lib.hasSuffix]; simp)]
 simp
theorem kinds_fact {W w1 : World} (h : w1 = W.alloc (.cells kindV 9)) (i : Nat) : w1.cell? ⟨W.heap.size, i, none⟩ = kindV[i]? := by
 rw [h]
 exact (Blk.new _ _ _).cell i
theorem kinds_lt {W w1 : World} (h : w1 = W.alloc (.cells kindV 9)) : W.heap.size < w1.heap.size := by
 rw [h]
 simp
theorem kinds_on {w W w1 : World} (h : w1 = W.alloc (.cells kindV 9)) (hb : Below w.heap.size w W) : Below w.heap.size w w1 := h ▸ hb.alloc hb.size _
theorem kinds_blk {W w1 : World} (h : w1 = W.alloc (.cells kindV 9)) {g : Nat} {t : TypeId} {cs : Array Value} (hk : Blk W g t cs) : Blk w1 g t cs := h ▸ hk.alloc _
def cfgNums (c : Cfg) : List Int := [c.raw, c.ring, c.writes, c.stamps, c.tries]
theorem row_len (w : List UInt8) (L : List Int) (h : ∀ v ∈ L, i64ok v) : (rowT w L).length ≤ w.length + 22 * L.length + 1 := by
 have : ∀ L : List Int, (∀ v ∈ L, i64ok v) → (L.flatMap fun n => 32 :: Go.Lib.itoa n).length ≤ 22 * L.length := by
  intro L
  induction L with
  | nil => intro _; simp
  | cons a r ih =>
   intro h
   have h1 := ih fun v hv => h v (List.mem_cons_of_mem _ hv)
   have h2 := itoa_len a (h a (by simp))
   rw [List.flatMap_cons, List.length_append, List.length_cons, List.length_cons]
   omega
 have := this L h
 unfold rowT
 simp only [List.length_append, List.length_cons, List.length_nil]
 omega
theorem head_eq (c : Cfg) (rs ts a b d : ByteArray) (wd : List UInt8) (hwd : wd = if c.multi then wMulti else wSingle) (h1 : rs = ⟨(rowT wConfig (cfgNums c)).toArray⟩) (h2 : ts = ⟨(Go.Lib.trimSuffix rs.data.toList [10]).toArray⟩) (h3 : a.data.toList = ts.data.toList ++ [32]) (h4 : b.data.toList = a.data.toList ++ wd) (h5 : d.data.toList = b.data.toList ++ [10]) : d.data.toList = configT c := by
 have e1 : rs.data.toList = (wConfig ++ (cfgNums c).flatMap fun n => 32 :: Go.Lib.itoa n) ++ [10] := by rw [h1]; rfl
 have e2 : ts.data.toList = wConfig ++ (cfgNums c).flatMap fun n => 32 :: Go.Lib.itoa n := by rw [h2, e1, trim_last]
 rw [h5, h4, h3, e2, hwd]
 simp [cfgNums, configT]
theorem regs_step (l : List Reg) (i : Nat) (x : Reg) (h : l[i]? = some x) (c : Cfg) (t r z : ByteArray) (ht : t.data.toList = configT c ++ (l.take i).flatMap regionT) (hr : r = ⟨(regionT x).toArray⟩) (hz : z.data.toList = t.data.toList ++ r.data.toList) : z.data.toList = configT c ++ (l.take (i + 1)).flatMap regionT := by
 rw [List.take_add_one, h, hz, ht, hr]
 simp
set_option maxHeartbeats 4000000 in
theorem headed_head {B : Nat} (c : Cfg) (regs : List Reg) (Rr : Option Addr) (nr cr : Nat) (w : World) (hE : EnvIn B w) (hok : cfgOk c regs) (hl : regs.length = nr) (hR : Reads w w.heap.size 2 Rr nr (rows Reg.cells regs)) :
  Calls Tryz.prog 29 #[.agg #[.int .i64 c.raw, .int .i64 c.ring, .int .i64 c.writes, .int .i64 c.stamps, .bool c.multi, .int .i64 c.tries, .slice Rr nr cr]] w fun e w' => e = .returned (.string ⟨(configT c ++ regs.flatMap regionT).toArray⟩) ∧ Below w.heap.size w w' := by
 obtain ⟨a0, a1, a2, a3, a4, a5⟩ := c
 simp only
 have HOK := Lib.hid hok
 have HE := Lib.hid hE
 have HL := Lib.hid hl
 have HR := Lib.hid hR
 obtain ⟨k0, k0', k1, k1', k2, k2', k3, k3', k4, k4', k8, _⟩ := hok
 simp only at k0 k0' k1 k1' k2 k2' k3 k3' k4 k4'
 have h64 : ∀ v ∈ cfgNums ⟨a0, a1, a2, a3, a4, a5⟩, i64ok v := by
  intro v hv
  simp [cfgNums] at hv
  unfold i64ok
  omega
 have hn8 : nr ≤ 8 := by omega
 obtain ⟨w1, hw1⟩ : ∃ w1, w1 = w.alloc (.cells #[.int .i64 a0, .int .i64 a1, .int .i64 a2, .int .i64 a3, .bool a4, .int .i64 a5, .slice Rr nr cr] 25) := ⟨_, rfl⟩
 obtain ⟨b1, hb1⟩ : ∃ b1, b1 = w.heap.size := ⟨_, rfl⟩
 have HK1 : Hid (Blk w1 b1 25 #[.int .i64 a0, .int .i64 a1, .int .i64 a2, .int .i64 a3, .bool a4, .int .i64 a5, .slice Rr nr cr]) := Lib.hid (by rw [hw1, hb1]; exact Blk.new _ _ _)
 have HB1 : Hid (Below w.heap.size w w1) := Lib.hid (hw1 ▸ (Below.refl _ _).alloc (Nat.le_refl _) _)
 obtain ⟨rs, hrs⟩ : ∃ rs : ByteArray, rs = ⟨(rowT wConfig (cfgNums ⟨a0, a1, a2, a3, a4, a5⟩)).toArray⟩ := ⟨_, rfl⟩
 have HROW : Hid (Calls Tryz.prog 31 #[.string ⟨#[99, 111, 110, 102, 105, 103]⟩, .slice (some ⟨w1.heap.size, 0, none⟩) 5 5] (w1.alloc (.cells #[.int .i64 a0, .int .i64 a1, .int .i64 a2, .int .i64 a3, .int .i64 a5] 2)) fun e w' => e = .returned (.string rs) ∧ Below (w1.heap.size + 1) (w1.alloc (.cells #[.int .i64 a0, .int .i64 a1, .int .i64 a2, .int .i64 a3, .int .i64 a5] 2)) w') := Lib.hid (by
  have hBx : Below w.heap.size w (w1.alloc (.cells ((cfgNums ⟨a0, a1, a2, a3, a4, a5⟩).map fun x => Value.int .i64 x).toArray 2)) := HB1.out.alloc HB1.out.size _
  refine (row_any ⟨#[99, 111, 110, 102, 105, 103]⟩ (cfgNums ⟨a0, a1, a2, a3, a4, a5⟩) 5 5 (w1.heap.size + 1) _ _ (HE.out.below hBx HE.out.1) rfl (by decide) (by simp) h64 (reads_ints w1 _ _ 5 rfl)).mono ?_
  rintro e w' ⟨rfl, hb⟩
  refine ⟨by rw [hrs]; rfl, ?_⟩
  have : (w1.alloc (.cells ((cfgNums ⟨a0, a1, a2, a3, a4, a5⟩).map fun x => Value.int .i64 x).toArray 2)).heap.size = w1.heap.size + 1 := by simp
  rw [this] at hb
  exact hb)
 obtain ⟨ts, hts⟩ : ∃ ts : ByteArray, ts = ⟨(Go.Lib.trimSuffix rs.data.toList [10]).toArray⟩ := ⟨_, rfl⟩
 have hrl : rs.size ≤ 200 := by
  have := row_len wConfig (cfgNums ⟨a0, a1, a2, a3, a4, a5⟩) h64
  rw [hrs, size_list]
  simp only [cfgNums, wConfig, List.length_cons, List.length_nil] at this ⊢
  omega
 have HTRIM : Hid (∀ W, Calls Tryz.prog 61 #[.string rs, .string ⟨#[10]⟩] W fun e w' => e = .returned (.string ts) ∧ w' = W) := Lib.hid fun W => by
  rw [hts]
  exact Tryz.strings_TrimSuffix rs ⟨#[10]⟩ W (by omega)
 have htl : ts.size ≤ 200 := by
  have := Go.Lib.trimSuffix_le rs.data.toList [10]
  rw [hts, size_list]
  rw [size_list] at hrl
  simp only
  omega
 have HRS := Lib.hid hrs
 have HTS := Lib.hid hts
 have HK8 := Lib.hid k8
 clear k0 k0' k1 k1' k2 k2' k3 k3' k4 k4' k8 hl hR hE hrl hrs hts h64
 obtain ⟨t1, ht1, g1⟩ := sum_text ts ⟨#[32]⟩ (by have : (⟨#[32]⟩ : ByteArray).size = 1 := rfl; omega)
 have hz1 : t1.size = ts.size + 1 := by rw [size_list t1, ht1, List.length_append, ← size_list]; rfl
 obtain ⟨wd, hwd⟩ : ∃ wd : ByteArray, wd = if a4 then ⟨#[109, 117, 108, 116, 105]⟩ else ⟨#[115, 105, 110, 103, 108, 101]⟩ := ⟨_, rfl⟩
 have hwz : wd.size ≤ 6 := by rw [hwd]; cases a4 <;> decide
 obtain ⟨t2, ht2, g2⟩ := sum_text t1 wd (by omega)
 have hz2 : t2.size = t1.size + wd.size := by rw [size_list t2, ht2, List.length_append, ← size_list, ← size_list]
 obtain ⟨t3, ht3, g3⟩ := sum_text t2 ⟨#[10]⟩ (by have : (⟨#[10]⟩ : ByteArray).size = 1 := rfl; omega)
 have hz3 : t3.size ≤ 300 := by rw [size_list t3, ht3, List.length_append, ← size_list]; show t2.size + 1 ≤ 300; omega
 have HT3 : Hid (t3.data.toList = configT ⟨a0, a1, a2, a3, a4, a5⟩) := Lib.hid (head_eq ⟨a0, a1, a2, a3, a4, a5⟩ rs ts t1 t2 t3 wd.data.toList (by rw [hwd]; cases a4 <;> rfl) HRS.out HTS.out ht1 ht2 ht3)
 have HZ3 := Lib.hid hz3
 have HS1 := Lib.hid HK1.out.lt
 clear hz1 hz2 hz3 ht1 ht2 ht3 hwz htl
 go_enter Tryz.func29, Tryz.ntmps29
 go_upto_region 1 with fail
 rw [← hw1, ← hb1]
 clear hw1 hb1
 have p0 := (HK1.out.cell 0).trans (show _ = some (Value.int .i64 a0) from rfl)
 have p1 := (HK1.out.cell 1).trans (show _ = some (Value.int .i64 a1) from rfl)
 have p2 := (HK1.out.cell 2).trans (show _ = some (Value.int .i64 a2) from rfl)
 have p3 := (HK1.out.cell 3).trans (show _ = some (Value.int .i64 a3) from rfl)
 have p4 := (HK1.out.cell 4).trans (show _ = some (Value.bool a4) from rfl)
 have p5 := (HK1.out.cell 5).trans (show _ = some (Value.int .i64 a5) from rfl)
 have pl := HS1.out
 go_upto_region 2 with fail
 go_upto_if 8 with fail
 go_cut [3] from 8 to 8 (fun v wc => v = .string wd ∧ wc = w1)
 case first =>
  cases a4
  ·rw [if_neg (by decide)] at hwd
   subst hwd
   go_wp2_with fail
   all_goals go_meet
   all_goals exact ⟨rfl, rfl⟩
  ·rw [if_pos rfl] at hwd
   subst hwd
   go_wp2_with fail
   all_goals go_meet
   all_goals exact ⟨rfl, rfl⟩
 obtain ⟨rfl, hwc⟩ := hcut
 obtain rfl := hwc.symm
 clear hwd
 go_upto_region 5 with (first | (go_at_call 31; refine (HROW.out).mono ?_; rintro e w3 ⟨rfl, hb3⟩; have HX3 := Lib.hid hb3; clear hb3) | (go_at_call 61; refine (HTRIM.out _).mono ?_; rintro e w4 ⟨rfl, hw4⟩; obtain rfl := hw4.symm))
 have HB3 : Hid (Below w.heap.size w w3) := Lib.hid ((HB1.out.alloc HB1.out.size _).trans (HX3.out.mono (Nat.le_succ_of_le HB1.out.size)))
 have HK3 : Hid (Blk w3 b1 25 #[.int .i64 a0, .int .i64 a1, .int .i64 a2, .int .i64 a3, .bool a4, .int .i64 a5, .slice Rr nr cr]) := Lib.hid ((HK1.out.alloc _).below HX3.out (Nat.lt_succ_of_lt HS1.out))
 clear p0 p1 p2 p3 p4 p5 pl g1 g2 g3
 have p6 := (HK3.out.cell 6).trans (show _ = some (Value.slice Rr nr cr) from rfl)
 have pl := HK3.out.lt
 go_upto_region 6 with fail
 clear p6 pl HX3 HROW HTRIM
 go_loopg [29, 4] nr (fun gk iv sv W => ∃ (i : Nat) (t : ByteArray), iv = .int .i64 i ∧ i ≤ nr ∧ gk + i = nr ∧ sv = .string t ∧ Hid (t.data.toList = configT ⟨a0, a1, a2, a3, a4, a5⟩ ++ (regs.take i).flatMap regionT) ∧ Hid (t.size ≤ 300 + 50 * i) ∧ Hid (Below w.heap.size w W))
 case atStart => exact ⟨0, t3, rfl, Nat.zero_le _, rfl, rfl, Lib.hid (by rw [HT3.out]; simp), Lib.hid HZ3.out, HB3⟩
 case round =>
  obtain ⟨i, t, rfl, hi, hgk, rfl, HT, HTZ, HB⟩ := hrel
  have HG := Lib.hid hgk
  clear hgk
  by_cases hil : i < nr
  ·have e1 : decide ((i : Int) < (nr : Int)) = true := decide_eq_true (by omega)
   have e2 : decide (i < nr) = true := decide_eq_true hil
   have e3 : (i : Int) < (nr : Int) := by omega
   have zw : IntKind.i64.wrap ((i : Int) + 1) = (i : Int) + 1 := by rw [IntKind.wrap_i64]; omega
   obtain ⟨x, hx⟩ : ∃ x, regs[i]? = some x := ⟨_, List.getElem?_eq_getElem (by rw [HL.out]; exact hil)⟩
   have hxo := HOK.out.2.2.2.2.2.2.2.2.2.2.2 x (List.mem_of_getElem? hx)
   obtain ⟨b, off, rfl, hb, hc⟩ := reg_cells' HR.out HL.out (by omega)
   obtain ⟨kd, cap⟩ := x
   have c1 := (HB.out.cell (p := ⟨b, off + i * 2, none⟩) hb).trans (hc i _ hx).1
   have c2 := (HB.out.cell (p := ⟨b, off + i * 2 + 1, none⟩) hb).trans (hc i _ hx).2
   have hbr : b < wr.heap.size := Nat.lt_of_lt_of_le hb HB.out.size
   have HX := Lib.hid hx
   obtain ⟨o1, o2, o3, o4⟩ := hxo
   simp only at o1 o2 o3 o4 c1 c2
   have HCP := Lib.hid (And.intro o3 o4)
   obtain ⟨w5, hw5⟩ : ∃ w5, w5 = wr.alloc (.cells #[.int .i64 kd, .int .i64 cap] 67) := ⟨_, rfl⟩
   obtain ⟨b5, hb5⟩ : ∃ b5, b5 = wr.heap.size := ⟨_, rfl⟩
   have HK5 : Hid (Blk w5 b5 67 #[.int .i64 kd, .int .i64 cap]) := Lib.hid (by rw [hw5, hb5]; exact Blk.new _ _ _)
   have HB5 : Hid (Below w.heap.size w w5) := Lib.hid (hw5 ▸ HB.out.alloc HB.out.size _)
   clear hc hx hb o3 o4
   go_upto_region 8 with fail
   rw [← hw5, ← hb5]
   clear hw5 hb5 c1 c2 hbr
   have hkd : kd = 1 ∨ kd = 2 ∨ kd = 3 ∨ kd = 4 := by omega
   clear o1 o2
   obtain ⟨k, kn, hkk, hk1, hk5, hkv, hkl, hkz⟩ : ∃ (k : Nat) (kn : ByteArray), kd = (k : Int) ∧ 1 ≤ k ∧ k < 5 ∧ kindV[k]? = some (.string kn) ∧ kn.data.toList = kindsL.getD (k - 1) [] ∧ kn.size ≤ 7 := by
    rcases hkd with rfl | rfl | rfl | rfl
    ·exact ⟨1, ⟨#[99, 111, 117, 110, 116, 101, 114]⟩, rfl, by decide, by decide, rfl, rfl, by decide⟩
    ·exact ⟨2, ⟨#[113, 117, 101, 117, 101]⟩, rfl, by decide, by decide, rfl, rfl, by decide⟩
    ·exact ⟨3, ⟨#[100, 105, 99, 116]⟩, rfl, by decide, by decide, rfl, rfl, by decide⟩
    ·exact ⟨4, ⟨#[99, 104, 97, 105, 110]⟩, rfl, by decide, by decide, rfl, rfl, by decide⟩
   subst hkk
   clear hkd
   have h7 : (⟨#[114, 101, 103, 105, 111, 110, 32]⟩ : ByteArray).size = 7 := rfl
   obtain ⟨pre, hpre, gp⟩ := sum_text ⟨#[114, 101, 103, 105, 111, 110, 32]⟩ kn (by omega)
   have hpz : pre.data.toList.length ≤ 14 := by rw [hpre, List.length_append, ← size_list, ← size_list]; omega
   have i1 : ((k : Nat) : Int) < 5 := by omega
   have i2 : decide (((k : Nat) : Int) < 5) = true := decide_eq_true i1
   have i3 : decide (k < 5) = true := decide_eq_true hk5
   have HKV := Lib.hid hkv
   have h64 : ∀ v ∈ [cap], i64ok v := by
    intro v hv
    have : v = cap := by simpa using hv
    have h := HCP.out
    unfold i64ok
    omega
   obtain ⟨rr, hrr⟩ : ∃ rr : ByteArray, rr = ⟨(rowT pre.data.toList [cap]).toArray⟩ := ⟨_, rfl⟩
   have hrz : rr.size ≤ 50 := by
    have := row_len pre.data.toList [cap] h64
    rw [hrr, size_list]
    simp only [List.length_cons, List.length_nil] at this ⊢
    omega
   have HRW : Hid (∀ (W : World) (A : Option Addr), Below w.heap.size w W → Reads W W.heap.size 1 A 1 (rows i64C [cap]) → Calls Tryz.prog 31 #[.string pre, .slice A 1 1] W fun e w' => e = .returned (.string rr) ∧ Below W.heap.size W w') := Lib.hid fun W A hW hA => by
    have hps : pre.size ≤ 14 := by rw [size_list]; exact hpz
    refine (row_any pre [cap] 1 1 W.heap.size A W (HE.out.below hW HE.out.1) rfl (by omega) (Nat.le_refl _) h64 hA).mono ?_
    rintro e w' ⟨rfl, hb⟩
    exact ⟨by rw [hrr], hb⟩
   have htz := HTZ.out
   obtain ⟨z, hz, gz⟩ := sum_text t rr (by omega)
   have HZ : Hid (z.data.toList = configT ⟨a0, a1, a2, a3, a4, a5⟩ ++ (regs.take (i + 1)).flatMap regionT) := Lib.hid (regs_step regs i _ HX.out _ t rr z HT.out (by rw [hrr, hpre, hkl]; unfold regionT; simp only [Int.toNat_natCast]; rfl) hz)
   have HZZ : Hid (z.size ≤ 300 + 50 * (i + 1)) := Lib.hid (by rw [size_list z, hz, List.length_append, ← size_list, ← size_list]; omega)
   clear hrr hz hpre hpz hrz htz h64 hkl hkz h7 hkv
   have HSZ5 : Hid ((w5.alloc (.cells #[.int .i64 cap] 2)).heap.size = w5.heap.size + 1) := Lib.hid (by simp)
   have k0 := (HK5.out.cell 0).trans (show _ = some (Value.int .i64 (k : Int)) from rfl)
   have k1 := (HK5.out.cell 1).trans (show _ = some (Value.int .i64 cap) from rfl)
   have kl := HK5.out.lt
   go_region_with (first
    | (go_at_call 62; refine (kinds_any _).mono ?_; rintro e w6 ⟨rfl, hw6⟩; have KF := Lib.hid (kinds_fact hw6 k); have KL := Lib.hid (kinds_lt hw6); have HB6 := Lib.hid (kinds_on hw6 (by first | exact HB5.out.drew | exact HB5.out | exact HB5.out.drew.alloc HB5.out.size _ | exact (HB5.out.alloc HB5.out.size _).drew | exact HB5.out.alloc HB5.out.size _)); have HK6 := Lib.hid (kinds_blk hw6 (by first | exact HK5.out | exact HK5.out.alloc _)); have m0 := (HK6.out.cell 0).trans (show _ = some (Value.int .i64 (k : Int)) from rfl); have m1 := (HK6.out.cell 1).trans (show _ = some (Value.int .i64 cap) from rfl); have ml := HK6.out.lt; have HW6 := Lib.hid hw6; clear hw6; first | (have kf : w6.cell? ⟨w5.heap.size, k, none⟩ = some (Value.string kn) := KF.out.trans HKV.out; have kfl : w5.heap.size < w6.heap.size := KL.out) | (have kf : w6.cell? ⟨w5.heap.size + 1, k, none⟩ = some (Value.string kn) := (by rw [← HSZ5.out]; exact KF.out.trans HKV.out); have kfl : w5.heap.size + 1 < w6.heap.size := (by rw [← HSZ5.out]; exact KL.out)))
    | (go_at_call 31; refine (HRW.out _ _ (by first | exact HB6.out.alloc HB6.out.size _ | exact HB6.out | exact (HB6.out.alloc HB6.out.size _).drew) (by first | exact (reads_ints w6 _ [cap] 1 rfl).more (by simp) | (rw [HW6.out]; exact ((reads_ints w5 _ [cap] 1 rfl).alloc (by simp) _).more (by simp)))).mono ?_; rintro e w7 ⟨rfl, hb7⟩))
   all_goals (
    go_wp2_with fail
    go_roundg (nr - (i + 1))
    case measure => have := HG.out; omega
    case rel => exact ⟨i + 1, z, by simp, by omega, by omega, rfl, HZ, HZZ, Lib.hid (by first | exact (HB6.out.alloc HB6.out.size _).trans (hb7.mono (HB6.out.alloc HB6.out.size _).size) | exact HB6.out.trans (hb7.mono HB6.out.size))⟩)
  ·have e1 : decide ((i : Int) < (nr : Int)) = false := decide_eq_false (by omega)
   have e2 : decide (i < nr) = false := decide_eq_false hil
   have HF : Hid (t = ⟨(configT ⟨a0, a1, a2, a3, a4, a5⟩ ++ regs.flatMap regionT).toArray⟩) := Lib.hid (by
    have h := HT.out
    rw [show regs.take i = regs from List.take_of_length_le (by rw [HL.out]; omega)] at h
    cases t with
    | mk d => rw [← h])
   go_wp2
   go_ret
   exact ⟨by rw [HF.out]; rfl, HB.out⟩
def ItemsTo (L : List Nat) (i : Nat) (s : List UInt8) : Prop := s = wRun ++ (runsF (L.take i)).flatMap itemT ∧ ∀ a, L[i]? = some a → (L.take i).getLast? ≠ some a
theorem items_zero (L : List Nat) : ItemsTo L 0 wRun := ⟨by simp [runsF], fun a _ => by simp⟩
theorem take_rep (L : List Nat) (i a : Nat) : ∀ m, (∀ j, i ≤ j → j < i + m → L[j]? = some a) → L.take (i + m) = L.take i ++ List.replicate m a
 | 0, _ => by simp
 | m + 1, h => by
  have h1 := take_rep L i a m fun j h1 h2 => h j h1 (by omega)
  rw [← Nat.add_assoc, List.take_add_one, h (i + m) (by omega) (by omega), h1, List.append_assoc]
  show _ ++ (List.replicate m a ++ [a]) = _
  rw [← List.replicate_succ']
theorem items_step (L : List Nat) (i m a : Nat) (s r : List UInt8) (h : ItemsTo L i s) (hr : ∀ j, i ≤ j → j < i + (m + 1) → L[j]? = some a) (he : L[i + (m + 1)]? ≠ some a) (hs : r = s ++ itemT (a, m + 1)) : ItemsTo L (i + (m + 1)) r := by
 have ht := take_rep L i a (m + 1) hr
 have hn := h.2 a (hr i (Nat.le_refl _) (by omega))
 refine ⟨by rw [hs, h.1, ht, stepsT_run _ _ _ hn], fun b hb => ?_⟩
 rw [ht]
 intro hl
 rw [List.replicate_succ', ← List.append_assoc, List.getLast?_append] at hl
 have : a = b := by simpa using hl
 exact he (this ▸ hb)
theorem items_end (L : List Nat) (n : Nat) (s r : List UInt8) (hn : L.length = n) (h : ItemsTo L n s) (hr : r = s ++ [10]) : r = stepsT L := by
 have h1 := h.1
 rw [← hn, List.take_length] at h1
 rw [hr, h1]
 rfl
end Go.Proofs.YtiheggkkgbfndaaGreatDoor
