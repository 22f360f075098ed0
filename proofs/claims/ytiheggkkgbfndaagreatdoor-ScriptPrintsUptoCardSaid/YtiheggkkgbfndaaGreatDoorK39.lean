/- carouselref22.Refuses: walked. -/
import Derived.Test.YtiheggkkgbfndaaGreatDoorK38
import Derived.Test.YtiheggkkgbfndaaGreatDoorK32
namespace Go.Proofs.YtiheggkkgbfndaaGreatDoor
open Go.RowKit Go.Joins Go.ChangeShapes Go.WideShapes Go.Deep
set_option linter.unusedVariables false
set_option linter.unusedSimpArgs false
set_option maxRecDepth 100000
def refOk (s : RSet) : Prop := mayR s ∧ ∀ p ∈ s.progs, p.length ≤ 512
def RefPost (s : RSet) (w : World) (e : Ending) (w' : World) : Prop := ((refOk s ∧ e = .returned (.int .i64 0)) ∨ (¬ refOk s ∧ ∃ n : Int, n ≠ 0 ∧ e = .returned (.int .i64 n))) ∧ Below w.heap.size w w'
set_option maxHeartbeats 4000000 in
theorem rrefuses_any (s : RSet) (C : Nat) (rv pv tv : Value) (w : World) (hC : C ≤ w.heap.size) (hL : RSetRd w C s rv pv tv) :
  Calls Tryz.prog 15 #[.agg (setupC s.cfg rv pv tv)] w (RefPost s w) := by
 obtain ⟨Rt, ct, rfl, hTC⟩ := thr_all hC hL
 obtain ⟨⟨Rr, cr, rfl, hr9, hrR⟩, ⟨Rp, cp, rfl, hp9, hpR⟩, ht9⟩ := hL.more hC
 replace ht9 : s.thr.length ≤ 9223372036854775807 := by obtain ⟨_, _, _, _, h, _⟩ := ht9; exact h
 have HPC : Hid (∀ i, i < s.progs.length → ∃ (b off : Nat) (p : List UInt8), Rp = some ⟨b, off, none⟩ ∧ b < w.heap.size ∧ s.progs[i]? = some p ∧ ∀ W, Below w.heap.size w W → W.cell? ⟨b, off + i, none⟩ = some (.string ⟨p.toArray⟩)) := Lib.hid fun i hi => by
  obtain ⟨b, off, g1, g2, g3⟩ := list_cells (α := List UInt8) (enc := stC) (l := s.progs) (f := fun x => .string ⟨x.toArray⟩) hpR (fun _ => rfl) rfl (by omega)
  obtain ⟨p, hp⟩ : ∃ x, s.progs[i]? = some x := ⟨_, List.getElem?_eq_getElem (by omega)⟩
  exact ⟨b, off, p, g1, g2, hp, fun W hW => (hW.cell g2).trans (g3 i p hp)⟩
 obtain ⟨nr, hnr⟩ : ∃ nr, nr = s.regs.length := ⟨_, rfl⟩
 obtain ⟨np, hnp⟩ : ∃ np, np = s.progs.length := ⟨_, rfl⟩
 obtain ⟨nt, hnt⟩ : ∃ nt, nt = s.thr.length := ⟨_, rfl⟩
 rw [← hnr] at hr9 hrR ⊢
 rw [← hnp] at hp9 HPC ⊢
 rw [← hnt] at ht9 hTC ⊢
 clear hpR
 obtain ⟨⟨a0, a1, a2, a3, a4, a5⟩, hcf⟩ : ∃ c, c = s.cfg := ⟨_, rfl⟩
 rw [← hcf]
 simp only [setupC]
 obtain ⟨w1, hw1⟩ : ∃ w1, w1 = w.alloc (.cells #[.int .i64 a0, .int .i64 a1, .int .i64 a2, .int .i64 a3, .bool a4, .int .i64 a5, .slice Rr nr cr, .slice Rp np cp, .slice Rt nt ct] 29) := ⟨_, rfl⟩
 obtain ⟨b1, hb1⟩ : ∃ b1, b1 = w.heap.size := ⟨_, rfl⟩
 have HK1 : Hid (Blk w1 b1 29 #[.int .i64 a0, .int .i64 a1, .int .i64 a2, .int .i64 a3, .bool a4, .int .i64 a5, .slice Rr nr cr, .slice Rp np cp, .slice Rt nt ct]) := Lib.hid (by rw [hw1, hb1]; exact Blk.new _ _ _)
 have HB1 : Hid (Below w.heap.size w w1) := Lib.hid (hw1 ▸ (Below.refl _ _).alloc (Nat.le_refl _) _)
 have HS1 : Hid (b1 < w1.heap.size) := Lib.hid HK1.out.lt
 have HCHK := Lib.hid (rcheck_any ⟨a0, a1, a2, a3, a4, a5⟩ s.regs Rr nr cr w1 w.heap.size hnr.symm hr9 HB1.out.size (hrR.below HB1.out))
 have HCF := Lib.hid hcf
 have HNR := Lib.hid hnr
 have HNP := Lib.hid hnp
 have HNT := Lib.hid hnt
 have HTC := Lib.hid hTC
 clear hrR hC hL hcf hnr hnp hnt hTC hr9
 go_enter Tryz.func15, Tryz.ntmps15
 go_upto_region 1 with fail
 rw [← hw1, ← hb1]
 clear hw1 hb1
 have p0 := (HK1.out.cell 0).trans (show _ = some (Value.int .i64 a0) from rfl)
 have p1 := (HK1.out.cell 1).trans (show _ = some (Value.int .i64 a1) from rfl)
 have p2 := (HK1.out.cell 2).trans (show _ = some (Value.int .i64 a2) from rfl)
 have p3 := (HK1.out.cell 3).trans (show _ = some (Value.int .i64 a3) from rfl)
 have p4 := (HK1.out.cell 4).trans (show _ = some (Value.bool a4) from rfl)
 have p5 := (HK1.out.cell 5).trans (show _ = some (Value.int .i64 a5) from rfl)
 have p6 := (HK1.out.cell 6).trans (show _ = some (Value.slice Rr nr cr) from rfl)
 have pl := HS1.out
 by_cases hcfg : cfgOk ⟨a0, a1, a2, a3, a4, a5⟩ s.regs
 ·rw [checkF_yes hcfg] at HCHK
  have HCO := Lib.hid hcfg
  clear hcfg
  by_cases h1 : 8 < nt
  ·have d1 : decide ((8 : Int) < (nt : Int)) = true := decide_eq_true (by omega)
   have d1' : decide (8 < nt) = true := decide_eq_true h1
   have HNO : Hid (¬ refOk s) := Lib.hid (fun h => by have := h.1.2.1; rw [← HNT.out] at this; omega)
   go_wp2_with (go_at_call 23; refine (HCHK.out).mono ?_; rintro e w2 ⟨rfl, hb2⟩; have HB2 := Lib.hid hb2; have HK2 := Lib.hid (HK1.out.below hb2 HS1.out); have p7 := (HK2.out.cell 7).trans (show _ = some (Value.slice Rp np cp) from rfl); have p8 := (HK2.out.cell 8).trans (show _ = some (Value.slice Rt nt ct) from rfl); have pl2 := HK2.out.lt; clear hb2)
   go_ret
   exact ⟨.inr ⟨HNO.out, 1, by decide, rfl⟩, HB1.out.trans (HB2.out.mono HB1.out.size)⟩
  ·have d1 : decide ((8 : Int) < (nt : Int)) = false := decide_eq_false (by omega)
   have d1' : decide (8 < nt) = false := decide_eq_false h1
   by_cases h2 : 16 < np
   ·have d2 : decide ((16 : Int) < (np : Int)) = true := decide_eq_true (by omega)
    have d2' : decide (16 < np) = true := decide_eq_true h2
    have HNO : Hid (¬ refOk s) := Lib.hid (fun h => by have := h.1.2.2.1; rw [← HNP.out] at this; omega)
    go_wp2_with (go_at_call 23; refine (HCHK.out).mono ?_; rintro e w2 ⟨rfl, hb2⟩; have HB2 := Lib.hid hb2; have HK2 := Lib.hid (HK1.out.below hb2 HS1.out); have p7 := (HK2.out.cell 7).trans (show _ = some (Value.slice Rp np cp) from rfl); have p8 := (HK2.out.cell 8).trans (show _ = some (Value.slice Rt nt ct) from rfl); have pl2 := HK2.out.lt; clear hb2)
    go_ret
    exact ⟨.inr ⟨HNO.out, 1, by decide, rfl⟩, HB1.out.trans (HB2.out.mono HB1.out.size)⟩
   ·have d2 : decide ((16 : Int) < (np : Int)) = false := decide_eq_false (by omega)
    have d2' : decide (16 < np) = false := decide_eq_false h2
    go_upto_region 4 with (go_at_call 23; refine (HCHK.out).mono ?_; rintro e w2 ⟨rfl, hb2⟩; have HB2 := Lib.hid hb2; have HK2 := Lib.hid (HK1.out.below hb2 HS1.out); have p7 := (HK2.out.cell 7).trans (show _ = some (Value.slice Rp np cp) from rfl); have p8 := (HK2.out.cell 8).trans (show _ = some (Value.slice Rt nt ct) from rfl); have pl2 := HK2.out.lt; clear hb2)
    have HB : Hid (Below w.heap.size w w2) := Lib.hid (HB1.out.trans (HB2.out.mono HB1.out.size))
    have HS2 : Hid (b1 < w2.heap.size) := Lib.hid pl2
    have HN1 := Lib.hid h1
    have HN2 := Lib.hid h2
    clear p0 p1 p2 p3 p4 p5 p6 pl HB2 HB1 HK1 HS1 HCHK
    go_upto_region 6 with fail
    go_upto_region 7 with fail
    clear d1 d1' d2 d2' p7 p8 pl2 h1 h2
    have HBR := Lib.hid (Below.refl w2.heap.size w2)
    go_loopg [4] np (fun gk iv W => ∃ i : Nat, iv = .int .i64 i ∧ i ≤ np ∧ gk + i = np ∧ Hid (∀ p ∈ s.progs.take i, p.length ≤ 512) ∧ Hid (Below w2.heap.size w2 W))
    case atStart => exact ⟨0, rfl, Nat.zero_le _, rfl, Lib.hid (by intro x hx; simp at hx), HBR⟩
    case round =>
     obtain ⟨i, rfl, hi, hgk, HALL, HBW⟩ := hrel
     have HG := Lib.hid hgk
     clear hgk
     have HBX : Hid (Below w.heap.size w wr) := Lib.hid (HB.out.trans (HBW.out.mono HB.out.size))
     have HKW := Lib.hid (HK2.out.below HBW.out HS2.out)
     have p7 := (HKW.out.cell 7).trans (show _ = some (Value.slice Rp np cp) from rfl)
     have p8 := (HKW.out.cell 8).trans (show _ = some (Value.slice Rt nt ct) from rfl)
     have pl := HKW.out.lt
     by_cases hil : i < np
     ·have e1 : decide ((i : Int) < (np : Int)) = true := decide_eq_true (by omega)
      have e2 : decide (i < np) = true := decide_eq_true hil
      have e3 : (i : Int) < (np : Int) := by omega
      have zw : IntKind.i64.wrap ((i : Int) + 1) = (i : Int) + 1 := by rw [IntKind.wrap_i64]; omega
      obtain ⟨b, off, p, rfl, hb, hp, hc⟩ := HPC.out i hil
      have c1 := hc wr HBX.out
      have hbr : b < wr.heap.size := Nat.lt_of_lt_of_le hb HBX.out.size
      have HX := Lib.hid hp
      clear hc hp hb
      by_cases h5 : 512 < p.length
      ·have f1 : decide ((512 : Int) < (p.length : Int)) = true := decide_eq_true (by omega)
       have f2 : decide (512 < p.length) = true := decide_eq_true h5
       have HNO : Hid (¬ refOk s) := Lib.hid (fun h => by have := h.2 _ (List.mem_of_getElem? HX.out); omega)
       go_wp2
       go_ret
       exact ⟨.inr ⟨HNO.out, 1, by decide, rfl⟩, HBX.out⟩
      ·have f1 : decide ((512 : Int) < (p.length : Int)) = false := decide_eq_false (by omega)
       have f2 : decide (512 < p.length) = false := decide_eq_false h5
       have HA2 := Lib.hid (take_all HALL.out HX.out (Nat.le_of_not_lt h5))
       go_wp2
       go_roundg (np - (i + 1))
       case measure => have := HG.out; omega
       case rel => exact ⟨i + 1, by simp, by omega, by omega, HA2, HBW⟩
     ·have e1 : decide ((i : Int) < (np : Int)) = false := decide_eq_false (by omega)
      have e2 : decide (i < np) = false := decide_eq_false hil
      have HPL : Hid (∀ p ∈ s.progs, p.length ≤ 512) := Lib.hid (by
       have h := HALL.out
       rw [take_len (by rw [← HNP.out]; omega)] at h
       exact h)
      go_upto_region 11 with fail
      go_upto_region 12 with fail
      clear e1 e2 p7 p8 pl hil hi HG HALL
      have HBS := HBW
      clear HBX HKW
      go_loopg [5] nt (fun gk iv W => ∃ i : Nat, iv = .int .i64 i ∧ i ≤ nt ∧ gk + i = nt ∧ Hid (∀ t ∈ s.thr.take i, thrR np t) ∧ Hid (Below w2.heap.size w2 W))
      case atStart => exact ⟨0, rfl, Nat.zero_le _, rfl, Lib.hid (by intro x hx; simp at hx), HBS⟩
      case round =>
       clear HBS HBW
       obtain ⟨i, rfl, hi, hgk, HALL, HBW⟩ := hrel
       have HG := Lib.hid hgk
       clear hgk
       have HBX : Hid (Below w.heap.size w wr) := Lib.hid (HB.out.trans (HBW.out.mono HB.out.size))
       have HKW := Lib.hid (HK2.out.below HBW.out HS2.out)
       have p8 := (HKW.out.cell 8).trans (show _ = some (Value.slice Rt nt ct) from rfl)
       have pl := HKW.out.lt
       by_cases hil : i < nt
       ·have e1 : decide ((i : Int) < (nt : Int)) = true := decide_eq_true (by omega)
        have e2 : decide (i < nt) = true := decide_eq_true hil
        have e3 : (i : Int) < (nt : Int) := by omega
        have zw : IntKind.i64.wrap ((i : Int) + 1) = (i : Int) + 1 := by rw [IntKind.wrap_i64]; omega
        obtain ⟨b, off, t, Q, m, q, rfl, hb, ht, htl, hm9, hc, hj⟩ := HTC.out i hil
        have c1 := hc wr HBX.out
        have hbr : b < wr.heap.size := Nat.lt_of_lt_of_le hb HBX.out.size
        have HX := Lib.hid ht
        have HXL := Lib.hid htl
        have HJ := Lib.hid hj
        have HC := Lib.hid hc
        have HBL := Lib.hid hb
        clear hc hj ht htl hb
        by_cases h3 : 32 < m
        ·have d3 : decide ((32 : Int) < (m : Int)) = true := decide_eq_true (by omega)
         have d3' : decide (32 < m) = true := decide_eq_true h3
         have HNO : Hid (¬ refOk s) := Lib.hid (fun h => by have := (h.1.2.2.2 _ (List.mem_of_getElem? HX.out)).1; have := HXL.out; omega)
         go_wp2
         go_ret
         exact ⟨.inr ⟨HNO.out, 1, by decide, rfl⟩, HBX.out⟩
        ·have d3 : decide ((32 : Int) < (m : Int)) = false := decide_eq_false (by omega)
         have d3' : decide (32 < m) = false := decide_eq_false h3
         have H3 := Lib.hid h3
         go_upto_region 16 with fail
         go_upto_region 17 with fail
         clear d3 d3' h3 c1 hbr p8 pl
         have HBS := HBW
         go_loopg [6] m (fun gk iv W => ∃ j : Nat, iv = .int .i64 j ∧ j ≤ m ∧ gk + j = m ∧ Hid (∀ x ∈ t.take j, rawJob np x) ∧ Hid (Below w2.heap.size w2 W))
         case atStart => exact ⟨0, rfl, Nat.zero_le _, rfl, Lib.hid (by intro x hx; simp at hx), HBS⟩
         case round =>
          clear HBX HBW HBS HKW
          obtain ⟨j, rfl, hj, hgj, HTA, HBW⟩ := hrel
          have HGJ := Lib.hid hgj
          have HBX : Hid (Below w.heap.size w wr) := Lib.hid (HB.out.trans (HBW.out.mono HB.out.size))
          clear hgj
          have HKW := Lib.hid (HK2.out.below HBW.out HS2.out)
          have p7 := (HKW.out.cell 7).trans (show _ = some (Value.slice Rp np cp) from rfl)
          have p8 := (HKW.out.cell 8).trans (show _ = some (Value.slice (some ⟨b, off, none⟩) nt ct) from rfl)
          have pl := HKW.out.lt
          have c0 := HC.out wr HBX.out
          have hbr : b < wr.heap.size := Nat.lt_of_lt_of_le HBL.out HBX.out.size
          by_cases hjl : j < m
          ·have f1 : decide ((j : Int) < (m : Int)) = true := decide_eq_true (by omega)
           have f2 : decide (j < m) = true := decide_eq_true hjl
           have f3 : (j : Int) < (m : Int) := by omega
           have zj : IntKind.i64.wrap ((j : Int) + 1) = (j : Int) + 1 := by rw [IntKind.wrap_i64]; omega
           obtain ⟨d, o, ⟨pr, args⟩, A, ma, ca, rfl, hd, hx, hxl, hma9, _, hcd⟩ := HJ.out j hjl
           simp only at hxl hcd
           have c1 := (hcd wr HBX.out).1
           have c2 := (hcd wr HBX.out).2
           have hdr : d < wr.heap.size := Nat.lt_of_lt_of_le hd HBX.out.size
           have HXJ := Lib.hid hx
           have HXA := Lib.hid hxl
           obtain ⟨w5, hw5⟩ : ∃ w5, w5 = wr.alloc (.cells #[.int .i64 pr, .slice A ma ca] 53) := ⟨_, rfl⟩
           obtain ⟨b5, hb5⟩ : ∃ b5, b5 = wr.heap.size := ⟨_, rfl⟩
           have HK5 : Hid (Blk w5 b5 53 #[.int .i64 pr, .slice A ma ca]) := Lib.hid (by rw [hw5, hb5]; exact Blk.new _ _ _)
           have HB5 : Hid (Below w2.heap.size w2 w5) := Lib.hid (HBW.out.trans (hw5 ▸ (Below.refl _ _).alloc HBW.out.size _))
           have HB5X : Hid (Below w.heap.size w w5) := Lib.hid (HB.out.trans (HB5.out.mono HB.out.size))
           clear hcd hx hxl hd
           go_upto_region 20 with fail
           rw [← hw5, ← hb5]
           clear hw5 hb5 c1 c2 hdr p7 p8 pl c0 hbr
           have p0 := (HK5.out.cell 0).trans (show _ = some (Value.int .i64 pr) from rfl)
           have p1 := (HK5.out.cell 1).trans (show _ = some (Value.slice A ma ca) from rfl)
           have pl := HK5.out.lt
           have p7 := ((HK2.out.below HB5.out HS2.out).cell 7).trans (show _ = some (Value.slice Rp np cp) from rfl)
           have pl2 : b1 < w5.heap.size := Nat.lt_of_lt_of_le HS2.out HB5.out.size
           by_cases h4 : pr < 0
           ·have d4 : decide (pr < 0) = true := decide_eq_true h4
            have HNO : Hid (¬ refOk s) := Lib.hid (fun h => by have := ((h.1.2.2.2 _ (List.mem_of_getElem? HX.out)).2 _ (List.mem_of_getElem? HXJ.out)).1; simp only at this; omega)
            go_wp2
            go_ret
            exact ⟨.inr ⟨HNO.out, 1, by decide, rfl⟩, HB5X.out⟩
           ·have d4 : decide (pr < 0) = false := decide_eq_false h4
            by_cases h5 : (np : Int) ≤ pr
            ·have d5 : decide ((np : Int) ≤ pr) = true := decide_eq_true h5
             have HNO : Hid (¬ refOk s) := Lib.hid (fun h => by have := ((h.1.2.2.2 _ (List.mem_of_getElem? HX.out)).2 _ (List.mem_of_getElem? HXJ.out)).2.1; rw [← HNP.out] at this; simp only at this; omega)
             go_wp2
             go_ret
             exact ⟨.inr ⟨HNO.out, 1, by decide, rfl⟩, HB5X.out⟩
            ·have d5 : decide ((np : Int) ≤ pr) = false := decide_eq_false h5
             by_cases h6 : 4 < ma
             ·have d6 : decide ((4 : Int) < (ma : Int)) = true := decide_eq_true (by omega)
              have d6' : decide (4 < ma) = true := decide_eq_true h6
              have HNO : Hid (¬ refOk s) := Lib.hid (fun h => by have := ((h.1.2.2.2 _ (List.mem_of_getElem? HX.out)).2 _ (List.mem_of_getElem? HXJ.out)).2.2; have h7 := HXA.out; simp only at this; omega)
              go_wp2
              go_ret
              exact ⟨.inr ⟨HNO.out, 1, by decide, rfl⟩, HB5X.out⟩
             ·have d6 : decide ((4 : Int) < (ma : Int)) = false := decide_eq_false (by omega)
              have d6' : decide (4 < ma) = false := decide_eq_false h6
              have HTB : Hid (∀ x ∈ t.take (j + 1), rawJob np x) := Lib.hid (take_all HTA.out HXJ.out ⟨by simp only; omega, by simp only; omega, by have h7 := HXA.out; simp only; omega⟩)
              go_wp2
              go_roundg (m - (j + 1))
              case measure => have := HGJ.out; omega
              case rel => exact ⟨j + 1, by simp, by omega, by omega, HTB, HB5⟩
          ·have f1 : decide ((j : Int) < (m : Int)) = false := decide_eq_false (by omega)
           have f2 : decide (j < m) = false := decide_eq_false hjl
           have HAL' : Hid (∀ t ∈ s.thr.take (i + 1), thrR np t) := Lib.hid (take_all HALL.out HX.out ⟨by have := H3.out; have := HXL.out; omega, by
            have h := HTA.out
            rw [take_len (by rw [HXL.out]; omega)] at h
            exact h⟩)
           go_wp2
           go_roundg (nt - (i + 1))
           case measure => have := HG.out; omega
           case rel => exact ⟨i + 1, by simp, by omega, by omega, HAL', HBW⟩
       ·have e1 : decide ((i : Int) < (nt : Int)) = false := decide_eq_false (by omega)
        have e2 : decide (i < nt) = false := decide_eq_false hil
        have HYES : Hid (refOk s) := Lib.hid ⟨⟨by rw [← HCF.out]; exact HCO.out, by have := HN1.out; rw [← HNT.out]; omega, by have := HN2.out; rw [← HNP.out]; omega, by
         have h := HALL.out
         rw [take_len (by rw [← HNT.out]; omega), HNP.out] at h
         exact h⟩, HPL.out⟩
        go_wp2
        go_ret
        exact ⟨.inl ⟨HYES.out, rfl⟩, HBX.out⟩
 ·rw [checkF_no hcfg] at HCHK
  have HNO : Hid (¬ refOk s) := Lib.hid (fun h => hcfg (by have := h.1.1; rw [← HCF.out] at this; exact this))
  clear hcfg
  go_wp2_with (go_at_call 23; refine (HCHK.out).mono ?_; rintro e w2 ⟨rfl, hb2⟩; have HB2 := Lib.hid hb2; have HK2 := Lib.hid (HK1.out.below hb2 HS1.out); have p7 := (HK2.out.cell 7).trans (show _ = some (Value.slice Rp np cp) from rfl); have p8 := (HK2.out.cell 8).trans (show _ = some (Value.slice Rt nt ct) from rfl); have pl2 := HK2.out.lt; clear hb2)
  go_ret
  exact ⟨.inr ⟨HNO.out, 13, by decide, rfl⟩, HB1.out.trans (HB2.out.mono HB1.out.size)⟩
end Go.Proofs.YtiheggkkgbfndaaGreatDoor
namespace Go.Proofs.YtiheggkkgbfndaaGreatDoor
open Go.RowKit Go.Joins Go.ChangeShapes Go.WideShapes Go.ChangeAt Go.Deep
set_option linter.unusedVariables false
set_option linter.unusedSimpArgs false
set_option maxRecDepth 100000
theorem co_int : Tryz.prog.cellsOf 3 = 1 := by kernel_rfl
theorem co_i64 : Tryz.prog.cellsOf 2 = 1 := by kernel_rfl
theorem co_bool : Tryz.prog.cellsOf 4 = 1 := by kernel_rfl
theorem co_reg : Tryz.prog.cellsOf 67 = 2 := by kernel_rfl
theorem co_regs : Tryz.prog.cellsOf 23 = 1 := by kernel_rfl
theorem co_cfg : Tryz.prog.cellsOf 25 = 7 := by kernel_rfl

section
variable {H : Type} {enc : TypeId × Value → H} {w : World} {base : Nat} {spare : Nat → Bool} {held : Bool}
theorem field_some {fs : Array Field} {cs : List Value} {xs : List (DataW H × List MemPlace)} {n : Nat} (hl : xs.length = fs.size)
  (hf : ∀ (i : Nat) (f : Field), fs[i]? = some f → DataW.trod enc Tryz.prog w base spare held n f.type ((cs.drop f.offset).take (Tryz.prog.cellsOf f.type)) = xs[i]?)
  {i : Nat} {f : Field} (h : fs[i]? = some f) {t : TypeId} (o : Nat) {c : Nat} (ht : f.type = t) (ho : f.offset = o) (hc : Tryz.prog.cellsOf t = c) : ∃ y, xs[i]? = some y ∧ DataW.trod enc Tryz.prog w base spare held n t ((cs.drop o).take c) = some y := by
 have hi : i < xs.length := by rw [hl]; exact (Array.getElem?_eq_some_iff.1 h).1
 subst ht ho hc
 exact ⟨xs[i], List.getElem?_eq_getElem hi, (hf i f h).trans (List.getElem?_eq_getElem hi)⟩

theorem reg_cells {n : Nat} {cs : List Value} {y : DataW H × List MemPlace} (h : DataW.trod enc Tryz.prog w base spare held n 67 cs = some y) : ∃ r : Reg, cs = r.cells := by
 obtain ⟨xs, n', _, _, hlen, hxl, hf⟩ := DataW.trod_struct Tryz.underlying67 h
 rw [co_reg] at hlen
 match cs, hlen with
 | [c0, c1], _ =>
  obtain ⟨y0, _, h0⟩ := field_some hxl hf (i := 0) rfl 0 rfl rfl co_int
  obtain ⟨y1, _, h1⟩ := field_some hxl hf (i := 1) rfl 1 rfl rfl co_int
  simp only [List.drop_zero, List.drop_succ_cons, List.take_succ_cons, List.take_zero] at h0 h1
  obtain ⟨a, e0, _⟩ := DataW.trod_int Tryz.underlying3 h0
  obtain ⟨b, e1, _⟩ := DataW.trod_int Tryz.underlying3 h1
  simp at e0 e1
  exact ⟨⟨a, b⟩, by rw [e0, e1]; rfl⟩
end

theorem structs_open {α : Type} [Inhabited α] {H : Type} {enc : TypeId × Value → H} {W : World} {n k : Nat} {v : Value} {y : DataW H × List MemPlace} {t e : TypeId} (f : α → List Value) (Good : α → Prop) (hk : ∀ x, (f x).length = k) (hk0 : 0 < k) (ht : Tryz.prog.underlying t = some (.slice e)) (hC : Tryz.prog.cellsOf e = k)
  (hel : ∀ {n cs y}, DataW.trod enc Tryz.prog W 0 (fun _ => true) true n e cs = some y → ∃ z, cs = f z ∧ Good z) (h : DataW.trod enc Tryz.prog W 0 (fun _ => true) true n t [v] = some y) :
  ∃ A len cap l, v = .slice A len cap ∧ l.length = len ∧ len ≤ cap ∧ cap ≤ maxLen ∧ Reads W W.heap.size k A len (rows f l) ∧ (∀ z ∈ l, Good z) ∧ ((A = none ∧ len = 0 ∧ cap = 0) ∨ ∃ ds rest, ds.length = len ∧ y.1 = .slice ds rest) := by
 rcases open_slice ht h with ⟨hcs, _⟩ | ⟨a, len, cap, m, n', D, Pl, hcs, hb, hl, hm, hmm, hx, hi⟩
 ·simp at hcs
  subst hcs
  exact ⟨none, 0, 0, [], rfl, rfl, Nat.le_refl _, Nat.zero_le _, ⟨by simp [rows], fun h => absurd h (by omega)⟩, by simp, .inl ⟨rfl, rfl, rfl⟩⟩
 ·simp at hcs
  subst hcs
  rw [hC] at hi
  have hmc : m = cap := by simpa using hmm
  subst hmc
  have hz : ∀ i, i < len → ∃ z : α, Good z ∧ ∀ t u, t < k → (f z)[t]? = some u → W.cell? (a.add (i * k + t)) = some u := by
   intro i hil
   obtain ⟨cs', hc, ht⟩ := hi i (by omega)
   obtain ⟨z, rfl, hg⟩ := hel ht
   obtain ⟨_, hcl, hat⟩ := World.cells?_some hc
   refine ⟨z, hg, fun t u ht hu => ?_⟩
   have := hat t ht
   rw [add_of_add] at this
   rw [this, hu]
  obtain ⟨F, hF⟩ : ∃ F : Nat → α, ∀ i, i < len → Good (F i) ∧ ∀ t u, t < k → (f (F i))[t]? = some u → W.cell? (a.add (i * k + t)) = some u :=
   ⟨fun i => if h : i < len then (hz i h).choose else default, fun i hil => by simp only [dif_pos hil]; exact (hz i hil).choose_spec⟩
  have hlen : ((List.range len).map F).length = len := by simp
  have hcell : ∀ j u, (rows f ((List.range len).map F))[j]? = some u → W.cell? (a.add j) = some u := by
   intro j u hu
   have hj : j < (rows f ((List.range len).map F)).length := by
    rcases Nat.lt_or_ge j (rows f ((List.range len).map F)).length with h | h
    ·exact h
    ·rw [List.getElem?_eq_none h] at hu; cases hu
   rw [rows_length f k hk, hlen] at hj
   have h8 : j / k < len := Nat.div_lt_of_lt_mul (by rw [Nat.mul_comm]; exact hj)
   have ht : j % k < k := Nat.mod_lt _ hk0
   have e : j = j / k * k + j % k := by rw [Nat.mul_comm]; exact (Nat.div_add_mod j k).symm
   rw [e, rows_at f k hk _ (j / k) (j % k) (by rw [hlen]; exact h8) ht] at hu
   rw [e]
   refine (hF (j / k) h8).2 (j % k) u ht ?_
   rw [← hu]
   simp
  refine ⟨some a, len, m, (List.range len).map F, rfl, hlen, hl, hm, ⟨by rw [rows_length f k hk, hlen], fun hn => ⟨a, rfl, ?_, hcell⟩⟩, ?_, .inr ⟨_, _, ?_, by rw [hx]⟩⟩
  ·have h0 := hcell 0 _ (List.getElem?_eq_getElem (by rw [rows_length f k hk, hlen]; exact Nat.mul_pos hn hk0))
   have := World.block_lt_of_cell? W _ h0
   rwa [block_of_add] at this
  ·intro z hz'
   simp only [List.mem_map, List.mem_range] at hz'
   obtain ⟨i, hil, rfl⟩ := hz'
   exact (hF i hil).1
  ·simp

instance : Inhabited Reg := ⟨⟨0, 0⟩⟩
theorem cfg_cells {H : Type} {enc : TypeId × Value → H} {W : World} {n : Nat} {cs : List Value} {y : DataW H × List MemPlace} (h : DataW.trod enc Tryz.prog W 0 (fun _ => true) true n 25 cs = some y) :
  ∃ (c : Cfg) (A : Option Addr) (len cap : Nat) (regs : List Reg), cs = [.int .i64 c.raw, .int .i64 c.ring, .int .i64 c.writes, .int .i64 c.stamps, .bool c.multi, .int .i64 c.tries, .slice A len cap] ∧ regs.length = len ∧ len ≤ cap ∧ cap ≤ maxLen ∧ Reads W W.heap.size 2 A len (rows Reg.cells regs) := by
 obtain ⟨xs, n', _, _, hlen, hxl, hf⟩ := DataW.trod_struct Tryz.underlying25 h
 rw [co_cfg] at hlen
 match cs, hlen with
 | [c0, c1, c2, c3, c4, c5, c6], _ =>
  obtain ⟨y0, _, h0⟩ := field_some hxl hf (i := 0) rfl 0 rfl rfl co_int
  obtain ⟨y1, _, h1⟩ := field_some hxl hf (i := 1) rfl 1 rfl rfl co_int
  obtain ⟨y2, _, h2⟩ := field_some hxl hf (i := 2) rfl 2 rfl rfl co_int
  obtain ⟨y3, _, h3⟩ := field_some hxl hf (i := 3) rfl 3 rfl rfl co_i64
  obtain ⟨y4, _, h4⟩ := field_some hxl hf (i := 4) rfl 4 rfl rfl co_bool
  obtain ⟨y5, _, h5⟩ := field_some hxl hf (i := 5) rfl 5 rfl rfl co_int
  obtain ⟨y6, _, h6⟩ := field_some hxl hf (i := 6) rfl 6 rfl rfl co_regs
  simp only [List.drop_zero, List.drop_succ_cons, List.take_succ_cons, List.take_zero] at h0 h1 h2 h3 h4 h5 h6
  obtain ⟨a, e0, _⟩ := DataW.trod_int Tryz.underlying3 h0
  obtain ⟨b, e1, _⟩ := DataW.trod_int Tryz.underlying3 h1
  obtain ⟨c, e2, _⟩ := DataW.trod_int Tryz.underlying3 h2
  obtain ⟨d, e3, _⟩ := DataW.trod_int Tryz.underlying2 h3
  obtain ⟨m, e4, _⟩ := DataW.trod_bool Tryz.underlying4 h4
  obtain ⟨t, e5, _⟩ := DataW.trod_int Tryz.underlying3 h5
  obtain ⟨A, len, cap, l, e6, hl, hn, hnc, hR, _, _⟩ := structs_open Reg.cells (fun _ => True) (k := 2) (fun _ => rfl) (by omega) Tryz.underlying23 co_reg (fun h => by obtain ⟨r, hr⟩ := reg_cells h; exact ⟨r, hr, trivial⟩) h6
  simp at e0 e1 e2 e3 e4 e5
  exact ⟨⟨a, b, c, d, m, t⟩, A, len, cap, l, by rw [e0, e1, e2, e3, e4, e5, e6], hl, hn, hnc, hR⟩
end Go.Proofs.YtiheggkkgbfndaaGreatDoor
