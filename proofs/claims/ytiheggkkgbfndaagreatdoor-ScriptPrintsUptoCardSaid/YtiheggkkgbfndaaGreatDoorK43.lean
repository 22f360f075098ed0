/- carousellaw24: ScriptBack, walked. -/
import Derived.Test.YtiheggkkgbfndaaGreatDoorK42
import Derived.Test.YtiheggkkgbfndaaGreatDoorK39
namespace Go.Proofs.YtiheggkkgbfndaaGreatDoor
open Go.RowKit Go.Joins Go.ChangeShapes Go.WideShapes Go.Deep
set_option linter.unusedVariables false
set_option linter.unusedSimpArgs false
set_option maxRecDepth 100000
theorem rset_shape {W : World} {C : Nat} {s : RSet} {rv pv tv : Value} (h : RSetRd W C s rv pv tv) : ∃ Rr nr cr Rp np cp Rt nt ct, rv = .slice Rr nr cr ∧ pv = .slice Rp np cp ∧ tv = .slice Rt nt ct := by
 obtain ⟨⟨Rr, cr, h1, _⟩, ⟨Rp, cp, h2, _⟩, ⟨Rt, ct, _, h3, _⟩⟩ := h
 exact ⟨Rr, _, cr, Rp, _, cp, Rt, _, ct, h1, h2, h3⟩
set_option maxHeartbeats 4000000 in
theorem back_AE {C : Nat} (sx : PSet) (lx : List PLine) (ta t : ByteArray) (rv pv tv lv : Value) (w : World) (hE : EnvP C w) (hSA : SetRd w w.heap.size sx rv pv tv) (hLA : LinesRd w w.heap.size lx lv) (hH : HalfA w ta sx lx) (y1 y2 : Nat) (hy1 : y1 ≠ 0) (hy2 : y2 ≤ t.size) (hT : NoAt w t y1 y2) :
  Calls Tryz.prog 5 #[.agg (setupC sx.raw.cfg rv pv tv), lv, .string t] w fun e w' => e = .returned (.bool true) ∧ Below w.heap.size w w' := by
 have HPT := Lib.hid hT
 unfold NoAt at HPT
 have e1 : ((y1 : Int) != 0) = true := by simp; omega
 have e2 : decide (y1 = 0) = false := decide_eq_false (by omega)
 have e3 : (y1 == 0) = false := by simp; omega
 have e4 : decide ((0 : Int) ≤ (y2 : Int)) = true := decide_eq_true (by omega)
 have e5 : decide ((y2 : Int) ≤ (t.size : Int)) = true := decide_eq_true (by omega)
 have e6 : decide (y2 ≤ t.size) = true := decide_eq_true hy2
 clear hT hy1 hy2
 obtain ⟨⟨a0, a1, a2, a3, a4, a5⟩, hcf⟩ : ∃ c, c = sx.cfg := ⟨_, rfl⟩
 obtain ⟨nr, hnr⟩ : ∃ n, n = sx.regs.length := ⟨_, rfl⟩
 obtain ⟨np, hnp⟩ : ∃ n, n = sx.progs.length := ⟨_, rfl⟩
 obtain ⟨nt, hnt⟩ : ∃ n, n = sx.thr.length := ⟨_, rfl⟩
 obtain ⟨nl, hnl⟩ : ∃ n, n = lx.length := ⟨_, rfl⟩
 obtain ⟨Rr, cr, Rp, cp, Rt, ct, rfl, rfl, rfl⟩ := set_shape hSA
 obtain ⟨Rl, cl, rfl⟩ : ∃ R c, lv = .slice R lx.length c := by obtain ⟨_, R, c, _, h, _⟩ := hLA; exact ⟨R, c, h⟩
 have HPR := Lib.hid (fun W (hW : Below w.heap.size w W) => hH.2 W _ _ _ _ hW ((hSA.below hW).more hW.size) ((hLA.below hW).more hW.size))
 have HPA := Lib.hid hH.1
 have HPB := Lib.hid hH.2
 have HSA := Lib.hid hSA
 have HLA := Lib.hid hLA
 have HSS : Hid (∀ W C v1 v2 v3 v1' v2' v3', C ≤ W.heap.size → SetRd W C sx v1 v2 v3 → SetRd W C sx v1' v2' v3' → Calls Tryz.prog 11 #[.agg #[.int .i64 a0, .int .i64 a1, .int .i64 a2, .int .i64 a3, .bool a4, .int .i64 a5, v1, v2, v3], .agg #[.int .i64 a0, .int .i64 a1, .int .i64 a2, .int .i64 a3, .bool a4, .int .i64 a5, v1', v2', v3']] W fun e w' => e = .returned (.bool true) ∧ Below W.heap.size W w') := Lib.hid fun W C v1 v2 v3 v1' v2' v3' h1 h2 h3 => setups_same ⟨a0, a1, a2, a3, a4, a5⟩ sx C v1 v2 v3 v1' v2' v3' W h1 h2 h3
 unfold ReadsAt at HPA
 rw [show sx.raw.cfg = sx.cfg from rfl]
 rw [← hcf, ← hnr, ← hnp, ← hnt, ← hnl] at HPR HPA
 rw [← hnr, ← hnp, ← hnt] at HSA
 rw [← hnl] at HLA
 rw [← hcf] at HPB
 rw [← hcf, ← hnr, ← hnp, ← hnt, ← hnl]
 simp only [setupC] at HPR HPA HPB ⊢
 obtain ⟨w1, hw1⟩ : ∃ w1, w1 = w.alloc (.cells #[.int .i64 a0, .int .i64 a1, .int .i64 a2, .int .i64 a3, .bool a4, .int .i64 a5, .slice Rr nr cr, .slice Rp np cp, .slice Rt nt ct] 29) := ⟨_, rfl⟩
 obtain ⟨b1, hb1⟩ : ∃ b1, b1 = w.heap.size := ⟨_, rfl⟩
 have HK1 : Hid (Blk w1 b1 29 #[.int .i64 a0, .int .i64 a1, .int .i64 a2, .int .i64 a3, .bool a4, .int .i64 a5, .slice Rr nr cr, .slice Rp np cp, .slice Rt nt ct]) := Lib.hid (by rw [hw1, hb1]; exact Blk.new _ _ _)
 have HB1 : Hid (Below w.heap.size w w1) := Lib.hid (hw1 ▸ (Below.refl _ _).alloc (Nat.le_refl _) _)
 have HSH := Lib.hid (shown_any w1 (hE.later HB1.out))
 clear hcf hnr hnp hnt hnl hSA hLA hH hE
 go_enter Tryz.func5, Tryz.ntmps5
 go_upto_region 1 with fail
 rw [← hw1, ← hb1]
 clear hw1 hb1
 go_upto_region 2 with (go_at_call 8; refine (HSH.out).mono ?_; rintro e w2 ⟨rfl, hb2⟩; have HB12 := Lib.hid hb2; clear hb2)
 have HB2 : Hid (Below w.heap.size w w2) := Lib.hid (HB1.out.trans (HB12.out.mono HB1.out.size))
 have HKA := Lib.hid (HK1.out.below HB12.out HK1.out.lt)
 have p0 := (HKA.out.cell 0).trans (show _ = some (Value.int .i64 a0) from rfl)
 have p1 := (HKA.out.cell 1).trans (show _ = some (Value.int .i64 a1) from rfl)
 have p2 := (HKA.out.cell 2).trans (show _ = some (Value.int .i64 a2) from rfl)
 have p3 := (HKA.out.cell 3).trans (show _ = some (Value.int .i64 a3) from rfl)
 have p4 := (HKA.out.cell 4).trans (show _ = some (Value.bool a4) from rfl)
 have p5 := (HKA.out.cell 5).trans (show _ = some (Value.int .i64 a5) from rfl)
 have p6 := (HKA.out.cell 6).trans (show _ = some (Value.slice Rr nr cr) from rfl)
 have p7 := (HKA.out.cell 7).trans (show _ = some (Value.slice Rp np cp) from rfl)
 have p8 := (HKA.out.cell 8).trans (show _ = some (Value.slice Rt nt ct) from rfl)
 have pl := HKA.out.lt
 go_upto_region 3 with (go_at_call 13; refine (HPR.out w2 HB2.out).mono ?_; rintro e w3 ⟨rfl, hb3⟩; have HB23 := Lib.hid hb3; clear hb3)
 clear p0 p1 p2 p3 p4 p5 p6 p7 p8 pl
 have HB3 : Hid (Below w.heap.size w w3) := Lib.hid (HB2.out.trans (HB23.out.mono HB2.out.size))
 go_upto_region 4 with fail
 go_upto_region 5 with (go_at_call 9; refine (HPA.out w3 HB3.out).mono ?_; rintro e w4 ⟨hb4, Qr, dr, Qp, dp, Qt, dt, Ql, dl, rfl, hs4, hl4⟩; have HB34 := Lib.hid hb4; have HS4 := Lib.hid hs4; have HL4 := Lib.hid hl4; clear hb4 hs4 hl4)
 obtain ⟨w5, hw5⟩ : ∃ W, W = w4.alloc (.cells #[.int .i64 a0, .int .i64 a1, .int .i64 a2, .int .i64 a3, .bool a4, .int .i64 a5, .slice Qr nr dr, .slice Qp np dp, .slice Qt nt dt] 29) := ⟨_, rfl⟩
 obtain ⟨b5, hb5⟩ : ∃ b, b = w4.heap.size := ⟨_, rfl⟩
 have HK5 : Hid (Blk w5 b5 29 #[.int .i64 a0, .int .i64 a1, .int .i64 a2, .int .i64 a3, .bool a4, .int .i64 a5, .slice Qr nr dr, .slice Qp np dp, .slice Qt nt dt]) := Lib.hid (by rw [hw5, hb5]; exact Blk.new _ _ _)
 have HB45 : Hid (Below w4.heap.size w4 w5) := Lib.hid (hw5 ▸ (Below.refl _ _).alloc (Nat.le_refl _) _)
 rw [← hw5, ← hb5]
 clear hw5 hb5
 have HB35 : Hid (Below w3.heap.size w3 w5) := Lib.hid (HB34.out.trans (HB45.out.mono HB34.out.size))
 have HB25 : Hid (Below w2.heap.size w2 w5) := Lib.hid (HB23.out.trans (HB35.out.mono HB23.out.size))
 have HB5 : Hid (Below w.heap.size w w5) := Lib.hid (HB2.out.trans (HB25.out.mono HB2.out.size))
 have HS5 := Lib.hid ((HS4.out.below HB45.out).more HB45.out.size)
 have HL5 := Lib.hid ((HL4.out.below HB45.out).more HB45.out.size)
 have HSA5 := Lib.hid ((HSA.out.below HB5.out).more HB5.out.size)
 have HLA5 := Lib.hid ((HLA.out.below HB5.out).more HB5.out.size)
 have HKA5 := Lib.hid (HKA.out.below HB25.out HKA.out.lt)
 have p0 := (HKA5.out.cell 0).trans (show _ = some (Value.int .i64 a0) from rfl)
 have p1 := (HKA5.out.cell 1).trans (show _ = some (Value.int .i64 a1) from rfl)
 have p2 := (HKA5.out.cell 2).trans (show _ = some (Value.int .i64 a2) from rfl)
 have p3 := (HKA5.out.cell 3).trans (show _ = some (Value.int .i64 a3) from rfl)
 have p4 := (HKA5.out.cell 4).trans (show _ = some (Value.bool a4) from rfl)
 have p5 := (HKA5.out.cell 5).trans (show _ = some (Value.int .i64 a5) from rfl)
 have p6 := (HKA5.out.cell 6).trans (show _ = some (Value.slice Rr nr cr) from rfl)
 have p7 := (HKA5.out.cell 7).trans (show _ = some (Value.slice Rp np cp) from rfl)
 have p8 := (HKA5.out.cell 8).trans (show _ = some (Value.slice Rt nt ct) from rfl)
 have pl := HKA5.out.lt
 have q0 := (HK5.out.cell 0).trans (show _ = some (Value.int .i64 a0) from rfl)
 have q1 := (HK5.out.cell 1).trans (show _ = some (Value.int .i64 a1) from rfl)
 have q2 := (HK5.out.cell 2).trans (show _ = some (Value.int .i64 a2) from rfl)
 have q3 := (HK5.out.cell 3).trans (show _ = some (Value.int .i64 a3) from rfl)
 have q4 := (HK5.out.cell 4).trans (show _ = some (Value.bool a4) from rfl)
 have q5 := (HK5.out.cell 5).trans (show _ = some (Value.int .i64 a5) from rfl)
 have q6 := (HK5.out.cell 6).trans (show _ = some (Value.slice Qr nr dr) from rfl)
 have q7 := (HK5.out.cell 7).trans (show _ = some (Value.slice Qp np dp) from rfl)
 have q8 := (HK5.out.cell 8).trans (show _ = some (Value.slice Qt nt dt) from rfl)
 have ql := HK5.out.lt
 go_upto_region 6 with (go_at_call 11; refine (HSS.out w5 w5.heap.size _ _ _ _ _ _ (Nat.le_refl _) HS5.out HSA5.out).mono ?_; rintro e w6 ⟨rfl, hb6⟩; have HB56 := Lib.hid hb6; clear hb6)
 clear p0 p1 p2 p3 p4 p5 p6 p7 p8 pl q0 q1 q2 q3 q4 q5 q6 q7 q8 ql
 have HL6 := Lib.hid ((HL5.out.below HB56.out).more HB56.out.size)
 have HLA6 := Lib.hid ((HLA5.out.below HB56.out).more HB56.out.size)
 go_upto_region 7 with (go_at_call 12; refine (lines_same lx w6.heap.size _ _ w6 (Nat.le_refl _) HL6.out HLA6.out).mono ?_; rintro e w7 ⟨rfl, m7, hw7⟩; have HB67 : Hid (Below w6.heap.size w6 w7) := Lib.hid (hw7 ▸ below_drewN (Below.refl _ _) m7); clear hw7)
 have HB57 : Hid (Below w5.heap.size w5 w7) := Lib.hid (HB56.out.trans (HB67.out.mono HB56.out.size))
 have HB7 : Hid (Below w.heap.size w w7) := Lib.hid (HB5.out.trans (HB57.out.mono HB5.out.size))
 have HK7 := Lib.hid (HK5.out.below HB57.out HK5.out.lt)
 have HS7 := Lib.hid ((HS5.out.below HB57.out).more HB57.out.size)
 have HL7 := Lib.hid ((HL5.out.below HB57.out).more HB57.out.size)
 have q0 := (HK7.out.cell 0).trans (show _ = some (Value.int .i64 a0) from rfl)
 have q1 := (HK7.out.cell 1).trans (show _ = some (Value.int .i64 a1) from rfl)
 have q2 := (HK7.out.cell 2).trans (show _ = some (Value.int .i64 a2) from rfl)
 have q3 := (HK7.out.cell 3).trans (show _ = some (Value.int .i64 a3) from rfl)
 have q4 := (HK7.out.cell 4).trans (show _ = some (Value.bool a4) from rfl)
 have q5 := (HK7.out.cell 5).trans (show _ = some (Value.int .i64 a5) from rfl)
 have q6 := (HK7.out.cell 6).trans (show _ = some (Value.slice Qr nr dr) from rfl)
 have q7 := (HK7.out.cell 7).trans (show _ = some (Value.slice Qp np dp) from rfl)
 have q8 := (HK7.out.cell 8).trans (show _ = some (Value.slice Qt nt dt) from rfl)
 have ql := HK7.out.lt
 go_upto_region 8 with (go_at_call 13; refine (HPB.out w7 _ _ _ _ HB7.out HS7.out HL7.out).mono ?_; rintro e w9 ⟨rfl, hb9⟩; have HB9 : Hid (Below w.heap.size w w9) := Lib.hid (HB7.out.trans (hb9.mono HB7.out.size)); clear hb9)
 clear q0 q1 q2 q3 q4 q5 q6 q7 q8 ql
 go_upto_region 10 with fail
 go_upto_region 11 with (go_at_call 9; refine (HPT.out w9 HB9.out).mono ?_; rintro e v1 ⟨hb, rfl⟩; have HV1 : Hid (Below w.heap.size w v1) := Lib.hid (HB9.out.trans (hb.mono HB9.out.size)); clear hb)
 obtain ⟨v2, hv2⟩ : ∃ W, W = v1.alloc (.cells #[.int .i64 0, .int .i64 0, .int .i64 0, .int .i64 0, .bool false, .int .i64 0, .slice none 0 0, .slice none 0 0, .slice none 0 0] 29) := ⟨_, rfl⟩
 obtain ⟨c2, hc2⟩ : ∃ b, b = v1.heap.size := ⟨_, rfl⟩
 have HC2 : Hid (Blk v2 c2 29 #[.int .i64 0, .int .i64 0, .int .i64 0, .int .i64 0, .bool false, .int .i64 0, .slice none 0 0, .slice none 0 0, .slice none 0 0]) := Lib.hid (by rw [hv2, hc2]; exact Blk.new _ _ _)
 have HV2 : Hid (Below w.heap.size w v2) := Lib.hid (hv2 ▸ HV1.out.alloc HV1.out.size _)
 rw [← hv2, ← hc2]
 clear hv2 hc2
 have q7 := (HC2.out.cell 7).trans (show _ = some (Value.slice none 0 0) from rfl)
 have ql := HC2.out.lt
 go_wp2
 go_ret
 exact ⟨rfl, HV2.out⟩
set_option maxHeartbeats 4000000 in
theorem back_AF {C : Nat} (sx : PSet) (lx : List PLine) (ta t : ByteArray) (rv pv tv lv : Value) (w : World) (hE : EnvP C w) (hSA : SetRd w w.heap.size sx rv pv tv) (hLA : LinesRd w w.heap.size lx lv) (hH : HalfA w ta sx lx) (x : PSet) (ly : List PLine) (hR : ReadsAt w t x ly) (hX : FullA w x ly) :
  Calls Tryz.prog 5 #[.agg (setupC sx.raw.cfg rv pv tv), lv, .string t] w fun e w' => e = .returned (.bool true) ∧ Below w.heap.size w w' := by
 obtain ⟨⟨d0, d1, d2, d3, d4, d5⟩, hdf⟩ : ∃ c, c = x.cfg := ⟨_, rfl⟩
 obtain ⟨mr, hmr⟩ : ∃ n, n = x.regs.length := ⟨_, rfl⟩
 obtain ⟨mp, hmp⟩ : ∃ n, n = x.progs.length := ⟨_, rfl⟩
 obtain ⟨mt, hmt⟩ : ∃ n, n = x.thr.length := ⟨_, rfl⟩
 obtain ⟨ml, hml⟩ : ∃ n, n = ly.length := ⟨_, rfl⟩
 have HPT := Lib.hid hR
 have HPX := Lib.hid hX
 unfold ReadsAt at HPT
 rw [← hdf, ← hmr, ← hmp, ← hmt, ← hml] at HPT
 unfold FullA at HPX
 rw [← hdf] at HPX
 simp only [setupC] at HPT HPX
 clear hR hX hdf hmr hmp hmt hml
 obtain ⟨⟨a0, a1, a2, a3, a4, a5⟩, hcf⟩ : ∃ c, c = sx.cfg := ⟨_, rfl⟩
 obtain ⟨nr, hnr⟩ : ∃ n, n = sx.regs.length := ⟨_, rfl⟩
 obtain ⟨np, hnp⟩ : ∃ n, n = sx.progs.length := ⟨_, rfl⟩
 obtain ⟨nt, hnt⟩ : ∃ n, n = sx.thr.length := ⟨_, rfl⟩
 obtain ⟨nl, hnl⟩ : ∃ n, n = lx.length := ⟨_, rfl⟩
 obtain ⟨Rr, cr, Rp, cp, Rt, ct, rfl, rfl, rfl⟩ := set_shape hSA
 obtain ⟨Rl, cl, rfl⟩ : ∃ R c, lv = .slice R lx.length c := by obtain ⟨_, R, c, _, h, _⟩ := hLA; exact ⟨R, c, h⟩
 have HPR := Lib.hid (fun W (hW : Below w.heap.size w W) => hH.2 W _ _ _ _ hW ((hSA.below hW).more hW.size) ((hLA.below hW).more hW.size))
 have HPA := Lib.hid hH.1
 have HPB := Lib.hid hH.2
 have HSA := Lib.hid hSA
 have HLA := Lib.hid hLA
 have HSS : Hid (∀ W C v1 v2 v3 v1' v2' v3', C ≤ W.heap.size → SetRd W C sx v1 v2 v3 → SetRd W C sx v1' v2' v3' → Calls Tryz.prog 11 #[.agg #[.int .i64 a0, .int .i64 a1, .int .i64 a2, .int .i64 a3, .bool a4, .int .i64 a5, v1, v2, v3], .agg #[.int .i64 a0, .int .i64 a1, .int .i64 a2, .int .i64 a3, .bool a4, .int .i64 a5, v1', v2', v3']] W fun e w' => e = .returned (.bool true) ∧ Below W.heap.size W w') := Lib.hid fun W C v1 v2 v3 v1' v2' v3' h1 h2 h3 => setups_same ⟨a0, a1, a2, a3, a4, a5⟩ sx C v1 v2 v3 v1' v2' v3' W h1 h2 h3
 unfold ReadsAt at HPA
 rw [show sx.raw.cfg = sx.cfg from rfl]
 rw [← hcf, ← hnr, ← hnp, ← hnt, ← hnl] at HPR HPA
 rw [← hnr, ← hnp, ← hnt] at HSA
 rw [← hnl] at HLA
 rw [← hcf] at HPB
 rw [← hcf, ← hnr, ← hnp, ← hnt, ← hnl]
 simp only [setupC] at HPR HPA HPB ⊢
 obtain ⟨w1, hw1⟩ : ∃ w1, w1 = w.alloc (.cells #[.int .i64 a0, .int .i64 a1, .int .i64 a2, .int .i64 a3, .bool a4, .int .i64 a5, .slice Rr nr cr, .slice Rp np cp, .slice Rt nt ct] 29) := ⟨_, rfl⟩
 obtain ⟨b1, hb1⟩ : ∃ b1, b1 = w.heap.size := ⟨_, rfl⟩
 have HK1 : Hid (Blk w1 b1 29 #[.int .i64 a0, .int .i64 a1, .int .i64 a2, .int .i64 a3, .bool a4, .int .i64 a5, .slice Rr nr cr, .slice Rp np cp, .slice Rt nt ct]) := Lib.hid (by rw [hw1, hb1]; exact Blk.new _ _ _)
 have HB1 : Hid (Below w.heap.size w w1) := Lib.hid (hw1 ▸ (Below.refl _ _).alloc (Nat.le_refl _) _)
 have HSH := Lib.hid (shown_any w1 (hE.later HB1.out))
 clear hcf hnr hnp hnt hnl hSA hLA hH hE
 go_enter Tryz.func5, Tryz.ntmps5
 go_upto_region 1 with fail
 rw [← hw1, ← hb1]
 clear hw1 hb1
 go_upto_region 2 with (go_at_call 8; refine (HSH.out).mono ?_; rintro e w2 ⟨rfl, hb2⟩; have HB12 := Lib.hid hb2; clear hb2)
 have HB2 : Hid (Below w.heap.size w w2) := Lib.hid (HB1.out.trans (HB12.out.mono HB1.out.size))
 have HKA := Lib.hid (HK1.out.below HB12.out HK1.out.lt)
 have p0 := (HKA.out.cell 0).trans (show _ = some (Value.int .i64 a0) from rfl)
 have p1 := (HKA.out.cell 1).trans (show _ = some (Value.int .i64 a1) from rfl)
 have p2 := (HKA.out.cell 2).trans (show _ = some (Value.int .i64 a2) from rfl)
 have p3 := (HKA.out.cell 3).trans (show _ = some (Value.int .i64 a3) from rfl)
 have p4 := (HKA.out.cell 4).trans (show _ = some (Value.bool a4) from rfl)
 have p5 := (HKA.out.cell 5).trans (show _ = some (Value.int .i64 a5) from rfl)
 have p6 := (HKA.out.cell 6).trans (show _ = some (Value.slice Rr nr cr) from rfl)
 have p7 := (HKA.out.cell 7).trans (show _ = some (Value.slice Rp np cp) from rfl)
 have p8 := (HKA.out.cell 8).trans (show _ = some (Value.slice Rt nt ct) from rfl)
 have pl := HKA.out.lt
 go_upto_region 3 with (go_at_call 13; refine (HPR.out w2 HB2.out).mono ?_; rintro e w3 ⟨rfl, hb3⟩; have HB23 := Lib.hid hb3; clear hb3)
 clear p0 p1 p2 p3 p4 p5 p6 p7 p8 pl
 have HB3 : Hid (Below w.heap.size w w3) := Lib.hid (HB2.out.trans (HB23.out.mono HB2.out.size))
 go_upto_region 4 with fail
 go_upto_region 5 with (go_at_call 9; refine (HPA.out w3 HB3.out).mono ?_; rintro e w4 ⟨hb4, Qr, dr, Qp, dp, Qt, dt, Ql, dl, rfl, hs4, hl4⟩; have HB34 := Lib.hid hb4; have HS4 := Lib.hid hs4; have HL4 := Lib.hid hl4; clear hb4 hs4 hl4)
 obtain ⟨w5, hw5⟩ : ∃ W, W = w4.alloc (.cells #[.int .i64 a0, .int .i64 a1, .int .i64 a2, .int .i64 a3, .bool a4, .int .i64 a5, .slice Qr nr dr, .slice Qp np dp, .slice Qt nt dt] 29) := ⟨_, rfl⟩
 obtain ⟨b5, hb5⟩ : ∃ b, b = w4.heap.size := ⟨_, rfl⟩
 have HK5 : Hid (Blk w5 b5 29 #[.int .i64 a0, .int .i64 a1, .int .i64 a2, .int .i64 a3, .bool a4, .int .i64 a5, .slice Qr nr dr, .slice Qp np dp, .slice Qt nt dt]) := Lib.hid (by rw [hw5, hb5]; exact Blk.new _ _ _)
 have HB45 : Hid (Below w4.heap.size w4 w5) := Lib.hid (hw5 ▸ (Below.refl _ _).alloc (Nat.le_refl _) _)
 rw [← hw5, ← hb5]
 clear hw5 hb5
 have HB35 : Hid (Below w3.heap.size w3 w5) := Lib.hid (HB34.out.trans (HB45.out.mono HB34.out.size))
 have HB25 : Hid (Below w2.heap.size w2 w5) := Lib.hid (HB23.out.trans (HB35.out.mono HB23.out.size))
 have HB5 : Hid (Below w.heap.size w w5) := Lib.hid (HB2.out.trans (HB25.out.mono HB2.out.size))
 have HS5 := Lib.hid ((HS4.out.below HB45.out).more HB45.out.size)
 have HL5 := Lib.hid ((HL4.out.below HB45.out).more HB45.out.size)
 have HSA5 := Lib.hid ((HSA.out.below HB5.out).more HB5.out.size)
 have HLA5 := Lib.hid ((HLA.out.below HB5.out).more HB5.out.size)
 have HKA5 := Lib.hid (HKA.out.below HB25.out HKA.out.lt)
 have p0 := (HKA5.out.cell 0).trans (show _ = some (Value.int .i64 a0) from rfl)
 have p1 := (HKA5.out.cell 1).trans (show _ = some (Value.int .i64 a1) from rfl)
 have p2 := (HKA5.out.cell 2).trans (show _ = some (Value.int .i64 a2) from rfl)
 have p3 := (HKA5.out.cell 3).trans (show _ = some (Value.int .i64 a3) from rfl)
 have p4 := (HKA5.out.cell 4).trans (show _ = some (Value.bool a4) from rfl)
 have p5 := (HKA5.out.cell 5).trans (show _ = some (Value.int .i64 a5) from rfl)
 have p6 := (HKA5.out.cell 6).trans (show _ = some (Value.slice Rr nr cr) from rfl)
 have p7 := (HKA5.out.cell 7).trans (show _ = some (Value.slice Rp np cp) from rfl)
 have p8 := (HKA5.out.cell 8).trans (show _ = some (Value.slice Rt nt ct) from rfl)
 have pl := HKA5.out.lt
 have q0 := (HK5.out.cell 0).trans (show _ = some (Value.int .i64 a0) from rfl)
 have q1 := (HK5.out.cell 1).trans (show _ = some (Value.int .i64 a1) from rfl)
 have q2 := (HK5.out.cell 2).trans (show _ = some (Value.int .i64 a2) from rfl)
 have q3 := (HK5.out.cell 3).trans (show _ = some (Value.int .i64 a3) from rfl)
 have q4 := (HK5.out.cell 4).trans (show _ = some (Value.bool a4) from rfl)
 have q5 := (HK5.out.cell 5).trans (show _ = some (Value.int .i64 a5) from rfl)
 have q6 := (HK5.out.cell 6).trans (show _ = some (Value.slice Qr nr dr) from rfl)
 have q7 := (HK5.out.cell 7).trans (show _ = some (Value.slice Qp np dp) from rfl)
 have q8 := (HK5.out.cell 8).trans (show _ = some (Value.slice Qt nt dt) from rfl)
 have ql := HK5.out.lt
 go_upto_region 6 with (go_at_call 11; refine (HSS.out w5 w5.heap.size _ _ _ _ _ _ (Nat.le_refl _) HS5.out HSA5.out).mono ?_; rintro e w6 ⟨rfl, hb6⟩; have HB56 := Lib.hid hb6; clear hb6)
 clear p0 p1 p2 p3 p4 p5 p6 p7 p8 pl q0 q1 q2 q3 q4 q5 q6 q7 q8 ql
 have HL6 := Lib.hid ((HL5.out.below HB56.out).more HB56.out.size)
 have HLA6 := Lib.hid ((HLA5.out.below HB56.out).more HB56.out.size)
 go_upto_region 7 with (go_at_call 12; refine (lines_same lx w6.heap.size _ _ w6 (Nat.le_refl _) HL6.out HLA6.out).mono ?_; rintro e w7 ⟨rfl, m7, hw7⟩; have HB67 : Hid (Below w6.heap.size w6 w7) := Lib.hid (hw7 ▸ below_drewN (Below.refl _ _) m7); clear hw7)
 have HB57 : Hid (Below w5.heap.size w5 w7) := Lib.hid (HB56.out.trans (HB67.out.mono HB56.out.size))
 have HB7 : Hid (Below w.heap.size w w7) := Lib.hid (HB5.out.trans (HB57.out.mono HB5.out.size))
 have HK7 := Lib.hid (HK5.out.below HB57.out HK5.out.lt)
 have HS7 := Lib.hid ((HS5.out.below HB57.out).more HB57.out.size)
 have HL7 := Lib.hid ((HL5.out.below HB57.out).more HB57.out.size)
 have q0 := (HK7.out.cell 0).trans (show _ = some (Value.int .i64 a0) from rfl)
 have q1 := (HK7.out.cell 1).trans (show _ = some (Value.int .i64 a1) from rfl)
 have q2 := (HK7.out.cell 2).trans (show _ = some (Value.int .i64 a2) from rfl)
 have q3 := (HK7.out.cell 3).trans (show _ = some (Value.int .i64 a3) from rfl)
 have q4 := (HK7.out.cell 4).trans (show _ = some (Value.bool a4) from rfl)
 have q5 := (HK7.out.cell 5).trans (show _ = some (Value.int .i64 a5) from rfl)
 have q6 := (HK7.out.cell 6).trans (show _ = some (Value.slice Qr nr dr) from rfl)
 have q7 := (HK7.out.cell 7).trans (show _ = some (Value.slice Qp np dp) from rfl)
 have q8 := (HK7.out.cell 8).trans (show _ = some (Value.slice Qt nt dt) from rfl)
 have ql := HK7.out.lt
 go_upto_region 8 with (go_at_call 13; refine (HPB.out w7 _ _ _ _ HB7.out HS7.out HL7.out).mono ?_; rintro e w9 ⟨rfl, hb9⟩; have HB9 : Hid (Below w.heap.size w w9) := Lib.hid (HB7.out.trans (hb9.mono HB7.out.size)); clear hb9)
 clear q0 q1 q2 q3 q4 q5 q6 q7 q8 ql
 go_upto_region 10 with fail
 go_upto_region 11 with (go_at_call 9; refine (HPT.out w9 HB9.out).mono ?_; rintro e v1 ⟨hb, Xr, xr, Xp, xp, Xt, xt, Xl, xl, rfl, hs, hl⟩; have HV1 : Hid (Below w.heap.size w v1) := Lib.hid (HB9.out.trans (hb.mono HB9.out.size)); have HXS := Lib.hid hs; have HXL := Lib.hid hl; clear hb hs hl)
 obtain ⟨v2, hv2⟩ : ∃ W, W = v1.alloc (.cells #[.int .i64 d0, .int .i64 d1, .int .i64 d2, .int .i64 d3, .bool d4, .int .i64 d5, .slice Xr mr xr, .slice Xp mp xp, .slice Xt mt xt] 29) := ⟨_, rfl⟩
 obtain ⟨c2, hc2⟩ : ∃ b, b = v1.heap.size := ⟨_, rfl⟩
 have HC2 : Hid (Blk v2 c2 29 #[.int .i64 d0, .int .i64 d1, .int .i64 d2, .int .i64 d3, .bool d4, .int .i64 d5, .slice Xr mr xr, .slice Xp mp xp, .slice Xt mt xt]) := Lib.hid (by rw [hv2, hc2]; exact Blk.new _ _ _)
 have HV12 : Hid (Below v1.heap.size v1 v2) := Lib.hid (hv2 ▸ (Below.refl _ _).alloc (Nat.le_refl _) _)
 rw [← hv2, ← hc2]
 clear hv2 hc2
 have HV2 : Hid (Below w.heap.size w v2) := Lib.hid (HV1.out.trans (HV12.out.mono HV1.out.size))
 have HXS2 := Lib.hid ((HXS.out.below HV12.out).more HV12.out.size)
 have HXL2 := Lib.hid ((HXL.out.below HV12.out).more HV12.out.size)
 have q0 := (HC2.out.cell 0).trans (show _ = some (Value.int .i64 d0) from rfl)
 have q1 := (HC2.out.cell 1).trans (show _ = some (Value.int .i64 d1) from rfl)
 have q2 := (HC2.out.cell 2).trans (show _ = some (Value.int .i64 d2) from rfl)
 have q3 := (HC2.out.cell 3).trans (show _ = some (Value.int .i64 d3) from rfl)
 have q4 := (HC2.out.cell 4).trans (show _ = some (Value.bool d4) from rfl)
 have q5 := (HC2.out.cell 5).trans (show _ = some (Value.int .i64 d5) from rfl)
 have q6 := (HC2.out.cell 6).trans (show _ = some (Value.slice Xr mr xr) from rfl)
 have q7 := (HC2.out.cell 7).trans (show _ = some (Value.slice Xp mp xp) from rfl)
 have q8 := (HC2.out.cell 8).trans (show _ = some (Value.slice Xt mt xt) from rfl)
 have ql := HC2.out.lt
 go_upto_region 13 with fail
 go_upto_region 14 with (go_at_call 13; refine (HPX.out v2 _ _ _ _ HV2.out HXS2.out HXL2.out).mono ?_; rintro e v3 ⟨rfl, hb⟩; have HV23 := Lib.hid hb; clear hb)
 clear q0 q1 q2 q3 q4 q5 q6 q7 q8 ql
 have HV3 : Hid (Below w.heap.size w v3) := Lib.hid (HV2.out.trans (HV23.out.mono HV2.out.size))
 go_wp2
 go_ret
 exact ⟨rfl, HV3.out⟩
set_option maxHeartbeats 4000000 in
theorem back_AO {C : Nat} (sx : PSet) (lx : List PLine) (ta t : ByteArray) (rv pv tv lv : Value) (w : World) (hE : EnvP C w) (hSA : SetRd w w.heap.size sx rv pv tv) (hLA : LinesRd w w.heap.size lx lv) (hH : HalfA w ta sx lx) (x : PSet) (ly : List PLine) (ty : ByteArray) (hR : ReadsAt w t x ly) (hX : HalfA w ty x ly) :
  Calls Tryz.prog 5 #[.agg (setupC sx.raw.cfg rv pv tv), lv, .string t] w fun e w' => e = .returned (.bool true) ∧ Below w.heap.size w w' := by
 obtain ⟨⟨d0, d1, d2, d3, d4, d5⟩, hdf⟩ : ∃ c, c = x.cfg := ⟨_, rfl⟩
 obtain ⟨mr, hmr⟩ : ∃ n, n = x.regs.length := ⟨_, rfl⟩
 obtain ⟨mp, hmp⟩ : ∃ n, n = x.progs.length := ⟨_, rfl⟩
 obtain ⟨mt, hmt⟩ : ∃ n, n = x.thr.length := ⟨_, rfl⟩
 obtain ⟨ml, hml⟩ : ∃ n, n = ly.length := ⟨_, rfl⟩
 have HPT := Lib.hid hR
 have HPX := Lib.hid hX.2
 have HPY := Lib.hid hX.1
 unfold ReadsAt at HPT
 rw [← hdf, ← hmr, ← hmp, ← hmt, ← hml] at HPT
 unfold ReadsAt at HPY
 rw [← hdf, ← hmr, ← hmp, ← hmt, ← hml] at HPY
 rw [← hdf] at HPX
 simp only [setupC] at HPT HPX HPY
 have HXX : Hid (∀ W C v1 v2 v3 v1' v2' v3', C ≤ W.heap.size → SetRd W C x v1 v2 v3 → SetRd W C x v1' v2' v3' → Calls Tryz.prog 11 #[.agg #[.int .i64 d0, .int .i64 d1, .int .i64 d2, .int .i64 d3, .bool d4, .int .i64 d5, v1, v2, v3], .agg #[.int .i64 d0, .int .i64 d1, .int .i64 d2, .int .i64 d3, .bool d4, .int .i64 d5, v1', v2', v3']] W fun e w' => e = .returned (.bool true) ∧ Below W.heap.size W w') := Lib.hid fun W C v1 v2 v3 v1' v2' v3' h1 h2 h3 => setups_same ⟨d0, d1, d2, d3, d4, d5⟩ x C v1 v2 v3 v1' v2' v3' W h1 h2 h3
 clear hR hX hdf hmr hmp hmt hml
 obtain ⟨⟨a0, a1, a2, a3, a4, a5⟩, hcf⟩ : ∃ c, c = sx.cfg := ⟨_, rfl⟩
 obtain ⟨nr, hnr⟩ : ∃ n, n = sx.regs.length := ⟨_, rfl⟩
 obtain ⟨np, hnp⟩ : ∃ n, n = sx.progs.length := ⟨_, rfl⟩
 obtain ⟨nt, hnt⟩ : ∃ n, n = sx.thr.length := ⟨_, rfl⟩
 obtain ⟨nl, hnl⟩ : ∃ n, n = lx.length := ⟨_, rfl⟩
 obtain ⟨Rr, cr, Rp, cp, Rt, ct, rfl, rfl, rfl⟩ := set_shape hSA
 obtain ⟨Rl, cl, rfl⟩ : ∃ R c, lv = .slice R lx.length c := by obtain ⟨_, R, c, _, h, _⟩ := hLA; exact ⟨R, c, h⟩
 have HPR := Lib.hid (fun W (hW : Below w.heap.size w W) => hH.2 W _ _ _ _ hW ((hSA.below hW).more hW.size) ((hLA.below hW).more hW.size))
 have HPA := Lib.hid hH.1
 have HPB := Lib.hid hH.2
 have HSA := Lib.hid hSA
 have HLA := Lib.hid hLA
 have HSS : Hid (∀ W C v1 v2 v3 v1' v2' v3', C ≤ W.heap.size → SetRd W C sx v1 v2 v3 → SetRd W C sx v1' v2' v3' → Calls Tryz.prog 11 #[.agg #[.int .i64 a0, .int .i64 a1, .int .i64 a2, .int .i64 a3, .bool a4, .int .i64 a5, v1, v2, v3], .agg #[.int .i64 a0, .int .i64 a1, .int .i64 a2, .int .i64 a3, .bool a4, .int .i64 a5, v1', v2', v3']] W fun e w' => e = .returned (.bool true) ∧ Below W.heap.size W w') := Lib.hid fun W C v1 v2 v3 v1' v2' v3' h1 h2 h3 => setups_same ⟨a0, a1, a2, a3, a4, a5⟩ sx C v1 v2 v3 v1' v2' v3' W h1 h2 h3
 unfold ReadsAt at HPA
 rw [show sx.raw.cfg = sx.cfg from rfl]
 rw [← hcf, ← hnr, ← hnp, ← hnt, ← hnl] at HPR HPA
 rw [← hnr, ← hnp, ← hnt] at HSA
 rw [← hnl] at HLA
 rw [← hcf] at HPB
 rw [← hcf, ← hnr, ← hnp, ← hnt, ← hnl]
 simp only [setupC] at HPR HPA HPB ⊢
 obtain ⟨w1, hw1⟩ : ∃ w1, w1 = w.alloc (.cells #[.int .i64 a0, .int .i64 a1, .int .i64 a2, .int .i64 a3, .bool a4, .int .i64 a5, .slice Rr nr cr, .slice Rp np cp, .slice Rt nt ct] 29) := ⟨_, rfl⟩
 obtain ⟨b1, hb1⟩ : ∃ b1, b1 = w.heap.size := ⟨_, rfl⟩
 have HK1 : Hid (Blk w1 b1 29 #[.int .i64 a0, .int .i64 a1, .int .i64 a2, .int .i64 a3, .bool a4, .int .i64 a5, .slice Rr nr cr, .slice Rp np cp, .slice Rt nt ct]) := Lib.hid (by rw [hw1, hb1]; exact Blk.new _ _ _)
 have HB1 : Hid (Below w.heap.size w w1) := Lib.hid (hw1 ▸ (Below.refl _ _).alloc (Nat.le_refl _) _)
 have HSH := Lib.hid (shown_any w1 (hE.later HB1.out))
 clear hcf hnr hnp hnt hnl hSA hLA hH hE
 go_enter Tryz.func5, Tryz.ntmps5
 go_upto_region 1 with fail
 rw [← hw1, ← hb1]
 clear hw1 hb1
 go_upto_region 2 with (go_at_call 8; refine (HSH.out).mono ?_; rintro e w2 ⟨rfl, hb2⟩; have HB12 := Lib.hid hb2; clear hb2)
 have HB2 : Hid (Below w.heap.size w w2) := Lib.hid (HB1.out.trans (HB12.out.mono HB1.out.size))
 have HKA := Lib.hid (HK1.out.below HB12.out HK1.out.lt)
 have p0 := (HKA.out.cell 0).trans (show _ = some (Value.int .i64 a0) from rfl)
 have p1 := (HKA.out.cell 1).trans (show _ = some (Value.int .i64 a1) from rfl)
 have p2 := (HKA.out.cell 2).trans (show _ = some (Value.int .i64 a2) from rfl)
 have p3 := (HKA.out.cell 3).trans (show _ = some (Value.int .i64 a3) from rfl)
 have p4 := (HKA.out.cell 4).trans (show _ = some (Value.bool a4) from rfl)
 have p5 := (HKA.out.cell 5).trans (show _ = some (Value.int .i64 a5) from rfl)
 have p6 := (HKA.out.cell 6).trans (show _ = some (Value.slice Rr nr cr) from rfl)
 have p7 := (HKA.out.cell 7).trans (show _ = some (Value.slice Rp np cp) from rfl)
 have p8 := (HKA.out.cell 8).trans (show _ = some (Value.slice Rt nt ct) from rfl)
 have pl := HKA.out.lt
 go_upto_region 3 with (go_at_call 13; refine (HPR.out w2 HB2.out).mono ?_; rintro e w3 ⟨rfl, hb3⟩; have HB23 := Lib.hid hb3; clear hb3)
 clear p0 p1 p2 p3 p4 p5 p6 p7 p8 pl
 have HB3 : Hid (Below w.heap.size w w3) := Lib.hid (HB2.out.trans (HB23.out.mono HB2.out.size))
 go_upto_region 4 with fail
 go_upto_region 5 with (go_at_call 9; refine (HPA.out w3 HB3.out).mono ?_; rintro e w4 ⟨hb4, Qr, dr, Qp, dp, Qt, dt, Ql, dl, rfl, hs4, hl4⟩; have HB34 := Lib.hid hb4; have HS4 := Lib.hid hs4; have HL4 := Lib.hid hl4; clear hb4 hs4 hl4)
 obtain ⟨w5, hw5⟩ : ∃ W, W = w4.alloc (.cells #[.int .i64 a0, .int .i64 a1, .int .i64 a2, .int .i64 a3, .bool a4, .int .i64 a5, .slice Qr nr dr, .slice Qp np dp, .slice Qt nt dt] 29) := ⟨_, rfl⟩
 obtain ⟨b5, hb5⟩ : ∃ b, b = w4.heap.size := ⟨_, rfl⟩
 have HK5 : Hid (Blk w5 b5 29 #[.int .i64 a0, .int .i64 a1, .int .i64 a2, .int .i64 a3, .bool a4, .int .i64 a5, .slice Qr nr dr, .slice Qp np dp, .slice Qt nt dt]) := Lib.hid (by rw [hw5, hb5]; exact Blk.new _ _ _)
 have HB45 : Hid (Below w4.heap.size w4 w5) := Lib.hid (hw5 ▸ (Below.refl _ _).alloc (Nat.le_refl _) _)
 rw [← hw5, ← hb5]
 clear hw5 hb5
 have HB35 : Hid (Below w3.heap.size w3 w5) := Lib.hid (HB34.out.trans (HB45.out.mono HB34.out.size))
 have HB25 : Hid (Below w2.heap.size w2 w5) := Lib.hid (HB23.out.trans (HB35.out.mono HB23.out.size))
 have HB5 : Hid (Below w.heap.size w w5) := Lib.hid (HB2.out.trans (HB25.out.mono HB2.out.size))
 have HS5 := Lib.hid ((HS4.out.below HB45.out).more HB45.out.size)
 have HL5 := Lib.hid ((HL4.out.below HB45.out).more HB45.out.size)
 have HSA5 := Lib.hid ((HSA.out.below HB5.out).more HB5.out.size)
 have HLA5 := Lib.hid ((HLA.out.below HB5.out).more HB5.out.size)
 have HKA5 := Lib.hid (HKA.out.below HB25.out HKA.out.lt)
 have p0 := (HKA5.out.cell 0).trans (show _ = some (Value.int .i64 a0) from rfl)
 have p1 := (HKA5.out.cell 1).trans (show _ = some (Value.int .i64 a1) from rfl)
 have p2 := (HKA5.out.cell 2).trans (show _ = some (Value.int .i64 a2) from rfl)
 have p3 := (HKA5.out.cell 3).trans (show _ = some (Value.int .i64 a3) from rfl)
 have p4 := (HKA5.out.cell 4).trans (show _ = some (Value.bool a4) from rfl)
 have p5 := (HKA5.out.cell 5).trans (show _ = some (Value.int .i64 a5) from rfl)
 have p6 := (HKA5.out.cell 6).trans (show _ = some (Value.slice Rr nr cr) from rfl)
 have p7 := (HKA5.out.cell 7).trans (show _ = some (Value.slice Rp np cp) from rfl)
 have p8 := (HKA5.out.cell 8).trans (show _ = some (Value.slice Rt nt ct) from rfl)
 have pl := HKA5.out.lt
 have q0 := (HK5.out.cell 0).trans (show _ = some (Value.int .i64 a0) from rfl)
 have q1 := (HK5.out.cell 1).trans (show _ = some (Value.int .i64 a1) from rfl)
 have q2 := (HK5.out.cell 2).trans (show _ = some (Value.int .i64 a2) from rfl)
 have q3 := (HK5.out.cell 3).trans (show _ = some (Value.int .i64 a3) from rfl)
 have q4 := (HK5.out.cell 4).trans (show _ = some (Value.bool a4) from rfl)
 have q5 := (HK5.out.cell 5).trans (show _ = some (Value.int .i64 a5) from rfl)
 have q6 := (HK5.out.cell 6).trans (show _ = some (Value.slice Qr nr dr) from rfl)
 have q7 := (HK5.out.cell 7).trans (show _ = some (Value.slice Qp np dp) from rfl)
 have q8 := (HK5.out.cell 8).trans (show _ = some (Value.slice Qt nt dt) from rfl)
 have ql := HK5.out.lt
 go_upto_region 6 with (go_at_call 11; refine (HSS.out w5 w5.heap.size _ _ _ _ _ _ (Nat.le_refl _) HS5.out HSA5.out).mono ?_; rintro e w6 ⟨rfl, hb6⟩; have HB56 := Lib.hid hb6; clear hb6)
 clear p0 p1 p2 p3 p4 p5 p6 p7 p8 pl q0 q1 q2 q3 q4 q5 q6 q7 q8 ql
 have HL6 := Lib.hid ((HL5.out.below HB56.out).more HB56.out.size)
 have HLA6 := Lib.hid ((HLA5.out.below HB56.out).more HB56.out.size)
 go_upto_region 7 with (go_at_call 12; refine (lines_same lx w6.heap.size _ _ w6 (Nat.le_refl _) HL6.out HLA6.out).mono ?_; rintro e w7 ⟨rfl, m7, hw7⟩; have HB67 : Hid (Below w6.heap.size w6 w7) := Lib.hid (hw7 ▸ below_drewN (Below.refl _ _) m7); clear hw7)
 have HB57 : Hid (Below w5.heap.size w5 w7) := Lib.hid (HB56.out.trans (HB67.out.mono HB56.out.size))
 have HB7 : Hid (Below w.heap.size w w7) := Lib.hid (HB5.out.trans (HB57.out.mono HB5.out.size))
 have HK7 := Lib.hid (HK5.out.below HB57.out HK5.out.lt)
 have HS7 := Lib.hid ((HS5.out.below HB57.out).more HB57.out.size)
 have HL7 := Lib.hid ((HL5.out.below HB57.out).more HB57.out.size)
 have q0 := (HK7.out.cell 0).trans (show _ = some (Value.int .i64 a0) from rfl)
 have q1 := (HK7.out.cell 1).trans (show _ = some (Value.int .i64 a1) from rfl)
 have q2 := (HK7.out.cell 2).trans (show _ = some (Value.int .i64 a2) from rfl)
 have q3 := (HK7.out.cell 3).trans (show _ = some (Value.int .i64 a3) from rfl)
 have q4 := (HK7.out.cell 4).trans (show _ = some (Value.bool a4) from rfl)
 have q5 := (HK7.out.cell 5).trans (show _ = some (Value.int .i64 a5) from rfl)
 have q6 := (HK7.out.cell 6).trans (show _ = some (Value.slice Qr nr dr) from rfl)
 have q7 := (HK7.out.cell 7).trans (show _ = some (Value.slice Qp np dp) from rfl)
 have q8 := (HK7.out.cell 8).trans (show _ = some (Value.slice Qt nt dt) from rfl)
 have ql := HK7.out.lt
 go_upto_region 8 with (go_at_call 13; refine (HPB.out w7 _ _ _ _ HB7.out HS7.out HL7.out).mono ?_; rintro e w9 ⟨rfl, hb9⟩; have HB9 : Hid (Below w.heap.size w w9) := Lib.hid (HB7.out.trans (hb9.mono HB7.out.size)); clear hb9)
 clear q0 q1 q2 q3 q4 q5 q6 q7 q8 ql
 go_upto_region 10 with fail
 go_upto_region 11 with (go_at_call 9; refine (HPT.out w9 HB9.out).mono ?_; rintro e v1 ⟨hb, Xr, xr, Xp, xp, Xt, xt, Xl, xl, rfl, hs, hl⟩; have HV1 : Hid (Below w.heap.size w v1) := Lib.hid (HB9.out.trans (hb.mono HB9.out.size)); have HXS := Lib.hid hs; have HXL := Lib.hid hl; clear hb hs hl)
 obtain ⟨v2, hv2⟩ : ∃ W, W = v1.alloc (.cells #[.int .i64 d0, .int .i64 d1, .int .i64 d2, .int .i64 d3, .bool d4, .int .i64 d5, .slice Xr mr xr, .slice Xp mp xp, .slice Xt mt xt] 29) := ⟨_, rfl⟩
 obtain ⟨c2, hc2⟩ : ∃ b, b = v1.heap.size := ⟨_, rfl⟩
 have HC2 : Hid (Blk v2 c2 29 #[.int .i64 d0, .int .i64 d1, .int .i64 d2, .int .i64 d3, .bool d4, .int .i64 d5, .slice Xr mr xr, .slice Xp mp xp, .slice Xt mt xt]) := Lib.hid (by rw [hv2, hc2]; exact Blk.new _ _ _)
 have HV12 : Hid (Below v1.heap.size v1 v2) := Lib.hid (hv2 ▸ (Below.refl _ _).alloc (Nat.le_refl _) _)
 rw [← hv2, ← hc2]
 clear hv2 hc2
 have HV2 : Hid (Below w.heap.size w v2) := Lib.hid (HV1.out.trans (HV12.out.mono HV1.out.size))
 have HXS2 := Lib.hid ((HXS.out.below HV12.out).more HV12.out.size)
 have HXL2 := Lib.hid ((HXL.out.below HV12.out).more HV12.out.size)
 have q0 := (HC2.out.cell 0).trans (show _ = some (Value.int .i64 d0) from rfl)
 have q1 := (HC2.out.cell 1).trans (show _ = some (Value.int .i64 d1) from rfl)
 have q2 := (HC2.out.cell 2).trans (show _ = some (Value.int .i64 d2) from rfl)
 have q3 := (HC2.out.cell 3).trans (show _ = some (Value.int .i64 d3) from rfl)
 have q4 := (HC2.out.cell 4).trans (show _ = some (Value.bool d4) from rfl)
 have q5 := (HC2.out.cell 5).trans (show _ = some (Value.int .i64 d5) from rfl)
 have q6 := (HC2.out.cell 6).trans (show _ = some (Value.slice Xr mr xr) from rfl)
 have q7 := (HC2.out.cell 7).trans (show _ = some (Value.slice Xp mp xp) from rfl)
 have q8 := (HC2.out.cell 8).trans (show _ = some (Value.slice Xt mt xt) from rfl)
 have ql := HC2.out.lt
 go_upto_region 13 with fail
 go_upto_region 14 with (go_at_call 13; refine (HPX.out v2 _ _ _ _ HV2.out HXS2.out HXL2.out).mono ?_; rintro e v3 ⟨rfl, hb⟩; have HV23 := Lib.hid hb; clear hb)
 clear q0 q1 q2 q3 q4 q5 q6 q7 q8 ql
 have HV3 : Hid (Below w.heap.size w v3) := Lib.hid (HV2.out.trans (HV23.out.mono HV2.out.size))
 go_upto_region 16 with fail
 go_upto_region 17 with (go_at_call 9; refine (HPY.out v3 HV3.out).mono ?_; rintro e v4 ⟨hb, Yr, yr, Yp, yp, Yt, yt, Yl, yl, rfl, hs, hl⟩; have HV34 := Lib.hid hb; have HYS := Lib.hid hs; have HYL := Lib.hid hl; clear hb hs hl)
 obtain ⟨v5, hv5⟩ : ∃ W, W = v4.alloc (.cells #[.int .i64 d0, .int .i64 d1, .int .i64 d2, .int .i64 d3, .bool d4, .int .i64 d5, .slice Yr mr yr, .slice Yp mp yp, .slice Yt mt yt] 29) := ⟨_, rfl⟩
 obtain ⟨c5, hc5⟩ : ∃ b, b = v4.heap.size := ⟨_, rfl⟩
 have HC5 : Hid (Blk v5 c5 29 #[.int .i64 d0, .int .i64 d1, .int .i64 d2, .int .i64 d3, .bool d4, .int .i64 d5, .slice Yr mr yr, .slice Yp mp yp, .slice Yt mt yt]) := Lib.hid (by rw [hv5, hc5]; exact Blk.new _ _ _)
 have HV45 : Hid (Below v4.heap.size v4 v5) := Lib.hid (hv5 ▸ (Below.refl _ _).alloc (Nat.le_refl _) _)
 rw [← hv5, ← hc5]
 clear hv5 hc5
 have HV35 : Hid (Below v3.heap.size v3 v5) := Lib.hid (HV34.out.trans (HV45.out.mono HV34.out.size))
 have HV25 : Hid (Below v2.heap.size v2 v5) := Lib.hid (HV23.out.trans (HV35.out.mono HV23.out.size))
 have HV5 : Hid (Below w.heap.size w v5) := Lib.hid (HV2.out.trans (HV25.out.mono HV2.out.size))
 have HYS5 := Lib.hid ((HYS.out.below HV45.out).more HV45.out.size)
 have HYL5 := Lib.hid ((HYL.out.below HV45.out).more HV45.out.size)
 have HXS5 := Lib.hid ((HXS2.out.below HV25.out).more HV25.out.size)
 have HXL5 := Lib.hid ((HXL2.out.below HV25.out).more HV25.out.size)
 have HC25 := Lib.hid (HC2.out.below HV25.out HC2.out.lt)
 have p0 := (HC25.out.cell 0).trans (show _ = some (Value.int .i64 d0) from rfl)
 have p1 := (HC25.out.cell 1).trans (show _ = some (Value.int .i64 d1) from rfl)
 have p2 := (HC25.out.cell 2).trans (show _ = some (Value.int .i64 d2) from rfl)
 have p3 := (HC25.out.cell 3).trans (show _ = some (Value.int .i64 d3) from rfl)
 have p4 := (HC25.out.cell 4).trans (show _ = some (Value.bool d4) from rfl)
 have p5 := (HC25.out.cell 5).trans (show _ = some (Value.int .i64 d5) from rfl)
 have p6 := (HC25.out.cell 6).trans (show _ = some (Value.slice Xr mr xr) from rfl)
 have p7 := (HC25.out.cell 7).trans (show _ = some (Value.slice Xp mp xp) from rfl)
 have p8 := (HC25.out.cell 8).trans (show _ = some (Value.slice Xt mt xt) from rfl)
 have pl := HC25.out.lt
 have q0 := (HC5.out.cell 0).trans (show _ = some (Value.int .i64 d0) from rfl)
 have q1 := (HC5.out.cell 1).trans (show _ = some (Value.int .i64 d1) from rfl)
 have q2 := (HC5.out.cell 2).trans (show _ = some (Value.int .i64 d2) from rfl)
 have q3 := (HC5.out.cell 3).trans (show _ = some (Value.int .i64 d3) from rfl)
 have q4 := (HC5.out.cell 4).trans (show _ = some (Value.bool d4) from rfl)
 have q5 := (HC5.out.cell 5).trans (show _ = some (Value.int .i64 d5) from rfl)
 have q6 := (HC5.out.cell 6).trans (show _ = some (Value.slice Yr mr yr) from rfl)
 have q7 := (HC5.out.cell 7).trans (show _ = some (Value.slice Yp mp yp) from rfl)
 have q8 := (HC5.out.cell 8).trans (show _ = some (Value.slice Yt mt yt) from rfl)
 have ql := HC5.out.lt
 go_upto_region 18 with (go_at_call 11; refine (HXX.out v5 v5.heap.size _ _ _ _ _ _ (Nat.le_refl _) HYS5.out HXS5.out).mono ?_; rintro e v6 ⟨rfl, hb⟩; have HV56 := Lib.hid hb; clear hb)
 clear p0 p1 p2 p3 p4 p5 p6 p7 p8 pl q0 q1 q2 q3 q4 q5 q6 q7 q8 ql
 have HYL6 := Lib.hid ((HYL5.out.below HV56.out).more HV56.out.size)
 have HXL6 := Lib.hid ((HXL5.out.below HV56.out).more HV56.out.size)
 go_upto_region 19 with (go_at_call 12; refine (lines_same ly v6.heap.size _ _ v6 (Nat.le_refl _) HYL6.out HXL6.out).mono ?_; rintro e v7 ⟨rfl, m7, hw7⟩; have HV67 : Hid (Below v6.heap.size v6 v7) := Lib.hid (hw7 ▸ below_drewN (Below.refl _ _) m7); clear hw7)
 go_wp2
 go_ret
 have h57 : Below v5.heap.size v5 v7 := HV56.out.trans (HV67.out.mono HV56.out.size)
 exact ⟨rfl, HV5.out.trans (h57.mono HV5.out.size)⟩
set_option maxHeartbeats 4000000 in
theorem back_BE {C : Nat} (s : RSet) (l : List RLine) (n : Int) (t : ByteArray) (rv pv tv lv : Value) (w : World) (hE : EnvP C w) (hS : RSetRd w w.heap.size s rv pv tv) (hL : RLinesRd w w.heap.size l lv) (hn : n = 1 ∨ n = 2) (hPN : PrintAt s l (noE n)) (y1 y2 : Nat) (hy1 : y1 ≠ 0) (hy2 : y2 ≤ t.size) (hT : NoAt w t y1 y2) :
  Calls Tryz.prog 5 #[.agg (setupC s.cfg rv pv tv), lv, .string t] w fun e w' => e = .returned (.bool true) ∧ Below w.heap.size w w' := by
 have HPT := Lib.hid hT
 unfold NoAt at HPT
 have e1 : ((y1 : Int) != 0) = true := by simp; omega
 have e2 : decide (y1 = 0) = false := decide_eq_false (by omega)
 have e3 : (y1 == 0) = false := by simp; omega
 have e4 : decide ((0 : Int) ≤ (y2 : Int)) = true := decide_eq_true (by omega)
 have e5 : decide ((y2 : Int) ≤ (t.size : Int)) = true := decide_eq_true (by omega)
 have e6 : decide (y2 ≤ t.size) = true := decide_eq_true hy2
 clear hT hy1 hy2
 obtain ⟨⟨a0, a1, a2, a3, a4, a5⟩, hcf⟩ : ∃ c, c = s.cfg := ⟨_, rfl⟩
 obtain ⟨Rr, nr, cr, Rp, np, cp, Rt, nt, ct, rfl, rfl, rfl⟩ := rset_shape hS
 obtain ⟨Rl, nl, cl, rfl⟩ : ∃ R n c, lv = .slice R n c := by obtain ⟨_, R, c, _, h, _⟩ := hL; exact ⟨R, _, c, h⟩
 have HPR := Lib.hid (fun W (hW : Below w.heap.size w W) => hPN C W.heap.size _ _ _ _ W (Nat.le_refl _) ((hS.below hW).more hW.size) ((hL.below hW).more hW.size) (hE.later hW).env)
 unfold noE at HPR
 rw [← hcf] at HPR ⊢
 simp only [setupC] at HPR ⊢
 have n1 : (n == 0) = false := by rcases hn with rfl | rfl <;> rfl
 have n2 : decide (n = 0) = false := by rcases hn with rfl | rfl <;> rfl
 obtain ⟨w1, hw1⟩ : ∃ w1, w1 = w.alloc (.cells #[.int .i64 a0, .int .i64 a1, .int .i64 a2, .int .i64 a3, .bool a4, .int .i64 a5, .slice Rr nr cr, .slice Rp np cp, .slice Rt nt ct] 29) := ⟨_, rfl⟩
 obtain ⟨b1, hb1⟩ : ∃ b1, b1 = w.heap.size := ⟨_, rfl⟩
 have HK1 : Hid (Blk w1 b1 29 #[.int .i64 a0, .int .i64 a1, .int .i64 a2, .int .i64 a3, .bool a4, .int .i64 a5, .slice Rr nr cr, .slice Rp np cp, .slice Rt nt ct]) := Lib.hid (by rw [hw1, hb1]; exact Blk.new _ _ _)
 have HB1 : Hid (Below w.heap.size w w1) := Lib.hid (hw1 ▸ (Below.refl _ _).alloc (Nat.le_refl _) _)
 have HSH := Lib.hid (shown_any w1 (hE.later HB1.out))
 clear hcf hS hL hPN hE hn
 go_enter Tryz.func5, Tryz.ntmps5
 go_upto_region 1 with fail
 rw [← hw1, ← hb1]
 clear hw1 hb1
 go_upto_region 2 with (go_at_call 8; refine (HSH.out).mono ?_; rintro e w2 ⟨rfl, hb2⟩; have HB12 := Lib.hid hb2; clear hb2)
 have HB2 : Hid (Below w.heap.size w w2) := Lib.hid (HB1.out.trans (HB12.out.mono HB1.out.size))
 have HKA := Lib.hid (HK1.out.below HB12.out HK1.out.lt)
 have p0 := (HKA.out.cell 0).trans (show _ = some (Value.int .i64 a0) from rfl)
 have p1 := (HKA.out.cell 1).trans (show _ = some (Value.int .i64 a1) from rfl)
 have p2 := (HKA.out.cell 2).trans (show _ = some (Value.int .i64 a2) from rfl)
 have p3 := (HKA.out.cell 3).trans (show _ = some (Value.int .i64 a3) from rfl)
 have p4 := (HKA.out.cell 4).trans (show _ = some (Value.bool a4) from rfl)
 have p5 := (HKA.out.cell 5).trans (show _ = some (Value.int .i64 a5) from rfl)
 have p6 := (HKA.out.cell 6).trans (show _ = some (Value.slice Rr nr cr) from rfl)
 have p7 := (HKA.out.cell 7).trans (show _ = some (Value.slice Rp np cp) from rfl)
 have p8 := (HKA.out.cell 8).trans (show _ = some (Value.slice Rt nt ct) from rfl)
 have pl := HKA.out.lt
 go_upto_region 3 with (go_at_call 13; refine (HPR.out w2 HB2.out).mono ?_; rintro e w9 ⟨rfl, hb9⟩; have HB9 : Hid (Below w.heap.size w w9) := Lib.hid (HB2.out.trans (hb9.mono HB2.out.size)); clear hb9)
 clear p0 p1 p2 p3 p4 p5 p6 p7 p8 pl
 go_upto_region 10 with fail
 clear n1 n2
 go_upto_region 11 with (go_at_call 9; refine (HPT.out w9 HB9.out).mono ?_; rintro e v1 ⟨hb, rfl⟩; have HV1 : Hid (Below w.heap.size w v1) := Lib.hid (HB9.out.trans (hb.mono HB9.out.size)); clear hb)
 obtain ⟨v2, hv2⟩ : ∃ W, W = v1.alloc (.cells #[.int .i64 0, .int .i64 0, .int .i64 0, .int .i64 0, .bool false, .int .i64 0, .slice none 0 0, .slice none 0 0, .slice none 0 0] 29) := ⟨_, rfl⟩
 obtain ⟨c2, hc2⟩ : ∃ b, b = v1.heap.size := ⟨_, rfl⟩
 have HC2 : Hid (Blk v2 c2 29 #[.int .i64 0, .int .i64 0, .int .i64 0, .int .i64 0, .bool false, .int .i64 0, .slice none 0 0, .slice none 0 0, .slice none 0 0]) := Lib.hid (by rw [hv2, hc2]; exact Blk.new _ _ _)
 have HV2 : Hid (Below w.heap.size w v2) := Lib.hid (hv2 ▸ HV1.out.alloc HV1.out.size _)
 rw [← hv2, ← hc2]
 clear hv2 hc2
 have q7 := (HC2.out.cell 7).trans (show _ = some (Value.slice none 0 0) from rfl)
 have ql := HC2.out.lt
 go_wp2
 go_ret
 exact ⟨rfl, HV2.out⟩
set_option maxHeartbeats 4000000 in
theorem back_BF {C : Nat} (s : RSet) (l : List RLine) (n : Int) (t : ByteArray) (rv pv tv lv : Value) (w : World) (hE : EnvP C w) (hS : RSetRd w w.heap.size s rv pv tv) (hL : RLinesRd w w.heap.size l lv) (hn : n = 1 ∨ n = 2) (hPN : PrintAt s l (noE n)) (x : PSet) (ly : List PLine) (hR : ReadsAt w t x ly) (hX : FullA w x ly) :
  Calls Tryz.prog 5 #[.agg (setupC s.cfg rv pv tv), lv, .string t] w fun e w' => e = .returned (.bool true) ∧ Below w.heap.size w w' := by
 obtain ⟨⟨d0, d1, d2, d3, d4, d5⟩, hdf⟩ : ∃ c, c = x.cfg := ⟨_, rfl⟩
 obtain ⟨mr, hmr⟩ : ∃ n, n = x.regs.length := ⟨_, rfl⟩
 obtain ⟨mp, hmp⟩ : ∃ n, n = x.progs.length := ⟨_, rfl⟩
 obtain ⟨mt, hmt⟩ : ∃ n, n = x.thr.length := ⟨_, rfl⟩
 obtain ⟨ml, hml⟩ : ∃ n, n = ly.length := ⟨_, rfl⟩
 have HPT := Lib.hid hR
 have HPX := Lib.hid hX
 unfold ReadsAt at HPT
 rw [← hdf, ← hmr, ← hmp, ← hmt, ← hml] at HPT
 unfold FullA at HPX
 rw [← hdf] at HPX
 simp only [setupC] at HPT HPX
 clear hR hX hdf hmr hmp hmt hml
 obtain ⟨⟨a0, a1, a2, a3, a4, a5⟩, hcf⟩ : ∃ c, c = s.cfg := ⟨_, rfl⟩
 obtain ⟨Rr, nr, cr, Rp, np, cp, Rt, nt, ct, rfl, rfl, rfl⟩ := rset_shape hS
 obtain ⟨Rl, nl, cl, rfl⟩ : ∃ R n c, lv = .slice R n c := by obtain ⟨_, R, c, _, h, _⟩ := hL; exact ⟨R, _, c, h⟩
 have HPR := Lib.hid (fun W (hW : Below w.heap.size w W) => hPN C W.heap.size _ _ _ _ W (Nat.le_refl _) ((hS.below hW).more hW.size) ((hL.below hW).more hW.size) (hE.later hW).env)
 unfold noE at HPR
 rw [← hcf] at HPR ⊢
 simp only [setupC] at HPR ⊢
 have n1 : (n == 0) = false := by rcases hn with rfl | rfl <;> rfl
 have n2 : decide (n = 0) = false := by rcases hn with rfl | rfl <;> rfl
 obtain ⟨w1, hw1⟩ : ∃ w1, w1 = w.alloc (.cells #[.int .i64 a0, .int .i64 a1, .int .i64 a2, .int .i64 a3, .bool a4, .int .i64 a5, .slice Rr nr cr, .slice Rp np cp, .slice Rt nt ct] 29) := ⟨_, rfl⟩
 obtain ⟨b1, hb1⟩ : ∃ b1, b1 = w.heap.size := ⟨_, rfl⟩
 have HK1 : Hid (Blk w1 b1 29 #[.int .i64 a0, .int .i64 a1, .int .i64 a2, .int .i64 a3, .bool a4, .int .i64 a5, .slice Rr nr cr, .slice Rp np cp, .slice Rt nt ct]) := Lib.hid (by rw [hw1, hb1]; exact Blk.new _ _ _)
 have HB1 : Hid (Below w.heap.size w w1) := Lib.hid (hw1 ▸ (Below.refl _ _).alloc (Nat.le_refl _) _)
 have HSH := Lib.hid (shown_any w1 (hE.later HB1.out))
 clear hcf hS hL hPN hE hn
 go_enter Tryz.func5, Tryz.ntmps5
 go_upto_region 1 with fail
 rw [← hw1, ← hb1]
 clear hw1 hb1
 go_upto_region 2 with (go_at_call 8; refine (HSH.out).mono ?_; rintro e w2 ⟨rfl, hb2⟩; have HB12 := Lib.hid hb2; clear hb2)
 have HB2 : Hid (Below w.heap.size w w2) := Lib.hid (HB1.out.trans (HB12.out.mono HB1.out.size))
 have HKA := Lib.hid (HK1.out.below HB12.out HK1.out.lt)
 have p0 := (HKA.out.cell 0).trans (show _ = some (Value.int .i64 a0) from rfl)
 have p1 := (HKA.out.cell 1).trans (show _ = some (Value.int .i64 a1) from rfl)
 have p2 := (HKA.out.cell 2).trans (show _ = some (Value.int .i64 a2) from rfl)
 have p3 := (HKA.out.cell 3).trans (show _ = some (Value.int .i64 a3) from rfl)
 have p4 := (HKA.out.cell 4).trans (show _ = some (Value.bool a4) from rfl)
 have p5 := (HKA.out.cell 5).trans (show _ = some (Value.int .i64 a5) from rfl)
 have p6 := (HKA.out.cell 6).trans (show _ = some (Value.slice Rr nr cr) from rfl)
 have p7 := (HKA.out.cell 7).trans (show _ = some (Value.slice Rp np cp) from rfl)
 have p8 := (HKA.out.cell 8).trans (show _ = some (Value.slice Rt nt ct) from rfl)
 have pl := HKA.out.lt
 go_upto_region 3 with (go_at_call 13; refine (HPR.out w2 HB2.out).mono ?_; rintro e w9 ⟨rfl, hb9⟩; have HB9 : Hid (Below w.heap.size w w9) := Lib.hid (HB2.out.trans (hb9.mono HB2.out.size)); clear hb9)
 clear p0 p1 p2 p3 p4 p5 p6 p7 p8 pl
 go_upto_region 10 with fail
 clear n1 n2
 go_upto_region 11 with (go_at_call 9; refine (HPT.out w9 HB9.out).mono ?_; rintro e v1 ⟨hb, Xr, xr, Xp, xp, Xt, xt, Xl, xl, rfl, hs, hl⟩; have HV1 : Hid (Below w.heap.size w v1) := Lib.hid (HB9.out.trans (hb.mono HB9.out.size)); have HXS := Lib.hid hs; have HXL := Lib.hid hl; clear hb hs hl)
 obtain ⟨v2, hv2⟩ : ∃ W, W = v1.alloc (.cells #[.int .i64 d0, .int .i64 d1, .int .i64 d2, .int .i64 d3, .bool d4, .int .i64 d5, .slice Xr mr xr, .slice Xp mp xp, .slice Xt mt xt] 29) := ⟨_, rfl⟩
 obtain ⟨c2, hc2⟩ : ∃ b, b = v1.heap.size := ⟨_, rfl⟩
 have HC2 : Hid (Blk v2 c2 29 #[.int .i64 d0, .int .i64 d1, .int .i64 d2, .int .i64 d3, .bool d4, .int .i64 d5, .slice Xr mr xr, .slice Xp mp xp, .slice Xt mt xt]) := Lib.hid (by rw [hv2, hc2]; exact Blk.new _ _ _)
 have HV12 : Hid (Below v1.heap.size v1 v2) := Lib.hid (hv2 ▸ (Below.refl _ _).alloc (Nat.le_refl _) _)
 rw [← hv2, ← hc2]
 clear hv2 hc2
 have HV2 : Hid (Below w.heap.size w v2) := Lib.hid (HV1.out.trans (HV12.out.mono HV1.out.size))
 have HXS2 := Lib.hid ((HXS.out.below HV12.out).more HV12.out.size)
 have HXL2 := Lib.hid ((HXL.out.below HV12.out).more HV12.out.size)
 have q0 := (HC2.out.cell 0).trans (show _ = some (Value.int .i64 d0) from rfl)
 have q1 := (HC2.out.cell 1).trans (show _ = some (Value.int .i64 d1) from rfl)
 have q2 := (HC2.out.cell 2).trans (show _ = some (Value.int .i64 d2) from rfl)
 have q3 := (HC2.out.cell 3).trans (show _ = some (Value.int .i64 d3) from rfl)
 have q4 := (HC2.out.cell 4).trans (show _ = some (Value.bool d4) from rfl)
 have q5 := (HC2.out.cell 5).trans (show _ = some (Value.int .i64 d5) from rfl)
 have q6 := (HC2.out.cell 6).trans (show _ = some (Value.slice Xr mr xr) from rfl)
 have q7 := (HC2.out.cell 7).trans (show _ = some (Value.slice Xp mp xp) from rfl)
 have q8 := (HC2.out.cell 8).trans (show _ = some (Value.slice Xt mt xt) from rfl)
 have ql := HC2.out.lt
 go_upto_region 13 with fail
 go_upto_region 14 with (go_at_call 13; refine (HPX.out v2 _ _ _ _ HV2.out HXS2.out HXL2.out).mono ?_; rintro e v3 ⟨rfl, hb⟩; have HV23 := Lib.hid hb; clear hb)
 clear q0 q1 q2 q3 q4 q5 q6 q7 q8 ql
 have HV3 : Hid (Below w.heap.size w v3) := Lib.hid (HV2.out.trans (HV23.out.mono HV2.out.size))
 go_wp2
 go_ret
 exact ⟨rfl, HV3.out⟩
set_option maxHeartbeats 4000000 in
theorem back_BO {C : Nat} (s : RSet) (l : List RLine) (n : Int) (t : ByteArray) (rv pv tv lv : Value) (w : World) (hE : EnvP C w) (hS : RSetRd w w.heap.size s rv pv tv) (hL : RLinesRd w w.heap.size l lv) (hn : n = 1 ∨ n = 2) (hPN : PrintAt s l (noE n)) (x : PSet) (ly : List PLine) (ty : ByteArray) (hR : ReadsAt w t x ly) (hX : HalfA w ty x ly) :
  Calls Tryz.prog 5 #[.agg (setupC s.cfg rv pv tv), lv, .string t] w fun e w' => e = .returned (.bool true) ∧ Below w.heap.size w w' := by
 obtain ⟨⟨d0, d1, d2, d3, d4, d5⟩, hdf⟩ : ∃ c, c = x.cfg := ⟨_, rfl⟩
 obtain ⟨mr, hmr⟩ : ∃ n, n = x.regs.length := ⟨_, rfl⟩
 obtain ⟨mp, hmp⟩ : ∃ n, n = x.progs.length := ⟨_, rfl⟩
 obtain ⟨mt, hmt⟩ : ∃ n, n = x.thr.length := ⟨_, rfl⟩
 obtain ⟨ml, hml⟩ : ∃ n, n = ly.length := ⟨_, rfl⟩
 have HPT := Lib.hid hR
 have HPX := Lib.hid hX.2
 have HPY := Lib.hid hX.1
 unfold ReadsAt at HPT
 rw [← hdf, ← hmr, ← hmp, ← hmt, ← hml] at HPT
 unfold ReadsAt at HPY
 rw [← hdf, ← hmr, ← hmp, ← hmt, ← hml] at HPY
 rw [← hdf] at HPX
 simp only [setupC] at HPT HPX HPY
 have HXX : Hid (∀ W C v1 v2 v3 v1' v2' v3', C ≤ W.heap.size → SetRd W C x v1 v2 v3 → SetRd W C x v1' v2' v3' → Calls Tryz.prog 11 #[.agg #[.int .i64 d0, .int .i64 d1, .int .i64 d2, .int .i64 d3, .bool d4, .int .i64 d5, v1, v2, v3], .agg #[.int .i64 d0, .int .i64 d1, .int .i64 d2, .int .i64 d3, .bool d4, .int .i64 d5, v1', v2', v3']] W fun e w' => e = .returned (.bool true) ∧ Below W.heap.size W w') := Lib.hid fun W C v1 v2 v3 v1' v2' v3' h1 h2 h3 => setups_same ⟨d0, d1, d2, d3, d4, d5⟩ x C v1 v2 v3 v1' v2' v3' W h1 h2 h3
 clear hR hX hdf hmr hmp hmt hml
 obtain ⟨⟨a0, a1, a2, a3, a4, a5⟩, hcf⟩ : ∃ c, c = s.cfg := ⟨_, rfl⟩
 obtain ⟨Rr, nr, cr, Rp, np, cp, Rt, nt, ct, rfl, rfl, rfl⟩ := rset_shape hS
 obtain ⟨Rl, nl, cl, rfl⟩ : ∃ R n c, lv = .slice R n c := by obtain ⟨_, R, c, _, h, _⟩ := hL; exact ⟨R, _, c, h⟩
 have HPR := Lib.hid (fun W (hW : Below w.heap.size w W) => hPN C W.heap.size _ _ _ _ W (Nat.le_refl _) ((hS.below hW).more hW.size) ((hL.below hW).more hW.size) (hE.later hW).env)
 unfold noE at HPR
 rw [← hcf] at HPR ⊢
 simp only [setupC] at HPR ⊢
 have n1 : (n == 0) = false := by rcases hn with rfl | rfl <;> rfl
 have n2 : decide (n = 0) = false := by rcases hn with rfl | rfl <;> rfl
 obtain ⟨w1, hw1⟩ : ∃ w1, w1 = w.alloc (.cells #[.int .i64 a0, .int .i64 a1, .int .i64 a2, .int .i64 a3, .bool a4, .int .i64 a5, .slice Rr nr cr, .slice Rp np cp, .slice Rt nt ct] 29) := ⟨_, rfl⟩
 obtain ⟨b1, hb1⟩ : ∃ b1, b1 = w.heap.size := ⟨_, rfl⟩
 have HK1 : Hid (Blk w1 b1 29 #[.int .i64 a0, .int .i64 a1, .int .i64 a2, .int .i64 a3, .bool a4, .int .i64 a5, .slice Rr nr cr, .slice Rp np cp, .slice Rt nt ct]) := Lib.hid (by rw [hw1, hb1]; exact Blk.new _ _ _)
 have HB1 : Hid (Below w.heap.size w w1) := Lib.hid (hw1 ▸ (Below.refl _ _).alloc (Nat.le_refl _) _)
 have HSH := Lib.hid (shown_any w1 (hE.later HB1.out))
 clear hcf hS hL hPN hE hn
 go_enter Tryz.func5, Tryz.ntmps5
 go_upto_region 1 with fail
 rw [← hw1, ← hb1]
 clear hw1 hb1
 go_upto_region 2 with (go_at_call 8; refine (HSH.out).mono ?_; rintro e w2 ⟨rfl, hb2⟩; have HB12 := Lib.hid hb2; clear hb2)
 have HB2 : Hid (Below w.heap.size w w2) := Lib.hid (HB1.out.trans (HB12.out.mono HB1.out.size))
 have HKA := Lib.hid (HK1.out.below HB12.out HK1.out.lt)
 have p0 := (HKA.out.cell 0).trans (show _ = some (Value.int .i64 a0) from rfl)
 have p1 := (HKA.out.cell 1).trans (show _ = some (Value.int .i64 a1) from rfl)
 have p2 := (HKA.out.cell 2).trans (show _ = some (Value.int .i64 a2) from rfl)
 have p3 := (HKA.out.cell 3).trans (show _ = some (Value.int .i64 a3) from rfl)
 have p4 := (HKA.out.cell 4).trans (show _ = some (Value.bool a4) from rfl)
 have p5 := (HKA.out.cell 5).trans (show _ = some (Value.int .i64 a5) from rfl)
 have p6 := (HKA.out.cell 6).trans (show _ = some (Value.slice Rr nr cr) from rfl)
 have p7 := (HKA.out.cell 7).trans (show _ = some (Value.slice Rp np cp) from rfl)
 have p8 := (HKA.out.cell 8).trans (show _ = some (Value.slice Rt nt ct) from rfl)
 have pl := HKA.out.lt
 go_upto_region 3 with (go_at_call 13; refine (HPR.out w2 HB2.out).mono ?_; rintro e w9 ⟨rfl, hb9⟩; have HB9 : Hid (Below w.heap.size w w9) := Lib.hid (HB2.out.trans (hb9.mono HB2.out.size)); clear hb9)
 clear p0 p1 p2 p3 p4 p5 p6 p7 p8 pl
 go_upto_region 10 with fail
 clear n1 n2
 go_upto_region 11 with (go_at_call 9; refine (HPT.out w9 HB9.out).mono ?_; rintro e v1 ⟨hb, Xr, xr, Xp, xp, Xt, xt, Xl, xl, rfl, hs, hl⟩; have HV1 : Hid (Below w.heap.size w v1) := Lib.hid (HB9.out.trans (hb.mono HB9.out.size)); have HXS := Lib.hid hs; have HXL := Lib.hid hl; clear hb hs hl)
 obtain ⟨v2, hv2⟩ : ∃ W, W = v1.alloc (.cells #[.int .i64 d0, .int .i64 d1, .int .i64 d2, .int .i64 d3, .bool d4, .int .i64 d5, .slice Xr mr xr, .slice Xp mp xp, .slice Xt mt xt] 29) := ⟨_, rfl⟩
 obtain ⟨c2, hc2⟩ : ∃ b, b = v1.heap.size := ⟨_, rfl⟩
 have HC2 : Hid (Blk v2 c2 29 #[.int .i64 d0, .int .i64 d1, .int .i64 d2, .int .i64 d3, .bool d4, .int .i64 d5, .slice Xr mr xr, .slice Xp mp xp, .slice Xt mt xt]) := Lib.hid (by rw [hv2, hc2]; exact Blk.new _ _ _)
 have HV12 : Hid (Below v1.heap.size v1 v2) := Lib.hid (hv2 ▸ (Below.refl _ _).alloc (Nat.le_refl _) _)
 rw [← hv2, ← hc2]
 clear hv2 hc2
 have HV2 : Hid (Below w.heap.size w v2) := Lib.hid (HV1.out.trans (HV12.out.mono HV1.out.size))
 have HXS2 := Lib.hid ((HXS.out.below HV12.out).more HV12.out.size)
 have HXL2 := Lib.hid ((HXL.out.below HV12.out).more HV12.out.size)
 have q0 := (HC2.out.cell 0).trans (show _ = some (Value.int .i64 d0) from rfl)
 have q1 := (HC2.out.cell 1).trans (show _ = some (Value.int .i64 d1) from rfl)
 have q2 := (HC2.out.cell 2).trans (show _ = some (Value.int .i64 d2) from rfl)
 have q3 := (HC2.out.cell 3).trans (show _ = some (Value.int .i64 d3) from rfl)
 have q4 := (HC2.out.cell 4).trans (show _ = some (Value.bool d4) from rfl)
 have q5 := (HC2.out.cell 5).trans (show _ = some (Value.int .i64 d5) from rfl)
 have q6 := (HC2.out.cell 6).trans (show _ = some (Value.slice Xr mr xr) from rfl)
 have q7 := (HC2.out.cell 7).trans (show _ = some (Value.slice Xp mp xp) from rfl)
 have q8 := (HC2.out.cell 8).trans (show _ = some (Value.slice Xt mt xt) from rfl)
 have ql := HC2.out.lt
 go_upto_region 13 with fail
 go_upto_region 14 with (go_at_call 13; refine (HPX.out v2 _ _ _ _ HV2.out HXS2.out HXL2.out).mono ?_; rintro e v3 ⟨rfl, hb⟩; have HV23 := Lib.hid hb; clear hb)
 clear q0 q1 q2 q3 q4 q5 q6 q7 q8 ql
 have HV3 : Hid (Below w.heap.size w v3) := Lib.hid (HV2.out.trans (HV23.out.mono HV2.out.size))
 go_upto_region 16 with fail
 go_upto_region 17 with (go_at_call 9; refine (HPY.out v3 HV3.out).mono ?_; rintro e v4 ⟨hb, Yr, yr, Yp, yp, Yt, yt, Yl, yl, rfl, hs, hl⟩; have HV34 := Lib.hid hb; have HYS := Lib.hid hs; have HYL := Lib.hid hl; clear hb hs hl)
 obtain ⟨v5, hv5⟩ : ∃ W, W = v4.alloc (.cells #[.int .i64 d0, .int .i64 d1, .int .i64 d2, .int .i64 d3, .bool d4, .int .i64 d5, .slice Yr mr yr, .slice Yp mp yp, .slice Yt mt yt] 29) := ⟨_, rfl⟩
 obtain ⟨c5, hc5⟩ : ∃ b, b = v4.heap.size := ⟨_, rfl⟩
 have HC5 : Hid (Blk v5 c5 29 #[.int .i64 d0, .int .i64 d1, .int .i64 d2, .int .i64 d3, .bool d4, .int .i64 d5, .slice Yr mr yr, .slice Yp mp yp, .slice Yt mt yt]) := Lib.hid (by rw [hv5, hc5]; exact Blk.new _ _ _)
 have HV45 : Hid (Below v4.heap.size v4 v5) := Lib.hid (hv5 ▸ (Below.refl _ _).alloc (Nat.le_refl _) _)
 rw [← hv5, ← hc5]
 clear hv5 hc5
 have HV35 : Hid (Below v3.heap.size v3 v5) := Lib.hid (HV34.out.trans (HV45.out.mono HV34.out.size))
 have HV25 : Hid (Below v2.heap.size v2 v5) := Lib.hid (HV23.out.trans (HV35.out.mono HV23.out.size))
 have HV5 : Hid (Below w.heap.size w v5) := Lib.hid (HV2.out.trans (HV25.out.mono HV2.out.size))
 have HYS5 := Lib.hid ((HYS.out.below HV45.out).more HV45.out.size)
 have HYL5 := Lib.hid ((HYL.out.below HV45.out).more HV45.out.size)
 have HXS5 := Lib.hid ((HXS2.out.below HV25.out).more HV25.out.size)
 have HXL5 := Lib.hid ((HXL2.out.below HV25.out).more HV25.out.size)
 have HC25 := Lib.hid (HC2.out.below HV25.out HC2.out.lt)
 have p0 := (HC25.out.cell 0).trans (show _ = some (Value.int .i64 d0) from rfl)
 have p1 := (HC25.out.cell 1).trans (show _ = some (Value.int .i64 d1) from rfl)
 have p2 := (HC25.out.cell 2).trans (show _ = some (Value.int .i64 d2) from rfl)
 have p3 := (HC25.out.cell 3).trans (show _ = some (Value.int .i64 d3) from rfl)
 have p4 := (HC25.out.cell 4).trans (show _ = some (Value.bool d4) from rfl)
 have p5 := (HC25.out.cell 5).trans (show _ = some (Value.int .i64 d5) from rfl)
 have p6 := (HC25.out.cell 6).trans (show _ = some (Value.slice Xr mr xr) from rfl)
 have p7 := (HC25.out.cell 7).trans (show _ = some (Value.slice Xp mp xp) from rfl)
 have p8 := (HC25.out.cell 8).trans (show _ = some (Value.slice Xt mt xt) from rfl)
 have pl := HC25.out.lt
 have q0 := (HC5.out.cell 0).trans (show _ = some (Value.int .i64 d0) from rfl)
 have q1 := (HC5.out.cell 1).trans (show _ = some (Value.int .i64 d1) from rfl)
 have q2 := (HC5.out.cell 2).trans (show _ = some (Value.int .i64 d2) from rfl)
 have q3 := (HC5.out.cell 3).trans (show _ = some (Value.int .i64 d3) from rfl)
 have q4 := (HC5.out.cell 4).trans (show _ = some (Value.bool d4) from rfl)
 have q5 := (HC5.out.cell 5).trans (show _ = some (Value.int .i64 d5) from rfl)
 have q6 := (HC5.out.cell 6).trans (show _ = some (Value.slice Yr mr yr) from rfl)
 have q7 := (HC5.out.cell 7).trans (show _ = some (Value.slice Yp mp yp) from rfl)
 have q8 := (HC5.out.cell 8).trans (show _ = some (Value.slice Yt mt yt) from rfl)
 have ql := HC5.out.lt
 go_upto_region 18 with (go_at_call 11; refine (HXX.out v5 v5.heap.size _ _ _ _ _ _ (Nat.le_refl _) HYS5.out HXS5.out).mono ?_; rintro e v6 ⟨rfl, hb⟩; have HV56 := Lib.hid hb; clear hb)
 clear p0 p1 p2 p3 p4 p5 p6 p7 p8 pl q0 q1 q2 q3 q4 q5 q6 q7 q8 ql
 have HYL6 := Lib.hid ((HYL5.out.below HV56.out).more HV56.out.size)
 have HXL6 := Lib.hid ((HXL5.out.below HV56.out).more HV56.out.size)
 go_upto_region 19 with (go_at_call 12; refine (lines_same ly v6.heap.size _ _ v6 (Nat.le_refl _) HYL6.out HXL6.out).mono ?_; rintro e v7 ⟨rfl, m7, hw7⟩; have HV67 : Hid (Below v6.heap.size v6 v7) := Lib.hid (hw7 ▸ below_drewN (Below.refl _ _) m7); clear hw7)
 go_wp2
 go_ret
 have h57 : Below v5.heap.size v5 v7 := HV56.out.trans (HV67.out.mono HV56.out.size)
 exact ⟨rfl, HV5.out.trans (h57.mono HV5.out.size)⟩
theorem law_back {C : Nat} (s : RSet) (l : List RLine) (t : ByteArray) (rv pv tv lv : Value) (w : World) (hE : EnvP C w) (hS : RSetRd w w.heap.size s rv pv tv) (hL : RLinesRd w w.heap.size l lv) (hm : manyR l ≤ 9223372036854775807) (hln : l.length ≤ 1000000000000) (hpl : ∀ p ∈ s.progs, p.length ≤ 4611686018427387904) (h64 : ∀ t ∈ s.thr, ∀ j ∈ t, ∀ v ∈ j.prog :: j.args, i64ok v) :
  Calls Tryz.prog 5 #[.agg (setupC s.cfg rv pv tv), lv, .string t] w fun e w' => e = .returned (.bool true) ∧ Below w.heap.size w w' := by
 rcases sprint_two hm hln hpl h64 with ⟨sx, ps, lx, rfl, rfl, hok, h65, _⟩ | ⟨n, hn, hPN⟩
 ·rw [List.length_map] at hln
  have hH := half_ok hE hok hln h65
  rcases back_tail hE t with ⟨y1, y2, h1, h2, hT⟩ | ⟨x, ly, hR, ⟨ty, hO⟩ | hF⟩
  ·exact back_AE sx lx _ t rv pv tv lv w hE hS.back hL.back hH y1 y2 h1 h2 hT
  ·exact back_AO sx lx _ t rv pv tv lv w hE hS.back hL.back hH x ly ty hR hO
  ·exact back_AF sx lx _ t rv pv tv lv w hE hS.back hL.back hH x ly hR hF
 ·rcases back_tail hE t with ⟨y1, y2, h1, h2, hT⟩ | ⟨x, ly, hR, ⟨ty, hO⟩ | hF⟩
  ·exact back_BE s l n t rv pv tv lv w hE hS hL hn hPN y1 y2 h1 h2 hT
  ·exact back_BO s l n t rv pv tv lv w hE hS hL hn hPN x ly ty hR hO
  ·exact back_BF s l n t rv pv tv lv w hE hS hL hn hPN x ly hR hF
theorem ref_ok {s : PSet} {ps : List (List AOp)} {l : List PLine} (h : SetOk s ps l) : refOk s.raw := ⟨(PSet.may h).1, fun p hp => by
 have hp : p ∈ s.progs := hp
 rw [h.progs] at hp
 obtain ⟨L, hL, rfl⟩ := List.mem_map.1 hp
 rw [bytesOf_size]
 exact (h.enc L hL).2⟩
theorem steps_take (l : List PLine) (i : Nat) (x : PLine) (h : l[i]? = some x) : stepsN (l.take (i + 1)) = stepsN (l.take i) + x.thr.length := by
 unfold stepsN
 rw [List.take_add_one, h]
 simp
theorem steps_le (l : List PLine) (i : Nat) : stepsN (l.take i) ≤ stepsN l := by
 unfold stepsN
 have h : (l.map fun x => x.thr.length).sum = ((l.take i).map fun x => x.thr.length).sum + ((l.drop i).map fun x => x.thr.length).sum := by
  rw [← List.sum_append, ← List.map_append, List.take_append_drop]
 omega
set_option maxHeartbeats 4000000 in
theorem law_refuses {C : Nat} (s : ByteArray) (w : World) (hE : EnvP C w) : Calls Tryz.prog 6 #[.string s] w fun e w' => e = .returned (.bool true) ∧ Below w.heap.size w w' := by
 have HE := Lib.hid hE
 have HSH := Lib.hid (shown_any w hE)
 cases hp : parseS s.data.toList with
 | error y =>
  have h9 := parseS_err hp
  have HPP : Hid (∀ W, Below w.heap.size w W → Calls Tryz.prog 9 #[.string s] W fun e w' => Below W.heap.size W w' ∧ e = .returned (.tuple #[.agg (setupC noCfg nilC nilC nilC), nilC, .int .i64 y.1, .int .i64 y.2])) := Lib.hid fun W hW => (pparse_any s W (hE.later hW)).mono fun e w' ⟨hb, h⟩ => by
   rw [hp] at h
   exact ⟨hb, h⟩
  obtain ⟨y1, y2⟩ := y
  simp only at HPP h9
  have e1 : ((y1 : Int) != 0) = true := by simp; omega
  have e2 : decide (y1 = 0) = false := decide_eq_false (by omega)
  have e3 : (y1 == 0) = false := by simp; omega
  simp only [setupC, noCfg, nilC] at HPP
  clear hE hp
  go_enter Tryz.func6, Tryz.ntmps6
  go_wp2_with (first
   | (go_at_call 8; refine HSH.out.mono ?_; rintro e w1 ⟨rfl, hb1⟩; have HB1 := Lib.hid hb1; clear hb1)
   | (go_at_call 9; refine (HPP.out _ HB1.out).mono ?_; rintro e w2 ⟨hb2, rfl⟩; have HB2 := Lib.hid (HB1.out.trans (hb2.mono HB1.out.size)); clear hb2))
  go_ret
  exact ⟨rfl, HB2.out.alloc HB2.out.size _⟩
 | ok x =>
  obtain ⟨ps, hok, _⟩ := parseS_ok hp
  have HPP : Hid (∀ W, Below w.heap.size w W → Calls Tryz.prog 9 #[.string s] W fun e w' => Below W.heap.size W w' ∧ ∃ rv pv tv lv T L, e = .returned (.tuple #[.agg (setupC x.set.cfg rv pv tv), lv, .int .i64 0, .int .i64 0]) ∧ SetAt W.heap.size w' x rv pv tv lv T L) := Lib.hid fun W hW => (pparse_any s W (hE.later hW)).mono fun e w' ⟨hb, h⟩ => by
   rw [hp] at h
   exact ⟨hb, h⟩
  obtain ⟨⟨⟨a0, a1, a2, a3, a4, a5⟩, regs, progs, thr⟩, l, ec⟩ := x
  simp only at hok
  obtain ⟨x, hx⟩ : ∃ x : PSet, x = ⟨⟨a0, a1, a2, a3, a4, a5⟩, regs, progs, thr⟩ := ⟨_, rfl⟩
  rw [← hx] at hok
  obtain ⟨nr, hnr⟩ : ∃ n, n = x.regs.length := ⟨_, rfl⟩
  obtain ⟨np, hnp⟩ : ∃ n, n = x.progs.length := ⟨_, rfl⟩
  obtain ⟨nt, hnt⟩ : ∃ n, n = x.thr.length := ⟨_, rfl⟩
  obtain ⟨nl, hnl⟩ : ∃ n, n = l.length := ⟨_, rfl⟩
  have HP1 : Hid (∀ W, Below w.heap.size w W → Calls Tryz.prog 9 #[.string s] W fun e w' => Below W.heap.size W w' ∧ ∃ Rr cr Rp cp Rt ct Rl cl, e = .returned (.tuple #[.agg #[.int .i64 a0, .int .i64 a1, .int .i64 a2, .int .i64 a3, .bool a4, .int .i64 a5, .slice Rr nr cr, .slice Rp np cp, .slice Rt nt ct], .slice Rl nl cl, .int .i64 0, .int .i64 0]) ∧ SetRd w' w'.heap.size x (.slice Rr nr cr) (.slice Rp np cp) (.slice Rt nt ct) ∧ LinesRd w' w'.heap.size l (.slice Rl nl cl)) := Lib.hid fun W hW => (HPP.out W hW).mono fun e w' ⟨h1, rv, pv, tv, lv, T, L, h2, h3⟩ => by
   have h4 := h3.set_rd
   have h5 := h3.lines_rd
   simp only at h4 h5 h2
   rw [← hx] at h4
   obtain ⟨Rr, cr, Rp, cp, Rt, ct, rfl, rfl, rfl⟩ := set_shape h4
   obtain ⟨_, Rl, cl, _, rfl, _⟩ := id h5
   subst hnr hnp hnt hnl
   exact ⟨h1, Rr, cr, Rp, cp, Rt, ct, Rl, cl, h2, h4, h5⟩
  have HRF : Hid (∀ W v1 v2 v3, SetRd W W.heap.size x v1 v2 v3 → Calls Tryz.prog 15 #[.agg #[.int .i64 a0, .int .i64 a1, .int .i64 a2, .int .i64 a3, .bool a4, .int .i64 a5, v1, v2, v3]] W fun e w' => e = .returned (.int .i64 0) ∧ Below W.heap.size W w') := Lib.hid fun W v1 v2 v3 h => by
   have h1 := rrefuses_any x.raw W.heap.size v1 v2 v3 W (Nat.le_refl _) h.raw
   rw [hx] at h1
   refine h1.mono ?_
   rintro e w' ⟨h2, h3⟩
   rcases h2 with ⟨_, h2⟩ | ⟨h2, _⟩
   ·exact ⟨h2, h3⟩
   ·exact absurd (hx ▸ ref_ok hok) h2
  have HMN : Hid (stepsN l ≤ 20000) := Lib.hid hok.steps
  have HNL := Lib.hid hnl
  have hnl9 : Hid (∀ W v, LinesRd W W.heap.size l v → l.length ≤ 9223372036854775807) := Lib.hid fun W v h => h.le
  clear HPP hnr hnp hnt hnl hx hE hp hok
  go_enter Tryz.func6, Tryz.ntmps6
  go_upto_region 3 with (first
   | (go_at_call 8; refine HSH.out.mono ?_; rintro e w1 ⟨rfl, hb1⟩; have HB1 := Lib.hid hb1; clear hb1)
   | (go_at_call 9; refine (HP1.out _ HB1.out).mono ?_; rintro e w2 ⟨hb2, Rr, cr, Rp, cp, Rt, ct, Rl, cl, rfl, hs2, hl2⟩; have HB2 := Lib.hid (HB1.out.trans (hb2.mono HB1.out.size)); have HS2 := Lib.hid hs2; have HL2 := Lib.hid hl2; clear hb2 hs2 hl2))
  obtain ⟨w3, hw3⟩ : ∃ W, W = w2.alloc (.cells #[.int .i64 a0, .int .i64 a1, .int .i64 a2, .int .i64 a3, .bool a4, .int .i64 a5, .slice Rr nr cr, .slice Rp np cp, .slice Rt nt ct] 29) := ⟨_, rfl⟩
  obtain ⟨b3, hb3⟩ : ∃ b, b = w2.heap.size := ⟨_, rfl⟩
  have HK3 : Hid (Blk w3 b3 29 #[.int .i64 a0, .int .i64 a1, .int .i64 a2, .int .i64 a3, .bool a4, .int .i64 a5, .slice Rr nr cr, .slice Rp np cp, .slice Rt nt ct]) := Lib.hid (by rw [hw3, hb3]; exact Blk.new _ _ _)
  have HB23 : Hid (Below w2.heap.size w2 w3) := Lib.hid (hw3 ▸ (Below.refl _ _).alloc (Nat.le_refl _) _)
  rw [← hw3, ← hb3]
  clear hw3 hb3
  have HS3 := Lib.hid ((HS2.out.below HB23.out).more HB23.out.size)
  have HL3 := Lib.hid ((HL2.out.below HB23.out).more HB23.out.size)
  have HB3 : Hid (Below w.heap.size w w3) := Lib.hid (HB2.out.trans (HB23.out.mono HB2.out.size))
  have p0 := (HK3.out.cell 0).trans (show _ = some (Value.int .i64 a0) from rfl)
  have p1 := (HK3.out.cell 1).trans (show _ = some (Value.int .i64 a1) from rfl)
  have p2 := (HK3.out.cell 2).trans (show _ = some (Value.int .i64 a2) from rfl)
  have p3 := (HK3.out.cell 3).trans (show _ = some (Value.int .i64 a3) from rfl)
  have p4 := (HK3.out.cell 4).trans (show _ = some (Value.bool a4) from rfl)
  have p5 := (HK3.out.cell 5).trans (show _ = some (Value.int .i64 a5) from rfl)
  have p6 := (HK3.out.cell 6).trans (show _ = some (Value.slice Rr nr cr) from rfl)
  have p7 := (HK3.out.cell 7).trans (show _ = some (Value.slice Rp np cp) from rfl)
  have p8 := (HK3.out.cell 8).trans (show _ = some (Value.slice Rt nt ct) from rfl)
  have pl := HK3.out.lt
  have hn9 : nl ≤ 9223372036854775807 := by rw [HNL.out]; exact HL3.out.le
  have HLC := Lib.hid (line_all (Nat.le_refl _) HL3.out.raw (by rw [List.length_map]; exact HNL.out.symm))
  go_upto_region 6 with (go_at_call 15; refine (HRF.out w3 _ _ _ HS3.out).mono ?_; rintro e w4 ⟨rfl, hb4⟩; have HB34 := Lib.hid hb4; clear hb4)
  clear p0 p1 p2 p3 p4 p5 p6 p7 p8 pl
  go_upto_region 8 with fail
  go_loopg [9, 10] nl (fun gk sv iv W => ∃ i : Nat, iv = .int .i64 i ∧ i ≤ nl ∧ gk + i = nl ∧ sv = .int .i64 (stepsN (l.take i) : Int) ∧ Hid (Below w3.heap.size w3 W))
  case atStart => exact ⟨0, rfl, Nat.zero_le _, rfl, rfl, HB34⟩
  case round =>
   obtain ⟨i, rfl, hi, hgk, rfl, HBW⟩ := hrel
   have HG := Lib.hid hgk
   clear hgk
   obtain ⟨sm, hsm⟩ : ∃ sm, sm = stepsN (l.take i) := ⟨_, rfl⟩
   rw [← hsm]
   have HSM := Lib.hid hsm
   clear hsm
   by_cases hil : i < nl
   ·have e1 : decide ((i : Int) < (nl : Int)) = true := decide_eq_true (by omega)
    have e2 : decide (i < nl) = true := decide_eq_true hil
    have e3 : (i : Int) < (nl : Int) := by omega
    have zw : IntKind.i64.wrap ((i : Int) + 1) = (i : Int) + 1 := by rw [IntKind.wrap_i64]; omega
    obtain ⟨b, off, x0, Q, m, q, rfl, hb, hx0, hxl, hm9, _, hc, _⟩ := HLC.out i hil
    have c2 := (hc wr HBW.out).2
    have hbr : b < wr.heap.size := Nat.lt_of_lt_of_le hb HBW.out.size
    have hst : sm + m = stepsN (l.take (i + 1)) := by
     rw [List.getElem?_map] at hx0
     cases hy : l[i]? with
     | none => rw [hy] at hx0; cases hx0
     | some y =>
      rw [hy] at hx0
      injection hx0 with hx0
      rw [steps_take l i y hy, HSM.out, ← hxl, ← hx0]
      show _ = _ + y.thr.length
      unfold PLine.raw
      simp
    have hle : sm + m ≤ 20000 := by have h1 := steps_le l (i + 1); have h2 := HMN.out; omega
    have zs : IntKind.i64.wrap ((sm : Int) + (m : Int)) = ((sm + m : Nat) : Int) := by rw [IntKind.wrap_i64]; omega
    have HST := Lib.hid hst
    clear hc hb hx0 hxl hst
    go_wp2
    go_roundg (nl - (i + 1))
    case measure => have := HG.out; omega
    case rel => exact ⟨i + 1, by simp, by omega, by omega, by rw [← HST.out]; first | rfl | simp, HBW⟩
   ·have e1 : decide ((i : Int) < (nl : Int)) = false := decide_eq_false (by omega)
    have e2 : decide (i < nl) = false := decide_eq_false hil
    have hle : sm ≤ 20000 := by have h1 := steps_le l i; have h2 := HMN.out; have h3 := HSM.out; omega
    have d1 : decide ((sm : Int) ≤ 20000) = true := decide_eq_true (by omega)
    have d2 : decide (sm ≤ 20000) = true := decide_eq_true hle
    go_wp2
    go_ret
    exact ⟨rfl, HB3.out.trans (HBW.out.mono HB3.out.size)⟩
set_option maxHeartbeats 4000000 in
theorem rlined_any (l : List RLine) (C : Nat) (lv : Value) (w : World) (hC : C ≤ w.heap.size) (hm : manyR l ≤ 9223372036854775807) (hL : RLinesRd w C l lv) :
  Calls Tryz.prog 36 #[lv] w fun e w' => e = .returned (.bool (decide (linedR l))) ∧ Below w.heap.size w w' := by
 obtain ⟨R, c, rfl⟩ : ∃ R c, lv = .slice R l.length c := by obtain ⟨_, R, c, _, h, _⟩ := hL; exact ⟨R, c, h⟩
 obtain ⟨n, hn⟩ : ∃ n, n = l.length := ⟨_, rfl⟩
 have hn9 : n ≤ 9223372036854775807 := hn ▸ hL.le
 rw [← hn] at hL ⊢
 have HLC := Lib.hid (line_all hC hL hn.symm)
 have HN := Lib.hid hn
 have HM := Lib.hid hm
 clear hn hm hL hC
 go_enter Tryz.func36, Tryz.ntmps36
 go_upto_region 3 with fail
 go_loopg [3, 4] n (fun gk sv iv W => ∃ i : Nat, iv = .int .i64 i ∧ i ≤ n ∧ gk + i = n ∧ sv = .int .i64 (manyR (l.take i) : Int) ∧ Hid (∀ x ∈ l.take i, lineR x) ∧ Hid (Below w.heap.size w W))
 case atStart => exact ⟨0, rfl, Nat.zero_le _, rfl, rfl, Lib.hid (by intro x hx; simp at hx), Lib.hid (Below.refl _ _)⟩
 case round =>
  obtain ⟨i, rfl, hi, hgk, rfl, HALL, HB⟩ := hrel
  have HG := Lib.hid hgk
  clear hgk
  obtain ⟨sm, hsm⟩ : ∃ sm, sm = manyR (l.take i) := ⟨_, rfl⟩
  rw [← hsm]
  have HSM := Lib.hid hsm
  clear hsm
  by_cases hil : i < n
  ·have e1 : decide ((i : Int) < (n : Int)) = true := decide_eq_true (by omega)
   have e2 : decide (i < n) = true := decide_eq_true hil
   have e3 : (i : Int) < (n : Int) := by omega
   have zw : IntKind.i64.wrap ((i : Int) + 1) = (i : Int) + 1 := by rw [IntKind.wrap_i64]; omega
   obtain ⟨b, off, ⟨kd, thr⟩, Q, m, q, rfl, hb, hx, hxl, hm9, _, hc, hj⟩ := HLC.out i hil
   simp only at hxl hc hj
   have hsum : sm + m ≤ 9223372036854775807 := by
    have h1 := many_take l i _ hx
    have h2 := many_le l (i + 1)
    have h3 := HM.out
    have h4 := HSM.out
    simp only at h1
    omega
   have HSUM : Hid (sm + m = manyR (l.take (i + 1))) := Lib.hid (by rw [many_take l i _ hx, HSM.out, ← hxl])
   have zs : IntKind.i64.wrap ((sm : Int) + (m : Int)) = ((sm + m : Nat) : Int) := by rw [IntKind.wrap_i64]; omega
   have c1 := (hc wr HB.out).1
   have c2 := (hc wr HB.out).2
   have hbr : b < wr.heap.size := Nat.lt_of_lt_of_le hb HB.out.size
   have HX := Lib.hid hx
   have HXL := Lib.hid hxl
   have HJ := Lib.hid hj
   have HCC := Lib.hid hc
   have HBB := Lib.hid hb
   clear hc hj hx hxl hsum hb
   go_upto_region 5 with fail
   by_cases h1 : kd < 1
   ·have d1 : decide (kd < 1) = true := decide_eq_true h1
    have HNO := Lib.hid (lined_no HX.out (fun h => by have := h.1; simp only at this; omega))
    go_wp2
    go_ret
    exact ⟨by rw [HNO.out]; rfl, HB.out⟩
   ·have d1 : decide (kd < 1) = false := decide_eq_false h1
    by_cases h2 : 7 < kd
    ·have d2 : decide (7 < kd) = true := decide_eq_true h2
     have d2' : decide (kd > 7) = true := decide_eq_true h2
     have HNO := Lib.hid (lined_no HX.out (fun h => by have := h.2.1; simp only at this; omega))
     go_wp2
     go_ret
     exact ⟨by rw [HNO.out]; rfl, HB.out⟩
    ·have d2 : decide (7 < kd) = false := decide_eq_false h2
     have d2' : decide (kd > 7) = false := decide_eq_false h2
     have hthr : (thr ≠ []) ↔ 0 < m := by rw [← HXL.out]; exact List.length_pos_iff.symm
     by_cases hk : kd = 1
     ·have k1 : (kd == 1) = true := by simp [hk]
      have k2 : decide (kd = 1) = true := by simp [hk]
      have k3 : (kd != 1) = false := by simp [hk]
      by_cases hm0 : 0 < m
      ·have k4 : decide ((0 : Int) < (m : Int)) = true := decide_eq_true (by omega)
       have k5 : decide (0 < m) = true := decide_eq_true hm0
       have k6 : ((m : Int) == 0) = false := by simp; omega
       have k7 : (m == 0) = false := by simp; omega
       have k8 : decide (m = 0) = false := decide_eq_false (by omega)
       have HOK : Hid (¬ kd < 1 ∧ ¬ 7 < kd ∧ (kd = 1 ↔ thr ≠ [])) := Lib.hid ⟨h1, h2, fun _ => hthr.2 hm0, fun _ => hk⟩
       clear h1 h2 hthr hk hm0
       go_upto_region 7 with fail
       go_upto_region 8 with fail
       clear d1 d2 d2' k1 k2 k3 k4 k5 k6 k7 k8 c1 c2 hbr
       have HB0 := HB
       go_loopg [5] m (fun gk iv W => ∃ j : Nat, iv = .int .i64 j ∧ j ≤ m ∧ gk + j = m ∧ Hid (Below w.heap.size w W) ∧ Hid (∀ t ∈ thr.take j, 0 ≤ t ∧ t ≤ 99))
       case atStart => exact ⟨0, rfl, Nat.zero_le _, rfl, HB0, Lib.hid (by intro x hx; simp at hx)⟩
       case round =>
        clear HB HB0
        obtain ⟨j, rfl, hj, hgj, HB, HTA⟩ := hrel
        have HGJ := Lib.hid hgj
        clear hgj
        have c1 := (HCC.out wr HB.out).1
        have c2 := (HCC.out wr HB.out).2
        have hbr : b < wr.heap.size := Nat.lt_of_lt_of_le HBB.out HB.out.size
        by_cases hjl : j < m
        ·have f1 : decide ((j : Int) < (m : Int)) = true := decide_eq_true (by omega)
         have f2 : decide (j < m) = true := decide_eq_true hjl
         have f3 : (j : Int) < (m : Int) := by omega
         have zj : IntKind.i64.wrap ((j : Int) + 1) = (j : Int) + 1 := by rw [IntKind.wrap_i64]; omega
         obtain ⟨d, o, t, rfl, hd, ht, hcd⟩ := HJ.out j hjl
         have c3 := hcd _ HB.out
         have hdr : d < wr.heap.size := Nat.lt_of_lt_of_le hd HB.out.size
         have HT := Lib.hid ht
         clear hcd ht hd
         by_cases h4 : t < 0
         ·have d4 : decide (t < 0) = true := decide_eq_true h4
          have HNO := Lib.hid (lined_no HX.out (fun h => by have := h.2.2.2 t (List.mem_of_getElem? HT.out); omega))
          go_wp2
          go_ret
          exact ⟨by rw [HNO.out]; rfl, HB.out⟩
         ·have d4 : decide (t < 0) = false := decide_eq_false h4
          by_cases h5 : 99 < t
          ·have d5 : decide (99 < t) = true := decide_eq_true h5
           have HNO := Lib.hid (lined_no HX.out (fun h => by have := h.2.2.2 t (List.mem_of_getElem? HT.out); omega))
           go_wp2
           go_ret
           exact ⟨by rw [HNO.out]; rfl, HB.out⟩
          ·have d5 : decide (99 < t) = false := decide_eq_false h5
           have HTB : Hid (∀ t ∈ thr.take (j + 1), 0 ≤ t ∧ t ≤ 99) := Lib.hid (take_all HTA.out HT.out ⟨by omega, by omega⟩)
           go_wp2
           go_roundg (m - (j + 1))
           case measure => have := HGJ.out; omega
           case rel => exact ⟨j + 1, by simp, by omega, by omega, HB, HTB⟩
        ·have f1 : decide ((j : Int) < (m : Int)) = false := decide_eq_false (by omega)
         have f2 : decide (j < m) = false := decide_eq_false hjl
         have HAL2 : Hid (∀ x ∈ l.take (i + 1), lineR x) := Lib.hid (take_all HALL.out HX.out ⟨by have := HOK.out.1; simp only; omega, by have := HOK.out.2.1; simp only; omega, HOK.out.2.2, by
          have h := HTA.out
          rw [take_len (by rw [HXL.out]; omega)] at h
          exact h⟩)
         go_wp2
         go_roundg (n - (i + 1))
         case measure => have := HG.out; omega
         case rel => exact ⟨i + 1, by simp, by omega, by omega, by rw [← HSUM.out]; first | rfl | simp, HAL2, HB⟩
      ·have k4 : decide ((0 : Int) < (m : Int)) = false := decide_eq_false (by omega)
       have k5 : decide (0 < m) = false := decide_eq_false hm0
       have k6 : ((m : Int) == 0) = true := by simp; omega
       have k7 : (m == 0) = true := by simp; omega
       have k8 : decide (m = 0) = true := decide_eq_true (by omega)
       have HNO := Lib.hid (lined_no HX.out (fun h => by have := hthr.1 (h.2.2.1.1 hk); omega))
       clear hthr hk
       go_wp2
       go_ret
       exact ⟨by rw [HNO.out]; rfl, HB.out⟩
     ·have k1 : (kd == 1) = false := by simp [hk]
      have k2 : decide (kd = 1) = false := by simp [hk]
      have k3 : (kd != 1) = true := by simp [hk]
      by_cases hm0 : 0 < m
      ·have k4 : decide ((0 : Int) < (m : Int)) = true := decide_eq_true (by omega)
       have k5 : decide (0 < m) = true := decide_eq_true hm0
       have k6 : ((m : Int) == 0) = false := by simp; omega
       have k7 : (m == 0) = false := by simp; omega
       have k8 : decide (m = 0) = false := decide_eq_false (by omega)
       have HNO := Lib.hid (lined_no HX.out (fun h => hk (h.2.2.1.2 (hthr.2 hm0))))
       clear hthr hk
       go_wp2
       go_ret
       exact ⟨by rw [HNO.out]; rfl, HB.out⟩
      ·have k4 : decide ((0 : Int) < (m : Int)) = false := decide_eq_false (by omega)
       have k5 : decide (0 < m) = false := decide_eq_false hm0
       have k6 : ((m : Int) == 0) = true := by simp; omega
       have k7 : (m == 0) = true := by simp; omega
       have k8 : decide (m = 0) = true := decide_eq_true (by omega)
       have HOK : Hid (¬ kd < 1 ∧ ¬ 7 < kd ∧ (kd = 1 ↔ thr ≠ [])) := Lib.hid ⟨h1, h2, fun h => absurd h hk, fun h => absurd (hthr.1 h) hm0⟩
       clear h1 h2 hthr hk hm0
       go_upto_region 7 with fail
       go_upto_region 8 with fail
       clear d1 d2 d2' k1 k2 k3 k4 k5 k6 k7 k8 c1 c2 hbr
       have HB0 := HB
       go_loopg [5] m (fun gk iv W => ∃ j : Nat, iv = .int .i64 j ∧ j ≤ m ∧ gk + j = m ∧ Hid (Below w.heap.size w W) ∧ Hid (∀ t ∈ thr.take j, 0 ≤ t ∧ t ≤ 99))
       case atStart => exact ⟨0, rfl, Nat.zero_le _, rfl, HB0, Lib.hid (by intro x hx; simp at hx)⟩
       case round =>
        clear HB HB0
        obtain ⟨j, rfl, hj, hgj, HB, HTA⟩ := hrel
        have HGJ := Lib.hid hgj
        clear hgj
        have c1 := (HCC.out wr HB.out).1
        have c2 := (HCC.out wr HB.out).2
        have hbr : b < wr.heap.size := Nat.lt_of_lt_of_le HBB.out HB.out.size
        by_cases hjl : j < m
        ·have f1 : decide ((j : Int) < (m : Int)) = true := decide_eq_true (by omega)
         have f2 : decide (j < m) = true := decide_eq_true hjl
         have f3 : (j : Int) < (m : Int) := by omega
         have zj : IntKind.i64.wrap ((j : Int) + 1) = (j : Int) + 1 := by rw [IntKind.wrap_i64]; omega
         obtain ⟨d, o, t, rfl, hd, ht, hcd⟩ := HJ.out j hjl
         have c3 := hcd _ HB.out
         have hdr : d < wr.heap.size := Nat.lt_of_lt_of_le hd HB.out.size
         have HT := Lib.hid ht
         clear hcd ht hd
         by_cases h4 : t < 0
         ·have d4 : decide (t < 0) = true := decide_eq_true h4
          have HNO := Lib.hid (lined_no HX.out (fun h => by have := h.2.2.2 t (List.mem_of_getElem? HT.out); omega))
          go_wp2
          go_ret
          exact ⟨by rw [HNO.out]; rfl, HB.out⟩
         ·have d4 : decide (t < 0) = false := decide_eq_false h4
          by_cases h5 : 99 < t
          ·have d5 : decide (99 < t) = true := decide_eq_true h5
           have HNO := Lib.hid (lined_no HX.out (fun h => by have := h.2.2.2 t (List.mem_of_getElem? HT.out); omega))
           go_wp2
           go_ret
           exact ⟨by rw [HNO.out]; rfl, HB.out⟩
          ·have d5 : decide (99 < t) = false := decide_eq_false h5
           have HTB : Hid (∀ t ∈ thr.take (j + 1), 0 ≤ t ∧ t ≤ 99) := Lib.hid (take_all HTA.out HT.out ⟨by omega, by omega⟩)
           go_wp2
           go_roundg (m - (j + 1))
           case measure => have := HGJ.out; omega
           case rel => exact ⟨j + 1, by simp, by omega, by omega, HB, HTB⟩
        ·have f1 : decide ((j : Int) < (m : Int)) = false := decide_eq_false (by omega)
         have f2 : decide (j < m) = false := decide_eq_false hjl
         have HAL2 : Hid (∀ x ∈ l.take (i + 1), lineR x) := Lib.hid (take_all HALL.out HX.out ⟨by have := HOK.out.1; simp only; omega, by have := HOK.out.2.1; simp only; omega, HOK.out.2.2, by
          have h := HTA.out
          rw [take_len (by rw [HXL.out]; omega)] at h
          exact h⟩)
         go_wp2
         go_roundg (n - (i + 1))
         case measure => have := HG.out; omega
         case rel => exact ⟨i + 1, by simp, by omega, by omega, by rw [← HSUM.out]; first | rfl | simp, HAL2, HB⟩
  ·have e1 : decide ((i : Int) < (n : Int)) = false := decide_eq_false (by omega)
   have e2 : decide (i < n) = false := decide_eq_false hil
   have HYES : Hid (decide (linedR l) = decide (sm ≤ 20000)) := Lib.hid (by
    have h := HALL.out
    have h2 := HSM.out
    rw [take_len (by rw [← HN.out]; omega)] at h h2
    rw [h2]
    by_cases h3 : manyR l ≤ 20000
    ·rw [decide_eq_true h3, decide_eq_true (show linedR l from ⟨h, h3⟩)]
    ·rw [decide_eq_false h3, decide_eq_false (fun h4 : linedR l => h3 h4.2)])
   have HYI : Hid (decide ((sm : Int) ≤ 20000) = decide (sm ≤ 20000)) := Lib.hid (by
    by_cases h3 : sm ≤ 20000
    ·rw [decide_eq_true h3, decide_eq_true (by omega)]
    ·rw [decide_eq_false h3, decide_eq_false (by omega)])
   go_wp2
   go_ret
   refine ⟨?_, HB.out⟩
   rw [HYES.out]
   first | rfl | (rw [← HYI.out]; rfl)
end Go.Proofs.YtiheggkkgbfndaaGreatDoor
