/- slices.symMergeCmpFunc where one run has one element. -/
import Derived.Test.YtffjcojehiblnaaGreatDoorPq
namespace Go.Proofs.YtffjcojehiblnaaGreatDoor
open Go.RowKit Go.Joins Go.ChangeShapes Go.WideShapes Go.Deep
set_option linter.unusedVariables false
set_option linter.unusedSimpArgs false
set_option maxRecDepth 100000

set_option maxHeartbeats 4000000 in
/-- One element ahead of a sorted run. -/
theorem sym_up {w0 w : World} {B g n c m v : Nat} {cf : Nat → Nat → Int} {f : Nat → Nat} (L : Lt3 (ltc cf)) (hC : CmpOK w0 B m v cf) (a b : Nat) (hR : RowF w g n f) (hf : ∀ i, i < n → f i < m) (hBg : B ≤ g) (hB : Below B w0 w) (hab : a + 1 < b) (hbn : b ≤ n) (hn : n ≤ 4611686018427387904) (hs : SortedR (ltc cf) f (a + 1) b) :
    Calls Tryz.prog 52 #[.slice (some ⟨g, 0, none⟩) n c, .int .i64 a, .int .i64 (a + 1 : Nat), .int .i64 b, cmpV v] w (SortPost w0 B g n cf f a b) := by
  have HR0 := Lib.hid hR
  have HF := Lib.hid hf
  have HL := Lib.hid L
  have HC := Lib.hid hC
  have HB0 := Lib.hid hB
  have HS := Lib.hid hs
  clear hR hf L hC hB hs
  obtain ⟨mm, hmm⟩ : ∃ mm, mm = a + 1 := ⟨_, rfl⟩
  rw [← hmm]
  have HM := Lib.hid hmm
  have e0 : ((mm : Int) - (a : Int) == 1) = true := by simp; omega
  have hma : a + 1 ≤ mm := by omega
  have hma2 : mm ≤ a + 1 := by omega
  clear hmm
  go_enter Tryz.func52, Tryz.ntmps52
  go_wp2_with fail
  go_loopg [10, 11] b (fun gk i j wr => ∃ x y : Nat, i = .int .i64 x ∧ j = .int .i64 y ∧ mm ≤ x ∧ x ≤ y ∧ y ≤ b ∧ y - x ≤ gk ∧ (x = mm ∨ ltc cf (f (x - 1)) (f a)) ∧ (y = b ∨ ¬ ltc cf (f y) (f a)) ∧ RowF wr g n f ∧ Below B w0 wr)
  case atStart => exact ⟨mm, b, rfl, rfl, Nat.le_refl _, by omega, Nat.le_refl _, by omega, .inl rfl, .inl rfl, HR0.out, HB0.out⟩
  case round =>
    obtain ⟨x, y, rfl, rfl, hmx, hxy, hyb, hgk, hl, hr, hR2, hB2⟩ := hrel
    have HG2 := Lib.hid hgk
    have HR2 := Lib.hid hR2
    have HB2 := Lib.hid hB2
    have HLL := Lib.hid hl
    have HRR := Lib.hid hr
    clear hgk hl hr hR2 hB2
    by_cases hlt : x < y
    · have e1 : decide ((x : Int) < (y : Int)) = true := by simp; omega
      obtain ⟨h, hh⟩ : ∃ h, h = (x + y) / 2 := ⟨_, rfl⟩
      have hCC := HC.out wr.drew (f h) (f a) HB2.out.drew (HF.out _ (by omega)) (HF.out _ (by omega))
      have HCC := Lib.hid hCC
      clear hCC
      have HTW : Hid (TwoI g h a (f h) (f a) wr) := Lib.hid ⟨HR2.out.cell (by omega), HR2.out.cell (by omega)⟩
      have k1 : ∀ W, TwoI g h a (f h) (f a) W → W.cell? ⟨g, h, none⟩ = some (.int .i64 (f h)) := fun _ h => h.a
      have k2 : ∀ W, TwoI g h a (f h) (f a) W → W.cell? ⟨g, a, none⟩ = some (.int .i64 (f a)) := fun _ h => h.b
      have y4 : (h : Int) < (n : Int) := by omega
      have y5 : (a : Int) < (n : Int) := by omega
      obtain ⟨r, hr⟩ : ∃ r, r = cf (f h) (f a) := ⟨_, rfl⟩
      rw [← hr] at HCC
      have HRC := Lib.hid hr
      clear hr
      go_wp2_with fail
      rw [show ((x : Int) + (y : Int)) / 2 = (h : Int) by omega]
      have HH := Lib.hid hh
      clear hh
      by_cases hr0 : r < 0
      · have d1 : decide (r < 0) = true := by simp [hr0]
        go_region_held (TwoI g h a (f h) (f a)) (first | exact ⟨HTW.out.a, HTW.out.b⟩ | exact TwoI.below (w := wr.drew) ⟨HTW.out.a, HTW.out.b⟩ hb1) ((go_at_call 17; refine HCC.out.mono ?_; rintro r w1 ⟨hr, hb1⟩; subst hr))
        go_wp2_with fail
        have hlt2 : ltc cf (f h) (f a) := by have := HRC.out; unfold ltc; omega
        have hgs : B ≤ wr.drew.heap.size := by have := HR2.out.lt; simp; omega
        go_roundg (y - (h + 1))
        case measure => have := HG2.out; have := HH.out; omega
        case rel =>
          have := HH.out
          exact ⟨h + 1, y, rfl, rfl, by omega, by omega, hyb, Nat.le_refl _, .inr hlt2, HRR.out, RowF.below (w := wr.drew) HR2.out hb1 HR2.out.lt, HB2.out.drew.trans (hb1.mono hgs)⟩
      · have d1 : decide (r < 0) = false := by simp; omega
        go_region_held (TwoI g h a (f h) (f a)) (first | exact ⟨HTW.out.a, HTW.out.b⟩ | exact TwoI.below (w := wr.drew) ⟨HTW.out.a, HTW.out.b⟩ hb1) ((go_at_call 17; refine HCC.out.mono ?_; rintro r w1 ⟨hr, hb1⟩; subst hr))
        go_wp2_with fail
        have hlt2 : ¬ ltc cf (f h) (f a) := by have := HRC.out; unfold ltc; omega
        have hgs : B ≤ wr.drew.heap.size := by have := HR2.out.lt; simp; omega
        go_roundg (h - x)
        case measure => have := HG2.out; have := HH.out; omega
        case rel =>
          have := HH.out
          exact ⟨x, h, rfl, rfl, by omega, by omega, by omega, Nat.le_refl _, HLL.out, .inr hlt2, RowF.below (w := wr.drew) HR2.out hb1 HR2.out.lt, HB2.out.drew.trans (hb1.mono hgs)⟩
    · obtain rfl : x = y := by omega
      have e1 : decide ((x : Int) < (x : Int)) = false := by simp
      go_wp2_with fail
      go_loopg [13] (b) (fun gk i wr => ∃ k : Nat, i = .int .i64 k ∧ a ≤ k ∧ k + 1 ≤ x ∧ x - k ≤ gk ∧ RowF wr g n (rotR f a (a + 1) (k + 1)) ∧ Below B w0 wr)
      case atStart => exact ⟨a, rfl, Nat.le_refl _, by omega, by omega, by rw [rot_id _ _ _ _ (.inr rfl)]; exact HR2.out, HB2.out⟩
      case round =>
        obtain ⟨k, rfl, hak, hkx, hgk, hR3, hB3⟩ := hrel
        have HG3 := Lib.hid hgk
        have HR3 := Lib.hid hR3
        have HB3 := Lib.hid hB3
        clear hgk hB3 HR2 HB2
        by_cases hkx2 : k + 1 < x
        · have e2 : decide ((k : Int) < (x : Int) - 1) = true := by simp; omega
          have c1 := hR3.cell (i := k + 1) (by omega)
          have c2 := hR3.cell (i := k) (by omega)
          have fz1 := hR3.frozen (k + 1)
          have fz2 := hR3.frozen k
          have y4 : k + 1 < n := by omega
          clear hR3
          go_wp2_with fail
          go_region
          go_wp2_with fail
          go_roundg (x - (k + 1))
          case measure => have := HG3.out; omega
          case rel =>
            refine ⟨k + 1, rfl, by omega, by omega, Nat.le_refl _, ?_, below_set2 hBg (below_drn HB3.out _)⟩
            rw [rot_up _ _ _ hak]
            exact (HR3.out.drewN _).swap (i := k) (j := k + 1) (by omega) (by omega) (by omega)
        · have e2 : decide ((k : Int) < (x : Int) - 1) = false := by simp; omega
          clear hR3
          go_wp2_with fail
          refine bodyPost_ret (results_none rfl _ _ _) rfl ?_
          obtain rfl : x = k + 1 := by omega
          have hm := HM.out
          refine ⟨rfl, _, HR3.out, sorts_up HL.out HS.out (by omega) hyb hbn ?_ HRR.out, HB3.out⟩
          rcases HLL.out with h | h
          · exact .inl (by omega)
          · exact .inr h
end Go.Proofs.YtffjcojehiblnaaGreatDoor

/- slices.symMergeCmpFunc where the second run has one element. -/
namespace Go.Proofs.YtffjcojehiblnaaGreatDoor
open Go.RowKit Go.Joins Go.ChangeShapes Go.WideShapes Go.Deep
set_option linter.unusedVariables false
set_option linter.unusedSimpArgs false
set_option maxRecDepth 100000

set_option maxHeartbeats 4000000 in
/-- One element behind a sorted run. -/
theorem sym_down {w0 w : World} {B g n c m v : Nat} {cf : Nat → Nat → Int} {f : Nat → Nat} (L : Lt3 (ltc cf)) (hC : CmpOK w0 B m v cf) (a p : Nat) (hR : RowF w g n f) (hf : ∀ i, i < n → f i < m) (hBg : B ≤ g) (hB : Below B w0 w) (hab : a + 1 < p) (hbn : p + 1 ≤ n) (hn : n ≤ 4611686018427387904) (hs : SortedR (ltc cf) f a p) :
    Calls Tryz.prog 52 #[.slice (some ⟨g, 0, none⟩) n c, .int .i64 a, .int .i64 p, .int .i64 (p + 1 : Nat), cmpV v] w (SortPost w0 B g n cf f a (p + 1)) := by
  have HR0 := Lib.hid hR
  have HF := Lib.hid hf
  have HL := Lib.hid L
  have HC := Lib.hid hC
  have HB0 := Lib.hid hB
  have HS := Lib.hid hs
  clear hR hf L hC hB hs
  obtain ⟨b, hb⟩ : ∃ b, b = p + 1 := ⟨_, rfl⟩
  rw [← hb]
  have HM := Lib.hid hb
  have e0 : ((p : Int) - (a : Int) == 1) = false := by simp; omega
  have e00 : ((b : Int) - (p : Int) == 1) = true := by simp; omega
  have hpb : p + 1 ≤ b := by omega
  have hbp : b ≤ p + 1 := by omega
  clear hb
  go_enter Tryz.func52, Tryz.ntmps52
  go_wp2_with fail
  go_loopg [14, 15] b (fun gk i j wr => ∃ x y : Nat, i = .int .i64 x ∧ j = .int .i64 y ∧ a ≤ x ∧ x ≤ y ∧ y ≤ p ∧ y - x ≤ gk ∧ (x = a ∨ ¬ ltc cf (f p) (f (x - 1))) ∧ (y = p ∨ ltc cf (f p) (f y)) ∧ RowF wr g n f ∧ Below B w0 wr)
  case atStart => exact ⟨a, p, rfl, rfl, Nat.le_refl _, by omega, Nat.le_refl _, by omega, .inl rfl, .inl rfl, HR0.out, HB0.out⟩
  case round =>
    obtain ⟨x, y, rfl, rfl, hmx, hxy, hyb, hgk, hl, hr, hR2, hB2⟩ := hrel
    have HG2 := Lib.hid hgk
    have HR2 := Lib.hid hR2
    have HB2 := Lib.hid hB2
    have HLL := Lib.hid hl
    have HRR := Lib.hid hr
    clear hgk hl hr hR2 hB2
    by_cases hlt : x < y
    · have e1 : decide ((x : Int) < (y : Int)) = true := by simp; omega
      obtain ⟨h, hh⟩ : ∃ h, h = (x + y) / 2 := ⟨_, rfl⟩
      have hCC := HC.out wr.drew (f p) (f h) HB2.out.drew (HF.out _ (by omega)) (HF.out _ (by omega))
      have HCC := Lib.hid hCC
      clear hCC
      have HTW : Hid (TwoI g p h (f p) (f h) wr) := Lib.hid ⟨HR2.out.cell (by omega), HR2.out.cell (by omega)⟩
      have k1 : ∀ W, TwoI g p h (f p) (f h) W → W.cell? ⟨g, p, none⟩ = some (.int .i64 (f p)) := fun _ h => h.a
      have k2 : ∀ W, TwoI g p h (f p) (f h) W → W.cell? ⟨g, h, none⟩ = some (.int .i64 (f h)) := fun _ h => h.b
      have y4 : (h : Int) < (n : Int) := by omega
      have y5 : (p : Int) < (n : Int) := by omega
      obtain ⟨r, hr⟩ : ∃ r, r = cf (f p) (f h) := ⟨_, rfl⟩
      rw [← hr] at HCC
      have HRC := Lib.hid hr
      clear hr
      go_wp2_with fail
      rw [show ((x : Int) + (y : Int)) / 2 = (h : Int) by omega]
      have HH := Lib.hid hh
      clear hh
      by_cases hr0 : r < 0
      · have d1 : decide (r < 0) = true := by simp [hr0]
        go_region_held (TwoI g p h (f p) (f h)) (first | exact ⟨HTW.out.a, HTW.out.b⟩ | exact TwoI.below (w := wr.drew) ⟨HTW.out.a, HTW.out.b⟩ hb1) ((go_at_call 17; refine HCC.out.mono ?_; rintro r w1 ⟨hr, hb1⟩; subst hr))
        go_wp2_with fail
        have hlt2 : ltc cf (f p) (f h) := by have := HRC.out; unfold ltc; omega
        have hgs : B ≤ wr.drew.heap.size := by have := HR2.out.lt; simp; omega
        go_roundg (h - x)
        case measure => have := HG2.out; have := HH.out; omega
        case rel =>
          have := HH.out
          exact ⟨x, h, rfl, rfl, by omega, by omega, by omega, Nat.le_refl _, HLL.out, .inr hlt2, RowF.below (w := wr.drew) HR2.out hb1 HR2.out.lt, HB2.out.drew.trans (hb1.mono hgs)⟩
      · have d1 : decide (r < 0) = false := by simp; omega
        go_region_held (TwoI g p h (f p) (f h)) (first | exact ⟨HTW.out.a, HTW.out.b⟩ | exact TwoI.below (w := wr.drew) ⟨HTW.out.a, HTW.out.b⟩ hb1) ((go_at_call 17; refine HCC.out.mono ?_; rintro r w1 ⟨hr, hb1⟩; subst hr))
        go_wp2_with fail
        have hlt2 : ¬ ltc cf (f p) (f h) := by have := HRC.out; unfold ltc; omega
        have hgs : B ≤ wr.drew.heap.size := by have := HR2.out.lt; simp; omega
        go_roundg (y - (h + 1))
        case measure => have := HG2.out; have := HH.out; omega
        case rel =>
          have := HH.out
          exact ⟨h + 1, y, rfl, rfl, by omega, by omega, hyb, Nat.le_refl _, .inr hlt2, HRR.out, RowF.below (w := wr.drew) HR2.out hb1 HR2.out.lt, HB2.out.drew.trans (hb1.mono hgs)⟩
    · obtain rfl : x = y := by omega
      have e1 : decide ((x : Int) < (x : Int)) = false := by simp
      go_wp2_with fail
      go_loopg [17] p (fun gk i wr => ∃ k : Nat, i = .int .i64 k ∧ x ≤ k ∧ k ≤ p ∧ k ≤ gk ∧ RowF wr g n (rotR f k p (p + 1)) ∧ Below B w0 wr)
      case atStart => exact ⟨p, rfl, by omega, Nat.le_refl _, by omega, by rw [rot_id _ _ _ _ (.inl rfl)]; exact HR2.out, HB2.out⟩
      case round =>
        obtain ⟨k, rfl, hxk, hkp, hgk, hR3, hB3⟩ := hrel
        have HG3 := Lib.hid hgk
        have HR3 := Lib.hid hR3
        have HB3 := Lib.hid hB3
        clear hgk hB3 HR2 HB2
        by_cases hkx2 : x < k
        · obtain ⟨q, rfl⟩ : ∃ q, k = q + 1 := ⟨k - 1, by omega⟩
          rw [show ((q + 1 : Nat) : Int) = (q : Int) + 1 by omega]
          have e2 : decide ((x : Int) < (q : Int) + 1) = true := by simp; omega
          have c1 := hR3.cell (i := q + 1) (by omega)
          have c2 := hR3.cell (i := q) (by omega)
          have fz1 := hR3.frozen (q + 1)
          have fz2 := hR3.frozen q
          have y4 : q + 1 < n := by omega
          have y5 : (q : Int) < (n : Int) := by omega
          have y6 : q < n := by omega
          have y7 : (q : Int) + 1 < (n : Int) := by omega
          have y8 : IntKind.i64.wrap (q : Int) = (q : Int) := IntWalk.i64_in _ ⟨by omega, by omega⟩
          obtain ⟨z1, hz1⟩ : ∃ z, z = rotR f (q + 1) p (p + 1) (q + 1) := ⟨_, rfl⟩
          obtain ⟨z2, hz2⟩ : ∃ z, z = rotR f (q + 1) p (p + 1) q := ⟨_, rfl⟩
          rw [← hz1] at c1
          rw [← hz2] at c2
          have HZ1 := Lib.hid hz1
          have HZ2 := Lib.hid hz2
          have HNN : Hid (a + 1 < p ∧ p + 1 ≤ n ∧ x ≤ q + 1 ∧ q + 1 ≤ p ∧ B ≤ g) := Lib.hid ⟨hab, hbn, hxk, hkp, hBg⟩
          clear hR3 hz1 hz2 e0 e00 e1 hpb hbp hn hxk hkp hBg hab hbn hmx hxy hyb hlt
          go_wp2_with fail
          go_region
          go_wp2_with fail
          obtain ⟨hab, hbn, hxk, hkp, hBg⟩ := HNN.out
          go_roundg q
          case measure => have := HG3.out; omega
          case rel =>
            refine ⟨q, by congr 1 <;> omega, by omega, by omega, Nat.le_refl _, ?_, below_set2 hBg (below_drn HB3.out _)⟩
            rw [rot_down _ _ _ (by omega), HZ1.out, HZ2.out]
            exact (HR3.out.drewN _).pws (i := q) (j := q + 1) (by omega) (by omega) (by omega)
        · have e2 : decide ((x : Int) < (k : Int)) = false := by simp; omega
          clear hR3
          go_wp2_with fail
          refine bodyPost_ret (results_none rfl _ _ _) rfl ?_
          obtain rfl : x = k := by omega
          have hm := HM.out
          subst hm
          exact ⟨rfl, _, HR3.out, sorts_down HL.out HS.out hmx hyb hbn HLL.out HRR.out, HB3.out⟩
end Go.Proofs.YtffjcojehiblnaaGreatDoor
