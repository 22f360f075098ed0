/- slices.symMergeCmpFunc at two sorted runs. -/
import Derived.Test.YtffjcojehiblnaaGreatDoorPr
import Derived.Deep.CutRange
namespace Go.Proofs.YtffjcojehiblnaaGreatDoor
open Go.RowKit Go.Joins Go.ChangeShapes Go.WideShapes Go.Deep
set_option linter.unusedVariables false
set_option linter.unusedSimpArgs false
set_option maxRecDepth 100000

/-- What merging does of rows no longer than d. -/
def SymOK (w0 : World) (B g n c m v : Nat) (cf : Nat → Nat → Int) (d : Nat) : Prop := ∀ (w : World) (f : Nat → Nat) (a p b : Nat), b - a ≤ d → RowF w g n f → (∀ i, i < n → f i < m) → Below B w0 w → a < p → p < b → b ≤ n → SortedR (ltc cf) f a p → SortedR (ltc cf) f p b →
    Calls Tryz.prog 52 #[.slice (some ⟨g, 0, none⟩) n c, .int .i64 a, .int .i64 p, .int .i64 b, cmpV v] w (SortPost w0 B g n cf f a b)
set_option maxHeartbeats 2000000 in
/-- Two sorted runs, merged. -/
theorem sym_step {w0 : World} {B g n c m v : Nat} {cf : Nat → Nat → Int} (L : Lt3 (ltc cf)) (hC : CmpOK w0 B m v cf) (hBg : B ≤ g) (hn : n ≤ 4611686018427387904) (d : Nat) (ih : SymOK w0 B g n c m v cf d) : SymOK w0 B g n c m v cf (d + 1) := by
    intro w f a p b hd hR hf hB hap hpb hbn hs1 hs2
    have IH := Lib.hid ih
    clear ih
    by_cases hp1 : p = a + 1
    · subst hp1
      exact sym_up L hC a b hR hf hBg hB hpb hbn hn hs2
    by_cases hb1 : b = p + 1
    · subst hb1
      exact sym_down L hC a p hR hf hBg hB (by omega) hbn hn hs1
    have HR0 := Lib.hid hR
    have HF := Lib.hid hf
    have HL := Lib.hid L
    have HC := Lib.hid hC
    have HB0 := Lib.hid hB
    have HS1 := Lib.hid hs1
    have HS2 := Lib.hid hs2
    have HD := Lib.hid hd
    clear hR hf L hC hB hs1 hs2 hd
    have e0 : ((p : Int) - (a : Int) == 1) = false := by simp; omega
    have e00 : ((b : Int) - (p : Int) == 1) = false := by simp; omega
    obtain ⟨mid, hmid⟩ : ∃ mid, mid = (a + b) / 2 := ⟨_, rfl⟩
    have hm1 : a < mid := by omega
    have hm2 : mid < b := by omega
    have hm3 : a + b ≤ 2 * mid + 1 := by omega
    have hm4 : 2 * mid ≤ a + b := by omega
    have e1 : ((a : Int) + (b : Int)) / 2 = (mid : Int) := by omega
    clear hmid
    obtain ⟨s0, hs0⟩ : ∃ s0, s0 = (if mid < p then mid + p - b else a) := ⟨_, rfl⟩
    obtain ⟨r0, hr0⟩ : ∃ r0, r0 = (if mid < p then mid else p) := ⟨_, rfl⟩
    have hq1 : a ≤ s0 := by subst hs0; split <;> omega
    have hq2 : s0 ≤ r0 := by subst hs0 hr0; split <;> omega
    have hq3 : r0 ≤ p := by subst hr0; split <;> omega
    have hq4 : r0 ≤ mid := by subst hr0; split <;> omega
    have hq5 : mid + p ≤ s0 + b := by subst hs0; split <;> omega
    have HA0 : Hid (s0 = a ∨ mid + p - s0 = b) := Lib.hid (by subst hs0; split <;> omega)
    have HR0' : Hid (r0 = p ∨ mid + p - r0 = p) := Lib.hid (by subst hr0; split <;> omega)
    go_enter Tryz.func52, Tryz.ntmps52
    go_upto_if 140 with fail
    go_cut [20, 21] from 138 to 146 (fun i j wc => i = .int .i64 s0 ∧ j = .int .i64 r0 ∧ wc = w)
    case first =>
      by_cases hm : mid < p
      · have d1 : decide ((mid : Int) < (p : Int)) = true := by simp; omega
        have d2 : (mid : Int) < (p : Int) := by omega
        rw [if_pos hm] at hs0 hr0
        have K1 := Lib.hid hs0
        have K2 := Lib.hid hr0
        clear hs0 hr0
        go_wp2_with fail
        go_meet
        case rel =>
          have k1 := K1.out
          have k2 := K2.out
          exact ⟨by congr 1; omega, by congr 1; omega, rfl⟩
      · have d1 : decide ((mid : Int) < (p : Int)) = false := by simp; omega
        rw [if_neg hm] at hs0 hr0
        have K1 := Lib.hid hs0
        have K2 := Lib.hid hr0
        clear hs0 hr0
        go_wp2_with fail
        go_meet
        case rel =>
          have k1 := K1.out
          have k2 := K2.out
          exact ⟨by congr 1; omega, by congr 1; omega, rfl⟩
    case rest =>
      obtain ⟨rfl, rfl, rfl⟩ := hcut
      clear hs0 hr0
      obtain ⟨pp, hpp⟩ : ∃ pp, pp = mid + p - 1 := ⟨_, rfl⟩
      have hp9 : ((mid : Int) + (p : Int)) - 1 = (pp : Int) := by omega
      have hp8 : pp + 1 = mid + p := by omega
      clear hpp
      go_wp2_with fail
      go_loopg [20, 21] b (fun gk i j wr => ∃ x y : Nat, i = .int .i64 x ∧ j = .int .i64 y ∧ s0 ≤ x ∧ x ≤ y ∧ y ≤ r0 ∧ y - x ≤ gk ∧ (x = s0 ∨ s0 < x ∧ ¬ ltc cf (f (pp - (x - 1))) (f (x - 1))) ∧ (y = r0 ∨ ltc cf (f (pp - y)) (f y)) ∧ RowF wr g n f ∧ Below B w0 wr)
      case atStart => exact ⟨s0, r0, rfl, rfl, Nat.le_refl _, by omega, Nat.le_refl _, by omega, .inl rfl, .inl rfl, HR0.out, HB0.out⟩
      case round =>
        obtain ⟨x, y, rfl, rfl, hmx, hxy, hyb, hgk, hl, hr, hR2, hB2⟩ := hrel
        have HG2 := Lib.hid hgk
        have HR2 := Lib.hid hR2
        have HB2 := Lib.hid hB2
        have HLL := Lib.hid hl
        have HRR := Lib.hid hr
        clear hgk hl hr hR2 hB2
        by_cases hlt : x < y
        · have e2 : decide ((x : Int) < (y : Int)) = true := by simp; omega
          obtain ⟨h, hh⟩ : ∃ h, h = (x + y) / 2 := ⟨_, rfl⟩
          obtain ⟨q, hq⟩ : ∃ q, q = pp - h := ⟨_, rfl⟩
          have hqn : q < n := by omega
          have hhn : h < n := by omega
          have hCC := HC.out wr.drew (f q) (f h) HB2.out.drew (HF.out _ hqn) (HF.out _ hhn)
          have HCC := Lib.hid hCC
          clear hCC
          have HTW : Hid (TwoI g q h (f q) (f h) wr) := Lib.hid ⟨HR2.out.cell hqn, HR2.out.cell hhn⟩
          have k1 : ∀ W, TwoI g q h (f q) (f h) W → W.cell? ⟨g, q, none⟩ = some (.int .i64 (f q)) := fun _ h => h.a
          have k2 : ∀ W, TwoI g q h (f q) (f h) W → W.cell? ⟨g, h, none⟩ = some (.int .i64 (f h)) := fun _ h => h.b
          have y4 : (q : Int) < (n : Int) := by omega
          have y5 : (h : Int) < (n : Int) := by omega
          have y6 : (pp : Int) - (h : Int) = (q : Int) := by omega
          have y8 : IntKind.i64.wrap (q : Int) = (q : Int) := IntWalk.i64_in _ ⟨by omega, by omega⟩
          obtain ⟨r, hr⟩ : ∃ r, r = cf (f q) (f h) := ⟨_, rfl⟩
          rw [← hr] at HCC
          have HRC := Lib.hid hr
          have HQ := Lib.hid hq
          clear hr hq
          go_wp2_with fail
          rw [show ((x : Int) + (y : Int)) / 2 = (h : Int) by omega]
          have HH := Lib.hid hh
          clear hh
          by_cases hr0 : r < 0
          · have d1 : decide (r < 0) = true := by simp [hr0]
            go_region_held (TwoI g q h (f q) (f h)) (first | exact ⟨HTW.out.a, HTW.out.b⟩ | exact TwoI.below (w := wr.drew) ⟨HTW.out.a, HTW.out.b⟩ hb1) ((go_at_call 17; refine HCC.out.mono ?_; rintro r w1 ⟨hr, hb1⟩; subst hr))
            go_wp2_with fail
            have hlt2 : ltc cf (f (pp - h)) (f h) := by have := HRC.out; have hq := HQ.out; subst hq; unfold ltc; omega
            have hgs : B ≤ wr.drew.heap.size := by have := HR2.out.lt; simp; omega
            go_roundg (h - x)
            case measure => have := HG2.out; have := HH.out; omega
            case rel =>
              have := HH.out
              exact ⟨x, h, rfl, rfl, by omega, by omega, by omega, Nat.le_refl _, HLL.out, .inr hlt2, RowF.below (w := wr.drew) HR2.out hb1 HR2.out.lt, HB2.out.drew.trans (hb1.mono hgs)⟩
          · have d1 : decide (r < 0) = false := by simp; omega
            go_region_held (TwoI g q h (f q) (f h)) (first | exact ⟨HTW.out.a, HTW.out.b⟩ | exact TwoI.below (w := wr.drew) ⟨HTW.out.a, HTW.out.b⟩ hb1) ((go_at_call 17; refine HCC.out.mono ?_; rintro r w1 ⟨hr, hb1⟩; subst hr))
            go_wp2_with fail
            have hlt2 : ¬ ltc cf (f (pp - h)) (f h) := by have := HRC.out; have hq := HQ.out; subst hq; unfold ltc; omega
            have hgs : B ≤ wr.drew.heap.size := by have := HR2.out.lt; simp; omega
            go_roundg (y - (h + 1))
            case measure => have := HG2.out; have := HH.out; omega
            case rel =>
              have := HH.out
              exact ⟨h + 1, y, rfl, rfl, by omega, by omega, hyb, Nat.le_refl _, .inr ⟨by omega, by simpa using hlt2⟩, HRR.out, RowF.below (w := wr.drew) HR2.out hb1 HR2.out.lt, HB2.out.drew.trans (hb1.mono hgs)⟩
        · obtain rfl : x = y := by omega
          have e2 : decide ((x : Int) < (x : Int)) = false := by simp
          obtain ⟨e, he⟩ : ∃ e, e = mid + p - x := ⟨_, rfl⟩
          have he1 : p ≤ e := by omega
          have he2 : e ≤ b := by omega
          have hxp : x ≤ p := by omega
          have hax : a ≤ x := by omega
          have hmx2 : mid = x + (e - p) := by omega
          have hA : x = a ∨ e = b ∨ ¬ ltc cf (f e) (f (x - 1)) := by
            rcases HLL.out with h | ⟨h0, h⟩
            · rcases HA0.out with k | k <;> omega
            · rw [show pp - (x - 1) = e by omega] at h
              exact .inr (.inr h)
          have hBB : x = p ∨ e = p ∨ ltc cf (f (e - 1)) (f x) := by
            rcases HRR.out with h | h
            · rcases HR0'.out with k | k <;> omega
            · rw [show pp - x = e - 1 by omega] at h
              exact .inr (.inr h)
          have HAA := Lib.hid hA
          have HBB := Lib.hid hBB
          have HE := Lib.hid he
          obtain ⟨c1, c2, s1, s2, s3, s4⟩ := merge_mid HL.out HS1.out HS2.out hax hxp he1 he2 hA hBB
          rw [← hmx2] at s2 s3
          have HT1 := Lib.hid s1
          have HT2 := Lib.hid s2
          have HT3 := Lib.hid s3
          have HT4 := Lib.hid s4
          have hf1 := (move_rot n f x p e hxp he1 (by omega)).vals (m := m) (by omega) HF.out
          have HF1 := Lib.hid hf1
          have he3 : ((mid : Int) + (p : Int)) - (x : Int) = (e : Int) := by omega
          have HMX := Lib.hid hmx2
          clear c1 c2 s1 s2 s3 s4 hA hBB hf1 he hmx2
          go_upto_region 39 with fail
          go_cut [185] from 178 to 184 (fun v wx => v = .bool (decide (x < p ∧ p < e)) ∧ wx = wr)
          case first =>
            by_cases c1 : x < p
            · have d1 : decide ((x : Int) < (p : Int)) = true := by simp; omega
              by_cases c2 : p < e
              · have d2 : decide ((p : Int) < (e : Int)) = true := by simp; omega
                go_wp2_with fail
                go_meet
                case rel => exact ⟨by simp [c1, c2], rfl⟩
              · have d2 : decide ((p : Int) < (e : Int)) = false := by simp; omega
                go_wp2_with fail
                go_meet
                case rel => exact ⟨by simp [c1, c2], rfl⟩
            · have d1 : decide ((x : Int) < (p : Int)) = false := by simp; omega
              go_wp2_with fail
              go_meet
              case rel => exact ⟨by simp [c1], rfl⟩
          case rest =>
            obtain ⟨rfl, rfl⟩ := hcut
            go_upto_if 185 with fail
            go_cut [] from 185 to 191 (fun wx => RowF wx g n (rotR f x p e) ∧ Below B w0 wx)
            case first =>
              by_cases c1 : x < p ∧ p < e
              · have d1 : decide (x < p ∧ p < e) = true := by simp [c1]
                go_wp2_with (go_at_call 69; refine (rotate_any x p e _ HR2.out c1.1 c1.2 (by omega) hn).mono ?_; rintro r w1 ⟨hr, hR1, hB1⟩; subst hr)
                go_meet
                case rel => exact ⟨hR1, HB2.out.trans (hB1 B hBg)⟩
              · have d1 : decide (x < p ∧ p < e) = false := by simp; omega
                go_wp2_with fail
                go_meet
                case rel => exact ⟨by rw [rot_id _ _ _ _ (by omega)]; exact HR2.out, HB2.out⟩
            case rest =>
              obtain ⟨hR3, hB3⟩ := hcut
              obtain ⟨wx1, rfl⟩ : ∃ wo, wo = wc := ⟨_, rfl⟩
              have HR3 := Lib.hid hR3
              have HB3 := Lib.hid hB3
              clear hR3 hB3
              obtain ⟨f1, hf1⟩ : ∃ f1, f1 = rotR f x p e := ⟨_, rfl⟩
              rw [← hf1] at HR3 HT1 HT2 HT3 HT4 HF1
              have HF1E := Lib.hid hf1
              clear hf1 HR2 HB2
              go_upto_region 41 with fail
              go_cut [199] from 192 to 198 (fun v wx => v = .bool (decide (a < x ∧ x < mid)) ∧ wx = wx1)
              case first =>
                by_cases c1 : a < x
                · have d1 : decide ((a : Int) < (x : Int)) = true := by simp; omega
                  by_cases c2 : x < mid
                  · have d2 : decide ((x : Int) < (mid : Int)) = true := by simp; omega
                    go_wp2_with fail
                    go_meet
                    case rel => exact ⟨by simp [c1, c2], rfl⟩
                  · have d2 : decide ((x : Int) < (mid : Int)) = false := by simp; omega
                    go_wp2_with fail
                    go_meet
                    case rel => exact ⟨by simp [c1, c2], rfl⟩
                · have d1 : decide ((a : Int) < (x : Int)) = false := by simp; omega
                  go_wp2_with fail
                  go_meet
                  case rel => exact ⟨by simp [c1], rfl⟩
              case rest =>
                obtain ⟨rfl, rfl⟩ := hcut
                go_upto_if 199 with fail
                go_cut [] from 199 to 205 (fun wx => ∃ g2, RowF wx g n g2 ∧ Below B w0 wx ∧ (a < x ∧ x < mid → Sorts (ltc cf) n f1 g2 a mid) ∧ (¬ (a < x ∧ x < mid) → g2 = f1))
                case first =>
                  by_cases c1 : a < x ∧ x < mid
                  · have d1 : decide (a < x ∧ x < mid) = true := by simp [c1]
                    go_wp2_with (go_at_call 52; refine (IH.out _ f1 a x mid (by have := HD.out; omega) HR3.out HF1.out HB3.out c1.1 c1.2 (by omega) HT1.out HT2.out).mono ?_; rintro r w2 ⟨hr, g2, hR4, hS4, hB4⟩; subst hr)
                    go_meet
                    case rel => exact ⟨g2, hR4, hB4, fun _ => hS4, fun h => absurd c1 h⟩
                  · have d1 : decide (a < x ∧ x < mid) = false := by simp; omega
                    go_wp2_with fail
                    go_meet
                    case rel => exact ⟨f1, HR3.out, HB3.out, fun h => absurd h c1, fun _ => rfl⟩
                case rest =>
                  obtain ⟨g2, hR4, hB4, hG1, hG2⟩ := hcut
                  have hme : mid ≤ e := by have := HMX.out; omega
                  have hout : ∀ z, mid ≤ z → g2 z = f1 z := fun z hz => by
                    by_cases c1 : a < x ∧ x < mid
                    · exact (hG1 c1).mv.out z (by omega)
                    · rw [hG2 c1]
                  have t3 := SortedR.keep HT3.out (fun z h1 _ => hout z h1)
                  have t4 := SortedR.keep HT4.out (fun z h1 _ => hout z (by omega))
                  have hg2 : ∀ i, i < n → g2 i < m := by
                    by_cases c1 : a < x ∧ x < mid
                    · exact (hG1 c1).mv.vals (by omega) HF1.out
                    · rw [hG2 c1]; exact HF1.out
                  have HR4 := Lib.hid hR4
                  have HB4 := Lib.hid hB4
                  have HG1 := Lib.hid hG1
                  have HG2' := Lib.hid hG2
                  have HT3' := Lib.hid t3
                  have HT4' := Lib.hid t4
                  have HGV := Lib.hid hg2
                  clear hR4 hB4 hG1 hG2 t3 t4 hg2 hout
                  have FIN : ∀ k, ((mid < e ∧ e < b → Sorts (ltc cf) n g2 k mid b) ∧ (¬ (mid < e ∧ e < b) → k = g2)) → Sorts (ltc cf) n f k a b := by
                    intro k hk
                    have hf1 := HF1E.out
                    subst hf1
                    exact sorts_merge HL.out HS1.out HS2.out hax hxp he1 he2 hbn HAA.out HBB.out HMX.out ⟨fun h _ _ => HG1.out h, HG2'.out⟩ ⟨fun h _ _ => hk.1 h, hk.2⟩
                  have HFIN := Lib.hid FIN
                  clear FIN
                  by_cases c1 : mid < e
                  · have d1 : decide ((mid : Int) < (e : Int)) = true := by simp; omega
                    by_cases c2 : e < b
                    · have d2 : decide ((e : Int) < (b : Int)) = true := by simp; omega
                      go_wp2_with (go_at_call 52; refine (IH.out _ g2 mid e b (by have := HD.out; omega) HR4.out HGV.out HB4.out c1 c2 (by omega) HT3'.out HT4'.out).mono ?_; rintro r w2 ⟨hr, g3, hR5, hS5, hB5⟩; subst hr)
                      go_end0
                      exact ⟨rfl, g3, hR5, HFIN.out _ ⟨fun _ => hS5, fun h => absurd ⟨c1, c2⟩ h⟩, hB5⟩
                    · have d2 : decide ((e : Int) < (b : Int)) = false := by simp; omega
                      go_wp2_with fail
                      go_end0
                      exact ⟨rfl, g2, HR4.out, HFIN.out _ ⟨fun h => absurd h.2 c2, fun _ => rfl⟩, HB4.out⟩
                  · have d1 : decide ((mid : Int) < (e : Int)) = false := by simp; omega
                    go_wp2_with fail
                    go_end0
                    exact ⟨rfl, g2, HR4.out, HFIN.out _ ⟨fun h => absurd h.1 c1, fun _ => rfl⟩, HB4.out⟩
theorem sym_any {w0 : World} {B g n c m v : Nat} {cf : Nat → Nat → Int} (L : Lt3 (ltc cf)) (hC : CmpOK w0 B m v cf) (hBg : B ≤ g) (hn : n ≤ 4611686018427387904) : ∀ d, SymOK w0 B g n c m v cf d
  | 0 => fun w f a p b hd hR hf hB hap hpb hbn hs1 hs2 => absurd hd (by omega)
  | d + 1 => sym_step L hC hBg hn d (sym_any L hC hBg hn d)
end Go.Proofs.YtffjcojehiblnaaGreatDoor

/- slices.stableCmpFunc, slices.SortStableFunc at ints, at every length. -/
namespace Go.Proofs.YtffjcojehiblnaaGreatDoor
open Go.RowKit Go.Joins Go.ChangeShapes Go.WideShapes Go.Deep
set_option linter.unusedVariables false
set_option linter.unusedSimpArgs false
set_option maxRecDepth 100000

/-- What sorting the whole row leaves. -/
def StablePost (w0 : World) (B g n : Nat) (cf : Nat → Nat → Int) (f : Nat → Nat) : Ending → World → Prop := fun r w' =>
  r = .returned (.tuple #[]) ∧ ∃ f', RowF w' g n f' ∧ Keeps (ltc cf) n f f' ∧ SortedR (ltc cf) f' 0 n ∧ Below B w0 w'
theorem insert_int {w0 w : World} {B g n c m v : Nat} {cf : Nat → Nat → Int} {f : Nat → Nat} (L : Lt3 (ltc cf)) (hC : CmpOK w0 B m v cf) (a b : Nat) (hR : RowF w g n f) (hf : ∀ i, i < n → f i < m) (hBg : B ≤ g) (hB : Below B w0 w) (hab : a ≤ b) (hbn : b ≤ n) (hn : n ≤ 4611686018427387904) {x y : Int} (hx : x = a) (hy : y = b) :
    Calls Tryz.prog 51 #[.slice (some ⟨g, 0, none⟩) n c, .int .i64 x, .int .i64 y, cmpV v] w (SortPost w0 B g n cf f a b) := by
  subst hx hy
  exact insert_any L hC a b hR hf hBg hB hab hbn hn
theorem sym_int {w0 w : World} {B g n c m v : Nat} {cf : Nat → Nat → Int} {f : Nat → Nat} (L : Lt3 (ltc cf)) (hC : CmpOK w0 B m v cf) (a p b : Nat) (hR : RowF w g n f) (hf : ∀ i, i < n → f i < m) (hBg : B ≤ g) (hB : Below B w0 w) (hap : a < p) (hpb : p < b) (hbn : b ≤ n) (hn : n ≤ 4611686018427387904) (h1 : SortedR (ltc cf) f a p) (h2 : SortedR (ltc cf) f p b) {x y z : Int} (hx : x = a) (hy : y = p) (hz : z = b) :
    Calls Tryz.prog 52 #[.slice (some ⟨g, 0, none⟩) n c, .int .i64 x, .int .i64 y, .int .i64 z, cmpV v] w (SortPost w0 B g n cf f a b) := by
  subst hx hy hz
  exact sym_any L hC hBg hn (b - a) w f a p b (Nat.le_refl _) hR hf hB hap hpb hbn h1 h2

set_option maxHeartbeats 2000000 in
theorem stable_any {w0 w : World} {B g n c m v : Nat} {cf : Nat → Nat → Int} {f : Nat → Nat} (L : Lt3 (ltc cf)) (hC : CmpOK w0 B m v cf) (hR : RowF w g n f) (hf : ∀ i, i < n → f i < m) (hBg : B ≤ g) (hB : Below B w0 w) (hn : n ≤ 1152921504606846976) :
    Calls Tryz.prog 30 #[.slice (some ⟨g, 0, none⟩) n c, .int .i64 n, cmpV v] w (StablePost w0 B g n cf f) := by
  have HR0 := Lib.hid hR
  have HF := Lib.hid hf
  have HL := Lib.hid L
  have HC := Lib.hid hC
  have HB0 := Lib.hid hB
  clear hR hf L hC hB
  go_enter Tryz.func30, Tryz.ntmps30
  go_wp2_with fail
  go_loopg [7, 8] n (fun gk i j wr => ∃ k x : Nat, i = .int .i64 x ∧ j = .int .i64 (x + 20 : Nat) ∧ x = k * 20 ∧ x ≤ n ∧ gk = n - x ∧ ∃ f1, RowF wr g n f1 ∧ Keeps (ltc cf) n f f1 ∧ RunsTo (ltc cf) f1 n 20 k ∧ Below B w0 wr)
  case atStart => exact ⟨0, 0, rfl, rfl, rfl, Nat.zero_le _, rfl, f, HR0.out, Keeps.refl _ _, fun q h => absurd h (by omega), HB0.out⟩
  case round =>
    obtain ⟨k, x, rfl, rfl, hk, hxn, hgk, f1, hR1, hK1, hT1, hB1⟩ := hrel
    have HG := Lib.hid hgk
    have HR := Lib.hid hR1
    have HK := Lib.hid hK1
    have HT := Lib.hid hT1
    have HB := Lib.hid hB1
    have HKX := Lib.hid hk
    have hf1 := hK1.mv.vals (Nat.le_refl _) HF.out
    have HF1 := Lib.hid hf1
    clear hgk hR1 hK1 hT1 hB1 hf1 hk
    rw [show ((x + 20 : Nat) : Int) = (x : Int) + 20 by omega]
    by_cases hlt : x + 20 ≤ n
    · have e1 : decide ((x : Int) + 20 ≤ (n : Int)) = true := by simp; omega
      go_wp2_with (go_at_call 51; refine (insert_int HL.out HC.out x (x + 20) HR.out HF1.out hBg HB.out (by omega) hlt (by omega) rfl (by omega)).mono ?_; rintro r w1 ⟨hr, f2, hR2, hS2, hB2⟩; subst hr)
      go_roundg (n - (x + 20))
      case measure => have := HG.out; omega
      case rel =>
        have hk := HKX.out
        exact ⟨k + 1, x + 20, by congr 1, by congr 1, by omega, by omega, rfl, f2, hR2, HK.out.sorts hS2 hlt, runs_step HT.out (hk ▸ hS2) (by omega), hB2⟩
    · have e1 : decide ((x : Int) + 20 ≤ (n : Int)) = false := by simp; omega
      go_wp2_with (go_at_call 51; refine (insert_int HL.out HC.out x n HR.out HF1.out hBg HB.out hxn (Nat.le_refl _) (by omega) rfl rfl).mono ?_; rintro r w1 ⟨hr, f2, hR2, hS2, hB2⟩; subst hr)
      have hk := HKX.out
      have hru : RunsFrom (ltc cf) f2 n 20 0 := runs_all (runs_step HT.out (hk ▸ hS2) (by omega)) (by omega)
      have hke := HK.out.sorts hS2 (Nat.le_refl _)
      have HR2 := Lib.hid hR2
      have HU2 := Lib.hid hru
      have HK2 := Lib.hid hke
      have HB2 := Lib.hid hB2
      clear hru hke hR2 hS2 hB2 HR HK HT HB HF1 HG
      go_loopg [6] (2 * n + 20) (fun gk s wr => ∃ bs : Nat, s = .int .i64 bs ∧ 20 ≤ bs ∧ bs ≤ 2 * n + 20 ∧ gk = 2 * n + 40 - bs ∧ ∃ f3, RowF wr g n f3 ∧ Keeps (ltc cf) n f f3 ∧ RunsFrom (ltc cf) f3 n bs 0 ∧ Below B w0 wr)
      case atStart => exact ⟨20, rfl, Nat.le_refl _, by omega, by omega, f2, HR2.out, HK2.out, HU2.out, HB2.out⟩
      case round =>
        clear HR2 HU2 HK2 HB2 hlt e1 hk
        clear HKX
        obtain ⟨wo, rfl⟩ : ∃ wo, wo = wr := ⟨_, rfl⟩
        obtain ⟨bs, rfl, hbs, hbn, hgk, f3, hR3, hK3, hU3, hB3⟩ := hrel
        have HG := Lib.hid hgk
        have HR3 := Lib.hid hR3
        have HK3 := Lib.hid hK3
        have HU3 := Lib.hid hU3
        have HB3 := Lib.hid hB3
        clear hgk hR3 hK3 hU3 hB3
        by_cases hbl : bs < n
        · have e2 : decide ((bs : Int) < (n : Int)) = true := by simp; omega
          have w1 : IntKind.i64.wrap (2 * (bs : Int)) = 2 * (bs : Int) := IntWalk.i64_in _ ⟨by omega, by omega⟩
          go_wp2_with fail
          go_loopg [7, 8] n (fun gk i j wr => ∃ k x : Nat, i = .int .i64 x ∧ j = .int .i64 (x + 2 * bs : Nat) ∧ x = k * (2 * bs) ∧ x ≤ n ∧ gk = n - x ∧ ∃ f4, RowF wr g n f4 ∧ Keeps (ltc cf) n f f4 ∧ RunsTo (ltc cf) f4 n (2 * bs) k ∧ RunsFrom (ltc cf) f4 n bs (2 * k) ∧ Below B w0 wr)
          case atStart => exact ⟨0, 0, rfl, by congr 1; omega, by omega, Nat.zero_le _, rfl, f3, HR3.out, HK3.out, fun q h => absurd h (by omega), HU3.out, HB3.out⟩
          case round =>
            clear HR3 HK3 HU3 HB3
            obtain ⟨k, x, rfl, rfl, hk, hxn, hgk, f4, hR4, hK4, hT4, hU4, hB4⟩ := hrel
            have HG4 := Lib.hid hgk
            have HR4 := Lib.hid hR4
            have HK4 := Lib.hid hK4
            have HT4 := Lib.hid hT4
            have HU4 := Lib.hid hU4
            have HB4 := Lib.hid hB4
            have HKX := Lib.hid hk
            have hf4 := hK4.mv.vals (Nat.le_refl _) HF.out
            have HF4 := Lib.hid hf4
            clear hgk hR4 hK4 hT4 hU4 hB4 hf4
            have hkk : (k + 1) * (2 * bs) = k * (2 * bs) + 2 * bs := Nat.succ_mul _ _
            have hleft : x + bs ≤ n → SortedR (ltc cf) f4 x (x + bs) := fun h => by subst hk; exact runs_left HU4.out h
            have hleft2 : n ≤ x + bs → SortedR (ltc cf) f4 x n := fun h => by subst hk; exact runs_left_end HU4.out h
            have hright : SortedR (ltc cf) f4 (x + bs) (min (x + 2 * bs) n) := by subst hk; exact runs_right HU4.out
            have HLE := Lib.hid hleft
            have HLE2 := Lib.hid hleft2
            have HRI := Lib.hid hright
            have HKK := Lib.hid hkk
            clear hk hkk hleft hleft2 hright
            rw [show ((x + 2 * bs : Nat) : Int) = (x : Int) + 2 * (bs : Int) by omega]
            by_cases hlt : x + 2 * bs ≤ n
            · have e1 : decide ((x : Int) + 2 * (bs : Int) ≤ (n : Int)) = true := by simp; omega
              go_wp2_with (go_at_call 52; refine (sym_int HL.out HC.out x (x + bs) (x + 2 * bs) HR4.out HF4.out hBg HB4.out (by omega) (by omega) hlt (by omega) (HLE.out (by omega)) (by have := HRI.out; rwa [Nat.min_eq_left hlt] at this) rfl (by omega) (by omega)).mono ?_; rintro r w1 ⟨hr, f5, hR5, hS5, hB5⟩; subst hr)
              go_roundg (n - (x + 2 * bs))
              case measure => have := HG4.out; omega
              case rel =>
                have hk := HKX.out
                have hkk := HKK.out
                refine ⟨k + 1, x + 2 * bs, by congr 1 <;> omega, by congr 1 <;> omega, by omega, by omega, rfl, f5, hR5, HK4.out.sorts hS5 hlt, runs_step HT4.out (hk ▸ hS5) (by omega), runs_off HU4.out (by rw [hkk, ← hk]; exact hS5), hB5⟩
            · have e1 : decide ((x : Int) + 2 * (bs : Int) ≤ (n : Int)) = false := by simp; omega
              by_cases hmn : x + bs < n
              · have e3 : decide ((x : Int) + (bs : Int) < (n : Int)) = true := by simp; omega
                go_wp2_with (go_at_call 52; refine (sym_int HL.out HC.out x (x + bs) n HR4.out HF4.out hBg HB4.out (by omega) hmn (Nat.le_refl _) (by omega) (HLE.out (by omega)) (by have := HRI.out; rwa [Nat.min_eq_right (by omega)] at this) rfl (by omega) rfl).mono ?_; rintro r w1 ⟨hr, f5, hR5, hS5, hB5⟩; subst hr)
                go_roundg (2 * n + 40 - 2 * bs)
                case measure => have := HG.out; omega
                case rel =>
                  have hk := HKX.out
                  have hkk := HKK.out
                  exact ⟨2 * bs, by congr 1 <;> omega, by omega, by omega, rfl, f5, hR5, HK4.out.sorts hS5 (Nat.le_refl _), runs_all (runs_step HT4.out (hk ▸ hS5) (by omega)) (by omega), hB5⟩
              · have e3 : decide ((x : Int) + (bs : Int) < (n : Int)) = false := by simp; omega
                go_wp2_with fail
                go_roundg (2 * n + 40 - 2 * bs)
                case measure => have := HG.out; omega
                case rel =>
                  have hk := HKX.out
                  have hkk := HKK.out
                  have hS5 : Sorts (ltc cf) n f4 f4 x n := ⟨Move.refl _ _ _ _, fun _ h => h, HLE2.out (by omega)⟩
                  exact ⟨2 * bs, by congr 1 <;> omega, by omega, by omega, rfl, f4, HR4.out, HK4.out, runs_all (runs_step HT4.out (hk ▸ hS5) (by omega)) (by omega), HB4.out⟩
        · have e2 : decide ((bs : Int) < (n : Int)) = false := by simp; omega
          go_wp2_with fail
          go_end0
          refine ⟨rfl, f3, HR3.out, HK3.out, ?_, HB3.out⟩
          have := HU3.out 0 (Nat.le_refl _)
          rw [Nat.zero_mul, Nat.zero_add, Nat.min_eq_right (by omega)] at this
          exact this
/-- slices.SortStableFunc. -/
theorem sortStable_any {w0 w : World} {B g n c m v : Nat} {cf : Nat → Nat → Int} {f : Nat → Nat} (L : Lt3 (ltc cf)) (hC : CmpOK w0 B m v cf) (hR : RowF w g n f) (hf : ∀ i, i < n → f i < m) (hBg : B ≤ g) (hB : Below B w0 w) (hn : n ≤ 1152921504606846976) :
    Calls Tryz.prog 16 #[.slice (some ⟨g, 0, none⟩) n c, cmpV v] w (StablePost w0 B g n cf f) := by
  have HST := Lib.hid (stable_any (c := c) L hC hR hf hBg hB hn)
  clear hR hf L hC hB
  go_enter Tryz.func16, Tryz.ntmps16
  go_wp2_with (go_at_call 30; refine HST.out.mono ?_; rintro r w1 ⟨hr, hq⟩; subst hr)
  go_end0
  exact ⟨rfl, hq⟩
end Go.Proofs.YtffjcojehiblnaaGreatDoor
