/- A row of ints in place: slices.swapRangeCmpFunc, slices.rotateCmpFunc exchange and rotate. -/
import Derived.Test.YtffjcojehiblnaaGreatDoorRw
import Derived.Test.YtffjcojehiblnaaGreatDoorPp
import Derived.BigQuiet
import Derived.Deep.Cut
import Derived.Deep.DeepMust
import Derived.Deep.LoopGhost
import Derived.Deep.MidRow
import Derived.Deep.QuietTactic
import Derived.Deep.RegionHeldLaw
import Derived.Deep.RegionLaw
import Derived.Deep.RegionWith
import Derived.IntWalk
namespace Go.Proofs.YtffjcojehiblnaaGreatDoor
open Go.RowKit Go.Joins Go.ChangeShapes Go.WideShapes Go.Deep
set_option linter.unusedVariables false
set_option linter.unusedSimpArgs false
set_option maxRecDepth 100000

/-- The first n cells of a block of ints. -/
def RowF (w : World) (g n : Nat) (f : Nat → Nat) : Prop := ∃ cs, Blk w g 3 cs ∧ n ≤ cs.size ∧ ∀ i, i < n → cs[i]? = some (.int .i64 (f i))
section
variable {w w' : World} {g n : Nat} {f : Nat → Nat}
theorem RowF.cell (h : RowF w g n f) {i : Nat} (hi : i < n) : w.cell? ⟨g, i, none⟩ = some (.int .i64 (f i)) := by
  obtain ⟨cs, hb, _, hc⟩ := h
  exact (hb.cell i).trans (hc i hi)
theorem RowF.frozen (h : RowF w g n f) (i : Nat) : w.frozen? ⟨g, i, none⟩ = false := by
  obtain ⟨cs, hb, _, hc⟩ := h
  exact hb.frozen i
theorem RowF.lt (h : RowF w g n f) : g < w.heap.size := by
  obtain ⟨cs, hb, _, hc⟩ := h
  exact hb.lt
theorem RowF.below {B : Nat} (h : RowF w g n f) (hb : Below B w w') (hg : g < B) : RowF w' g n f := by
  obtain ⟨cs, hk, hn, hc⟩ := h
  exact ⟨cs, hk.below hb hg, hn, hc⟩
theorem RowF.drewN (h : RowF w g n f) (k : Nat) : RowF (w.drewN k) g n f := h
theorem swapR_one (f : Nat → Nat) (i j x : Nat) : swapR f i j 1 x = if x = i then f j else if x = j then f i else f x := by
  unfold swapR
  by_cases h1 : x = i
  · subst h1
    rw [if_pos (by omega), if_pos rfl]
    congr 1
    omega
  · rw [if_neg (by omega), if_neg h1]
    by_cases h2 : x = j
    · subst h2
      rw [if_pos (by omega), if_pos rfl]
      congr 1
      omega
    · rw [if_neg (by omega), if_neg h2]
theorem RowF.swap (h : RowF w g n f) {i j : Nat} (hi : i < n) (hj : j < n) (hij : i ≠ j) : RowF ((w.setCell ⟨g, i, none⟩ (.int .i64 (f j))).setCell ⟨g, j, none⟩ (.int .i64 (f i))) g n (swapR f i j 1) := by
  obtain ⟨cs, hk, hn, hc⟩ := h
  refine ⟨_, (hk.set_ i _).set_ j _, by simpa using hn, fun x hx => ?_⟩
  rw [swapR_one, Array.getElem?_setIfInBounds, Array.getElem?_setIfInBounds]
  by_cases h2 : x = j
  · subst h2
    rw [if_pos rfl, if_pos (by simp; omega), if_neg (fun hh => hij hh.symm), if_pos rfl]
  · rw [if_neg (fun hh => h2 hh.symm)]
    by_cases h1 : x = i
    · subst h1
      rw [if_pos rfl, if_pos (by omega), if_pos rfl]
    · rw [if_neg (fun hh => h1 hh.symm), if_neg h1, if_neg h2]
      exact hc x hx
theorem RowF.pws (h : RowF w g n f) {i j : Nat} (hi : i < n) (hj : j < n) (hij : i ≠ j) : RowF ((w.setCell ⟨g, j, none⟩ (.int .i64 (f i))).setCell ⟨g, i, none⟩ (.int .i64 (f j))) g n (swapR f i j 1) := by
  obtain ⟨cs, hk, hn, hc⟩ := h
  refine ⟨_, (hk.set_ j _).set_ i _, by simpa using hn, fun x hx => ?_⟩
  rw [swapR_one, Array.getElem?_setIfInBounds, Array.getElem?_setIfInBounds]
  by_cases h1 : x = i
  · subst h1
    rw [if_pos rfl, if_pos (by simp; omega), if_pos rfl]
  · rw [if_neg (fun hh => h1 hh.symm), if_neg h1]
    by_cases h2 : x = j
    · subst h2
      rw [if_pos rfl, if_pos (by omega), if_pos rfl]
    · rw [if_neg (fun hh => h2 hh.symm), if_neg h2]
      exact hc x hx
theorem below_drn {B : Nat} {a w : World} (h : Below B a w) (n : Nat) : Below B a (w.drewN n) := ⟨h.os, h.tape, h.output, h.size, h.block⟩
theorem below_set2 {B g i j : Nat} {u v : Value} (h : B ≤ g) (hb : Below B w w') : Below B w ((w'.setCell ⟨g, i, none⟩ u).setCell ⟨g, j, none⟩ v) := Below.setCell (Below.setCell hb h _) h _
end

set_option maxHeartbeats 1000000 in
/-- slices.swapRangeCmpFunc. -/
theorem swapRange_any {w : World} {g n c : Nat} {f : Nat → Nat} (a b k : Nat) (cv : Value) (hR : RowF w g n f) (h1 : a + k ≤ b) (h2 : b + k ≤ n) (hn : n ≤ 4611686018427387904) :
    Calls Tryz.prog 77 #[.slice (some ⟨g, 0, none⟩) n c, .int .i64 a, .int .i64 b, .int .i64 k, cv] w fun r w' => r = .returned (.tuple #[]) ∧ RowF w' g n (swapR f a b k) ∧ ∀ B, B ≤ g → Below B w w' := by
  have HR0 := Lib.hid hR
  clear hR
  go_enter Tryz.func77, Tryz.ntmps77
  go_wp2_with fail
  go_loopg [10] k (fun gk i wr => ∃ x : Nat, i = .int .i64 x ∧ x ≤ k ∧ gk = k - x ∧ RowF wr g n (swapR f a b x) ∧ ∀ B, B ≤ g → Below B w wr)
  case atStart => exact ⟨0, rfl, Nat.zero_le _, rfl, by rw [swapR_zero]; exact HR0.out, fun B _ => Below.refl _ _⟩
  case round =>
    obtain ⟨x, rfl, hx, hgk, hR, hB⟩ := hrel
    have HG := Lib.hid hgk
    have HB := Lib.hid hB
    have HR := Lib.hid hR
    clear hgk hB
    by_cases hxk : x < k
    · have c1 := hR.cell (i := a + x) (by omega)
      have c2 := hR.cell (i := b + x) (by omega)
      have f1 := hR.frozen (a + x)
      have f2 := hR.frozen (b + x)
      clear hR
      go_wp2_with fail
      go_region
      go_wp2_with fail
      go_roundg (k - (x + 1))
      case measure => have := HG.out; omega
      case rel =>
        refine ⟨x + 1, rfl, by omega, rfl, ?_, fun B hB => ?_⟩
        · rw [swapR_succ f a b x (by omega)]
          exact (HR.out.drewN _).swap (by omega) (by omega) (by omega)
        · exact below_set2 hB (below_drn (HB.out B hB) _)
    · have hkk : k = x := by omega
      subst hkk
      clear hR
      go_wp2_with fail
      go_end0
      exact ⟨rfl, HR.out, HB.out⟩
theorem swapRange_int {w : World} {g n c : Nat} {f : Nat → Nat} (a b k : Nat) (cv : Value) (hR : RowF w g n f) (h1 : a + k ≤ b) (h2 : b + k ≤ n) (hn : n ≤ 4611686018427387904) {x y z : Int} (hx : x = a) (hy : y = b) (hz : z = k) :
    Calls Tryz.prog 77 #[.slice (some ⟨g, 0, none⟩) n c, .int .i64 x, .int .i64 y, .int .i64 z, cv] w fun r w' => r = .returned (.tuple #[]) ∧ RowF w' g n (swapR f a b k) ∧ ∀ B, B ≤ g → Below B w w' := by
  subst hx hy hz
  exact swapRange_any a b k cv hR h1 h2 hn
set_option maxHeartbeats 1000000 in
/-- slices.rotateCmpFunc. -/
theorem rotate_any {w : World} {g n c : Nat} {f : Nat → Nat} (a m b : Nat) (cv : Value) (hR : RowF w g n f) (ham : a < m) (hmb : m < b) (hbn : b ≤ n) (hn : n ≤ 4611686018427387904) :
    Calls Tryz.prog 69 #[.slice (some ⟨g, 0, none⟩) n c, .int .i64 a, .int .i64 m, .int .i64 b, cv] w fun r w' => r = .returned (.tuple #[]) ∧ RowF w' g n (rotR f a m b) ∧ ∀ B, B ≤ g → Below B w w' := by
  have HR0 := Lib.hid hR
  clear hR
  go_enter Tryz.func69, Tryz.ntmps69
  go_wp2_with fail
  go_loopg [10, 11] b (fun gk i j wr => ∃ x y : Nat, i = .int .i64 x ∧ j = .int .i64 y ∧ 0 < x ∧ 0 < y ∧ x ≤ m - a ∧ y ≤ b - m ∧ x + y ≤ gk ∧ (∃ fr, RowF wr g n fr ∧ rotR f a m b = rotR fr (m - x) m (m + y)) ∧ ∀ B, B ≤ g → Below B w wr)
  case atStart => exact ⟨m - a, b - m, by congr 1; omega, by congr 1; omega, by omega, by omega, by omega, by omega, by omega, ⟨f, HR0.out, by rw [show m - (m - a) = a by omega, show m + (b - m) = b by omega]⟩, fun B _ => Below.refl _ _⟩
  case round =>
    obtain ⟨x, y, rfl, rfl, hx0, hy0, hxm, hym, hgk, ⟨fr, hR, he⟩, hB⟩ := hrel
    have HE := Lib.hid he
    have HB := Lib.hid hB
    have HR := Lib.hid hR
    have HG := Lib.hid hgk
    clear hgk hB he hR
    by_cases hxy : x = y
    · subst hxy
      have e1 : ((x : Int) != (x : Int)) = false := by simp
      go_wp2_with (go_at_call 77; refine (swapRange_int (m - x) m x _ HR.out (by omega) (by omega) hn (by omega) rfl rfl).mono ?_; rintro r w1 ⟨hr, hR1, hB1⟩; subst hr)
      go_end0
      exact ⟨rfl, by rw [HE.out, rot_same _ _ _ (by omega)]; exact hR1, fun B hB => (HB.out B hB).trans (hB1 B hB)⟩
    · have e1 : ((x : Int) != (y : Int)) = true := by simp; omega
      have e2 : decide ((x : Int) ≠ (y : Int)) = true := by simp; omega
      by_cases hlt : y < x
      · have e3 : decide ((y : Int) < (x : Int)) = true := by simp; omega
        go_wp2_with (go_at_call 77; refine (swapRange_int (m - x) m y _ HR.out (by omega) (by omega) hn (by omega) rfl rfl).mono ?_; rintro r w1 ⟨hr, hR1, hB1⟩; subst hr)
        go_roundg (x - y + y)
        case measure => have := HG.out; omega
        case rel =>
          exact ⟨x - y, y, by congr 1; omega, rfl, by omega, hy0, by omega, hym, Nat.le_refl _, ⟨_, hR1, by rw [HE.out, rot_left _ _ _ _ (by omega) hlt]⟩, fun B hB => (HB.out B hB).trans (hB1 B hB)⟩
      · have e3 : decide ((y : Int) < (x : Int)) = false := by simp; omega
        go_wp2_with (go_at_call 77; refine (swapRange_int (m - x) (m + y - x) x _ HR.out (by omega) (by omega) hn (by omega) (by omega) rfl).mono ?_; rintro r w1 ⟨hr, hR1, hB1⟩; subst hr)
        go_roundg (x + (y - x))
        case measure => have := HG.out; omega
        case rel =>
          exact ⟨x, y - x, rfl, by congr 1; omega, hx0, by omega, hxm, by omega, Nat.le_refl _, ⟨_, hR1, by rw [HE.out, rot_right _ _ _ _ (by omega) (by omega)]⟩, fun B hB => (HB.out B hB).trans (hB1 B hB)⟩
end Go.Proofs.YtffjcojehiblnaaGreatDoor

/- slices.insertionSortCmpFunc at ints, whatever comparer answers by two numbers. -/
namespace Go.Proofs.YtffjcojehiblnaaGreatDoor
open Go.RowKit Go.Joins Go.ChangeShapes Go.WideShapes Go.Deep
set_option linter.unusedVariables false
set_option linter.unusedSimpArgs false
set_option maxRecDepth 100000

abbrev cmpV (v : Nat) : Value := .func (.func 17) #[] #[.pointer (some ⟨v, 0, none⟩)]
/-- The comparer answers by two numbers below m, as long as what lay below B is as it was. -/
def CmpOK (w0 : World) (B m v : Nat) (cf : Nat → Nat → Int) : Prop := ∀ (W : World) (i j : Nat), Below B w0 W → i < m → j < m →
  Calls Tryz.prog 17 #[.int .i64 i, .int .i64 j, .pointer (some ⟨v, 0, none⟩)] W fun r w' => r = .returned (.int .i64 (cf i j)) ∧ Below W.heap.size W w'
def ltc (cf : Nat → Nat → Int) : Nat → Nat → Prop := fun x y => cf x y < 0
/-- Two cells of a block. -/
structure TwoI (g p q x y : Nat) (w : World) : Prop where
  a : w.cell? ⟨g, p, none⟩ = some (.int .i64 x)
  b : w.cell? ⟨g, q, none⟩ = some (.int .i64 y)
theorem TwoI.below {g p q x y : Nat} {w w' : World} (h : TwoI g p q x y w) (hb : Below w.heap.size w w') : TwoI g p q x y w' :=
  ⟨(hb.cell (World.block_lt_of_cell? w _ h.a)).trans h.a, (hb.cell (World.block_lt_of_cell? w _ h.b)).trans h.b⟩
/-- What a call that sorts a part of the row leaves. -/
def SortPost (w0 : World) (B g n : Nat) (cf : Nat → Nat → Int) (f : Nat → Nat) (a b : Nat) : Ending → World → Prop := fun r w' =>
  r = .returned (.tuple #[]) ∧ ∃ f', RowF w' g n f' ∧ Sorts (ltc cf) n f f' a b ∧ Below B w0 w'

theorem ins_sorts {α : Type} {lt : α → α → Prop} (L : Lt3 lt) {n a x y : Nat} {f f1 f2 : Nat → α} (S : Sorts lt n f f1 a x) (M : Move n f1 f2 a (x + 1)) (T : ∀ R, Stab lt R n f1 → Stab lt R n f2) (I : Ins lt f2 a y x) (hx : x ≤ n) (hd : y = a ∨ ¬ lt (f2 y) (f2 (y - 1))) : Sorts lt n f f2 a (x + 1) :=
  ⟨(S.mv.wide (Nat.le_refl _) (by omega)).trans M, fun R h => T R (S.st R h), ins_done L I hd⟩

set_option maxHeartbeats 2000000 in
theorem insert_any {w0 w : World} {B g n c m v : Nat} {cf : Nat → Nat → Int} {f : Nat → Nat} (L : Lt3 (ltc cf)) (hC : CmpOK w0 B m v cf) (a b : Nat) (hR : RowF w g n f) (hf : ∀ i, i < n → f i < m) (hBg : B ≤ g) (hB : Below B w0 w) (hab : a ≤ b) (hbn : b ≤ n) (hn : n ≤ 4611686018427387904) :
    Calls Tryz.prog 51 #[.slice (some ⟨g, 0, none⟩) n c, .int .i64 a, .int .i64 b, cmpV v] w (SortPost w0 B g n cf f a b) := by
  have HR0 := Lib.hid hR
  have HF := Lib.hid hf
  have HL := Lib.hid L
  have HC := Lib.hid hC
  have HB0 := Lib.hid hB
  clear hR hf L hC hB
  have k1 : ∀ (p q x y : Nat) (W : World), TwoI g p q x y W → W.cell? ⟨g, p, none⟩ = some (.int .i64 x) := fun _ _ _ _ _ h => h.a
  have k2 : ∀ (p q x y : Nat) (W : World), TwoI g p q x y W → W.cell? ⟨g, q, none⟩ = some (.int .i64 y) := fun _ _ _ _ _ h => h.b
  have K1 := Lib.hid k1
  have K2 := Lib.hid k2
  clear k1 k2
  go_enter Tryz.func51, Tryz.ntmps51
  go_wp2_with fail
  go_loopg [8] (n - a) (fun gk i wr => ∃ x : Nat, i = .int .i64 x ∧ a + 1 ≤ x ∧ x ≤ n + 1 ∧ (x ≤ b ∨ x = a + 1) ∧ gk = n + 1 - x ∧ ∃ f1, RowF wr g n f1 ∧ Sorts (ltc cf) n f f1 a x ∧ Below B w0 wr)
  case atStart => exact ⟨a + 1, by congr 1, by omega, by omega, .inr rfl, by omega, f, HR0.out, Sorts.refl_one HL.out _ _ (Nat.le_refl _), HB0.out⟩
  case round =>
    obtain ⟨wo, rfl⟩ : ∃ wo, wo = wr := ⟨_, rfl⟩
    obtain ⟨x, rfl, hax, hxn, hxb, hgk, f1, hR1, hS1, hB1⟩ := hrel
    have HG := Lib.hid hgk
    have HS := Lib.hid hS1
    have HR := Lib.hid hR1
    have HB := Lib.hid hB1
    clear hgk hS1 hR1 hB1
    by_cases hlt : x < b
    · have e1 : decide ((x : Int) < (b : Int)) = true := by simp; omega
      have hf1 : ∀ i, i < n → f1 i < m := (HS.out.mv.wide (b' := n) (Nat.le_refl _) (by omega)).vals (Nat.le_refl _) HF.out
      have HF1 := Lib.hid hf1
      clear hf1
      go_wp2_with fail
      go_loopg [9] x (fun gk j wr => ∃ y : Nat, j = .int .i64 y ∧ a ≤ y ∧ y ≤ x ∧ gk = y ∧ ∃ f2, RowF wr g n f2 ∧ Ins (ltc cf) f2 a y x ∧ Move n f1 f2 a (x + 1) ∧ (∀ R, Stab (ltc cf) R n f1 → Stab (ltc cf) R n f2) ∧ Below B w0 wr)
      case atStart => exact ⟨x, rfl, by omega, Nat.le_refl _, rfl, f1, HR.out, ins_start HS.out.so (by omega), Move.refl _ _ _ _, fun _ h => h, HB.out⟩
      case round =>
        obtain ⟨y, rfl, hay, hyx, hgk2, f2, hR2, hI2, hM2, hT2, hB2⟩ := hrel
        have HG2 := Lib.hid hgk2
        have HR2 := Lib.hid hR2
        have HI2 := Lib.hid hI2
        have HM2 := Lib.hid hM2
        have HT2 := Lib.hid hT2
        have HB2 := Lib.hid hB2
        clear hgk2 hR2 hI2 hM2 hT2 hB2
        have hf2 : ∀ i, i < n → f2 i < m := (HM2.out.wide (b' := n) (Nat.le_refl _) (by omega)).vals (Nat.le_refl _) HF1.out
        have HF2 := Lib.hid hf2
        clear hf2
        by_cases hja : a < y
        · obtain ⟨q, rfl⟩ : ∃ q, y = q + 1 := ⟨y - 1, by omega⟩
          rw [show ((q + 1 : Nat) : Int) = (q : Int) + 1 by omega]
          have e2 : decide ((a : Int) < (q : Int) + 1) = true := by simp; omega
          have hCC := HC.out wr.drew (f2 (q + 1)) (f2 q) HB2.out.drew (HF2.out _ (by omega)) (HF2.out _ (by omega))
          have HCC := Lib.hid hCC
          clear hCC
          have HTW : Hid (TwoI g (q + 1) q (f2 (q + 1)) (f2 q) wr) := Lib.hid ⟨HR2.out.cell (by omega), HR2.out.cell (by omega)⟩
          have k1 : ∀ W, TwoI g (q + 1) q (f2 (q + 1)) (f2 q) W → W.cell? ⟨g, q + 1, none⟩ = some (.int .i64 (f2 (q + 1))) := fun _ h => h.a
          have k2 : ∀ W, TwoI g (q + 1) q (f2 (q + 1)) (f2 q) W → W.cell? ⟨g, q, none⟩ = some (.int .i64 (f2 q)) := fun _ h => h.b
          have y4 : (q : Int) + 1 < (n : Int) := by omega
          have y8 : IntKind.i64.wrap (q : Int) = (q : Int) := IntWalk.i64_in _ ⟨by omega, by omega⟩
          have y5 : (q : Int) < (n : Int) := by omega
          have y6 : q < n := by omega
          have y7 : q + 1 < n := by omega
          obtain ⟨r, hr⟩ : ∃ r, r = cf (f2 (q + 1)) (f2 q) := ⟨_, rfl⟩
          rw [← hr] at HCC
          have HRR := Lib.hid hr
          clear hr
          by_cases hr0 : r < 0
          · have d1 : decide (r < 0) = true := by simp [hr0]
            go_wp2_with fail
            go_region_held (TwoI g (q + 1) q (f2 (q + 1)) (f2 q)) (first | exact ⟨HTW.out.a, HTW.out.b⟩ | exact TwoI.below (w := wr.drew) ⟨HTW.out.a, HTW.out.b⟩ hb1) ((go_at_call 17; refine HCC.out.mono ?_; rintro r w1 ⟨hr, hb1⟩; subst hr))
            have hR1 : RowF w1 g n f2 := RowF.below (w := wr.drew) HR2.out hb1 HR2.out.lt
            have c1 := hR1.cell (i := q + 1) (by omega)
            have c2 := hR1.cell (i := q) (by omega)
            have fz1 := hR1.frozen (q + 1)
            have fz2 := hR1.frozen q
            have hgs : B ≤ wr.drew.heap.size := by have := HR2.out.lt; simp; omega
            have HR1 := Lib.hid hR1
            have HBB := Lib.hid (HB2.out.drew.trans (hb1.mono hgs))
            clear hR1 hb1
            go_wp2_with fail
            go_region
            go_wp2_with fail
            have hlt2 : ltc cf (f2 (q + 1)) (f2 q) := by have := HRR.out; unfold ltc; omega
            go_roundg q
            case measure => have := HG2.out; omega
            case rel =>
              exact ⟨q, by congr 1 <;> omega, by omega, by omega, rfl, _, (HR1.out.drewN _).pws (i := q) (j := q + 1) (by omega) (by omega) (by omega), ins_step HL.out HI2.out (by omega) hlt2, HM2.out.trans (move_swap1 n f2 a (x + 1) q (q + 1) (by omega) (by omega) (by omega) (by omega)), fun R h => stab_swap HL.out (HT2.out R h) (by omega) hlt2, below_set2 hBg (below_drn HBB.out _)⟩
          · have d1 : decide (r < 0) = false := by simp; omega
            go_wp2_with fail
            go_region_held (TwoI g (q + 1) q (f2 (q + 1)) (f2 q)) (first | exact ⟨HTW.out.a, HTW.out.b⟩ | exact TwoI.below (w := wr.drew) ⟨HTW.out.a, HTW.out.b⟩ hb1) ((go_at_call 17; refine HCC.out.mono ?_; rintro r w1 ⟨hr, hb1⟩; subst hr))
            go_wp2_with fail
            have hlt2 : ¬ ltc cf (f2 (q + 1)) (f2 q) := by have := HRR.out; unfold ltc; omega
            have hgs : B ≤ wr.drew.heap.size := by have := HR2.out.lt; simp; omega
            go_roundg (n + 1 - (x + 1))
            case measure => have := HG.out; omega
            case rel =>
              exact ⟨x + 1, rfl, by omega, by omega, .inl (by omega), rfl, f2, RowF.below (w := wr.drew) HR2.out hb1 HR2.out.lt, ins_sorts HL.out HS.out HM2.out HT2.out HI2.out (by omega) (.inr hlt2), HB2.out.drew.trans (hb1.mono hgs)⟩
        · have e2 : decide ((a : Int) < (y : Int)) = false := by simp; omega
          go_wp2_with fail
          go_quiet (fail)
          go_wp2_with fail
          go_roundg (n + 1 - (x + 1))
          case measure => have := HG.out; omega
          case rel =>
            exact ⟨x + 1, rfl, by omega, by omega, .inl (by omega), rfl, f2, HR2.out.drewN _, ins_sorts HL.out HS.out HM2.out HT2.out HI2.out (by omega) (.inl (by omega)), below_drn HB2.out _⟩
    · have e1 : decide ((x : Int) < (b : Int)) = false := by simp; omega
      go_wp2_with fail
      go_end0
      refine ⟨rfl, f1, HR.out, ?_, HB.out⟩
      rcases hxb with h | h
      · obtain rfl : x = b := by omega
        exact HS.out
      · subst h
        have hba : b = a ∨ b = a + 1 := by omega
        rcases hba with h | h
        · subst h
          have he : f1 = f := funext fun y => by
            by_cases hy : y = b
            · subst hy
              obtain ⟨z, z1, z2, e⟩ := HS.out.mv.wi y (Nat.le_refl _) (by omega)
              rw [e]
              congr 1
              omega
            · exact HS.out.mv.out y (by omega)
          rw [he]
          exact Sorts.refl_one HL.out _ _ (by omega)
        · subst h
          exact HS.out
end Go.Proofs.YtffjcojehiblnaaGreatDoor
