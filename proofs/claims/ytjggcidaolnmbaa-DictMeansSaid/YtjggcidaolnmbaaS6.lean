/- What SameShape says of two shapes that are alike. -/
import Derived.Test.YtjggcidaolnmbaaS5
import Derived.Test.YtjggcidaolnmbaaNum
namespace Go.Proofs.Ytjggcidaolnmbaa
open Go.RowKit Go.Joins Go.ChangeShapes Go.WideShapes Go.Deep
set_option linter.unusedVariables false
set_option maxRecDepth 100000

theorem Reads.flatN {w : World} {B size n : Nat} {A : Option Addr} {xs : List Value} (h : Reads w B size A n xs) (hn : 0 < n) (hs : 0 < size) :
    ∃ b off, A = some ⟨b, off, none⟩ ∧ b < B ∧ ∀ j u, xs[j]? = some u → w.cell? ⟨b, off + j, none⟩ = some u := by
  obtain ⟨ad, rfl, hb, hc⟩ := h.2 hn
  obtain ⟨b, off, spot⟩ := ad
  have hl : 0 < xs.length := by have := h.1; have := Nat.mul_pos hn hs; omega
  have h0 := hc 0 _ (List.getElem?_eq_getElem hl)
  have hs : spot = none := by simpa [Addr.add] using World.cell?_spot h0
  subst hs
  refine ⟨b, off, rfl, hb, fun j u hu => ?_⟩
  have := hc j u hu
  unfold Addr.add at this
  by_cases hj : j = 0
  · subst hj
    simpa using this
  · rw [if_neg hj] at this
    simpa using this

set_option maxHeartbeats 1000000 in
theorem sameshape_yes (K : Int) (P Q : Option Addr) (n c d : Nat) (xs : List (Int × Int)) (w : World) (hn : n ≤ 1000) (hA : Reads w w.heap.size 2 P n (prs xs)) (hB : Reads w w.heap.size 2 Q n (prs xs)) :
    Calls Try.prog 24 #[.agg #[.int .i64 K, .slice none 0 0, .slice P n c], .agg #[.int .i64 K, .slice none 0 0, .slice Q n d]] w fun e w' => e = .returned (.bool true) ∧ Below w.heap.size w w' := by
  have hlen : xs.length = n := by have := hA.1; rw [prs_length] at this; omega
  have HL := Lib.hid hlen
  clear hlen
  have hnn : ((n : Int) != (n : Int)) = false := by simp
  have hkk : (K != K) = false := by simp
  have hbe := Below.refl w.heap.size w
  go_enter Try.func24, Try.ntmps24
  go_wp2_with fail
  refine (same_yes none none 0 0 0 [] _ 0 0 (by omega) (by exact ⟨rfl, fun h => absurd h (by omega)⟩) (by exact ⟨rfl, fun h => absurd h (by omega)⟩)).mono ?_
  rintro e w2 ⟨rfl, j0, rfl⟩
  have hBA : Blk (((w.alloc (.cells #[.int .i64 K, .slice none 0 0, .slice P n c] 47)).alloc (.cells #[.int .i64 K, .slice none 0 0, .slice Q n d] 47)).drewN j0) w.heap.size 47 #[.int .i64 K, .slice none 0 0, .slice P n c] := ((Blk.new _ _ _).alloc _).drewN _
  have hBB : Blk (((w.alloc (.cells #[.int .i64 K, .slice none 0 0, .slice P n c] 47)).alloc (.cells #[.int .i64 K, .slice none 0 0, .slice Q n d] 47)).drewN j0) (w.heap.size + 1) 47 #[.int .i64 K, .slice none 0 0, .slice Q n d] := (Blk.new' (by simp)).drewN _
  have hbW : Below w.heap.size w (((w.alloc (.cells #[.int .i64 K, .slice none 0 0, .slice P n c] 47)).alloc (.cells #[.int .i64 K, .slice none 0 0, .slice Q n d] 47)).drewN j0) := by repeat (first | with_reducible exact hbe | with_reducible refine Below.drew ?_ | with_reducible refine below_drewN ?_ _ | ((with_reducible refine Below.alloc ?_ ?_ _); (rotate_left; focus (first | with_reducible exact Nat.le_refl _ | omega | (simp; done) | (simp; omega) | (simp [World.setCell]; done) | (simp [World.setCell]; omega)))) | ((with_reducible refine Below.setCell ?_ ?_ _); (rotate_left; focus (first | with_reducible exact Nat.le_refl _ | omega | (simp; done) | (simp; omega) | (simp [World.setCell]; done) | (simp [World.setCell]; omega)))))
  generalize ((w.alloc (.cells #[.int .i64 K, .slice none 0 0, .slice P n c] 47)).alloc (.cells #[.int .i64 K, .slice none 0 0, .slice Q n d] 47)).drewN j0 = W1 at *
  have a0 : W1.cell? ⟨w.heap.size, 0, none⟩ = some (.int .i64 K) := (hBA.cell 0).trans rfl
  have a2 : W1.cell? ⟨w.heap.size, 2, none⟩ = some (.slice P n c) := (hBA.cell 2).trans rfl
  have b0 : W1.cell? ⟨w.heap.size + 1, 0, none⟩ = some (.int .i64 K) := (hBB.cell 0).trans rfl
  have b2 : W1.cell? ⟨w.heap.size + 1, 2, none⟩ = some (.slice Q n d) := (hBB.cell 2).trans rfl
  go_wp2_with fail
  go_loopg [6] n (fun gk i wr => ∃ k j : Nat, k ≤ n ∧ gk = n - k ∧ i = .int .i64 k ∧ wr = W1.drewN j)
  case atStart => exact ⟨0, 0, Nat.zero_le _, rfl, rfl, rfl⟩
  case round =>
    obtain ⟨k, j, hk, hgk, rfl, rfl⟩ := hrel
    have HG := Lib.hid hgk
    clear hgk
    by_cases hkn : k < n
    · obtain ⟨b, off, rfl, hb, hc⟩ := (hA.below hbW).flatN (by omega) (by omega)
      obtain ⟨b', off', rfl, hb', hc'⟩ := (hB.below hbW).flatN (by omega) (by omega)
      have hkl : k < xs.length := by rw [HL.out]; exact hkn
      obtain ⟨X, Y, hXY⟩ : ∃ X Y, (X, Y) = xs[k] := ⟨_, _, rfl⟩
      have px0 := prs_at xs k 0 hkl (by omega)
      have px1 := prs_at xs k 1 hkl (by omega)
      rw [← hXY] at px0 px1
      have cx0 : W1.cell? ⟨b, off + k * 2, none⟩ = some (.int .i64 X) := hc _ _ px0
      have cx1 : W1.cell? ⟨b, off + k * 2 + 1, none⟩ = some (.int .i64 Y) := hc _ _ px1
      have cy0 : W1.cell? ⟨b', off' + k * 2, none⟩ = some (.int .i64 X) := hc' _ _ px0
      have cy1 : W1.cell? ⟨b', off' + k * 2 + 1, none⟩ = some (.int .i64 Y) := hc' _ _ px1
      have hki : (k : Int) < (n : Int) := by omega
      have hkt : decide ((k : Int) < (n : Int)) = true := by simp; omega
      clear hc hc' hXY px0 px1
      go_wp2_with fail
      go_quiet (fail)
      go_wp2_with fail
      go_roundg (n - (k + 1))
      case measure => have := HG.out; omega
      case rel => exact ⟨k + 1, _, by omega, rfl, by go_num, rfl⟩
    · have hkt : decide ((k : Int) < (n : Int)) = false := by simp; omega
      go_wp2_with fail
      go_ret
      exact ⟨rfl, below_drewN hbW _⟩
theorem dshape_any (most : Int) (cs : List Int) (A : Option Addr) (n nc : Nat) (w : World) (hl : cs.length = n) (hA : Reads w w.heap.size 1 A n (ints cs)) :
    Calls Try.prog 22 #[.int .i64 most, .slice A n nc] w (ShapePost (shapeR most cs) w) := by
  by_cases h : 0 ≤ most ∧ most ≤ 16 ∧ (cs.length : Int) = 3 * most + 1
  · obtain ⟨h1, h2, h3⟩ := h
    obtain ⟨m, rfl⟩ := Int.eq_ofNat_of_zero_le h1
    exact dshape_yes m cs A n nc w (by omega) (by omega) (by omega) hA
  · exact dshape_no most cs A n nc w hl h
theorem rshape_any (most : Int) (cs : List Int) (A : Option Addr) (n nc : Nat) (w : World) (hl : cs.length = n) (hA : Reads w w.heap.size 1 A n (ints cs)) :
    Calls Try.prog 23 #[.int .i64 most, .slice A n nc] w (ShapePost (shapeR most cs) w) := by
  by_cases h : 0 ≤ most ∧ most ≤ 16 ∧ (cs.length : Int) = 3 * most + 1
  · obtain ⟨h1, h2, h3⟩ := h
    obtain ⟨m, rfl⟩ := Int.eq_ofNat_of_zero_le h1
    exact rshape_yes m cs A n nc w (by omega) (by omega) (by omega) hA
  · exact rshape_no most cs A n nc w hl h
theorem accF_len {m : Nat} {cs : List Int} : ∀ {k : Nat} {l : List (Int × Int)}, accF m cs k = some l → l.length ≤ k := fun {k l} h => (accF_keys m cs k l h).1
theorem shapeR_len (most : Int) (cs : List Int) : (shapeR most cs).2.2.length ≤ 16 := by
  unfold shapeR
  split
  · split
    · simp
    · rename_i hh l hl
      split
      · have := accF_len hl
        simp only [sortI_length]
        omega
      · simp
  · simp
end Go.Proofs.Ytjggcidaolnmbaa
