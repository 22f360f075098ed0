/- The library's binary search over a list that rises by keys, at pairs. -/
import Derived.Test.YtpmpgnhbpneloaaQh
namespace Go.Proofs.Ytpmpgnhbpneloaa
open Go.RowKit Go.Joins Go.ChangeShapes Go.WideShapes Go.Deep
set_option linter.unusedVariables false
set_option maxRecDepth 100000

theorem flatK {w : World} {B size n : Nat} {A : Option Addr} {xs : List Value} (h : Reads w B size A n xs) (hn : 0 < n) (hs : 0 < size) :
    ∃ b off, A = some ⟨b, off, none⟩ ∧ b < B ∧ ∀ j u, xs[j]? = some u → w.cell? ⟨b, off + j, none⟩ = some u := by
  obtain ⟨ad, rfl, hb, hc⟩ := h.2 hn
  obtain ⟨b, off, spot⟩ := ad
  have hl : 0 < xs.length := by rw [h.1]; exact Nat.mul_pos hn hs
  have h0 := hc 0 _ (List.getElem?_eq_getElem hl)
  have hs : spot = none := by simpa [Addr.add] using World.cell?_spot h0
  subst hs
  refine ⟨b, off, rfl, hb, fun j u hu => ?_⟩
  have := hc j u hu
  unfold Addr.add at this
  by_cases hj : j = 0
  · subst hj
    simpa using this
  · rw [if_neg hj] at this
    exact this

theorem pairKey_any (X Y : Int) (w : World) : Calls Try.prog 84 #[.agg #[.int .i64 X, .int .i64 Y]] w fun e w' => e = .returned (.int .i64 X) ∧ Below w.heap.size w w' := by
  go_enter Try.func84, Try.ntmps84
  go_wp2
  go_ret
  exact ⟨rfl, (Below.refl _ _).alloc (Nat.le_refl _) _⟩
theorem findKeyP_any (X Y k : Int) (b : Nat) (w : World) (hlt : b < w.heap.size) (hb : w.cell? ⟨b, 0, none⟩ = some (.func (.func 84) #[] #[])) :
    Calls Try.prog 92 #[.agg #[.int .i64 X, .int .i64 Y], .int .i64 k, .pointer (some ⟨b, 0, none⟩)] w fun e w' => e = .returned (.int .i64 (cmpI X k)) ∧ Below w.heap.size w w' := by
  go_enter Try.func92, Try.ntmps92
  go_wp2_with fail
  refine (pairKey_any _ _ _).mono ?_
  rintro e w1 ⟨rfl, hb1⟩
  go_wp2_with fail
  refine (compare_any _ _ _).mono ?_
  rintro e w2 ⟨rfl, rfl⟩
  go_wp2_with fail
  go_ret
  exact ⟨rfl, ((Below.refl _ _).alloc (Nat.le_refl _) _).trans (hb1.mono (by simp))⟩

set_option maxHeartbeats 1000000 in
theorem searchP_any (A : Option Addr) (n c b : Nat) (l : List (Int × Int)) (k : Int) (w : World) (hn : n ≤ 1000) (hA : Reads w w.heap.size 2 A n (prs l)) (hs : l.Pairwise (fun a b => Prod.fst a < Prod.fst b)) (hlt : b < w.heap.size) (hb : w.cell? ⟨b, 0, none⟩ = some (.func (.func 84) #[] #[])) :
    Calls Try.prog 91 #[.slice A n c, .int .i64 k, .func (.func 92) #[] #[.pointer (some ⟨b, 0, none⟩)]] w fun e w' =>
      e = .returned (.tuple #[.int .i64 (low Prod.fst l k), .bool (isAt Prod.fst l k)]) ∧ Below w.heap.size w w' := by
  have hl : l.length = n := by have := hA.1; rw [prs_length] at this; omega
  obtain ⟨lw, hlw⟩ : ∃ lw, lw = low Prod.fst l k := ⟨_, rfl⟩
  obtain ⟨yes, hyes⟩ : ∃ yes, yes = isAt Prod.fst l k := ⟨_, rfl⟩
  rw [← hlw, ← hyes]
  have LW := Lib.hid hlw
  have AT := Lib.hid hyes
  have HS := Lib.hid hs
  have HL := Lib.hid hl
  clear hs hl hlw hyes
  go_enter Try.func91, Try.ntmps91
  go_wp2_with fail
  go_loopg [9, 10] n (fun gk s9 s10 wr => ∃ lo hi : Nat, s9 = .int .i64 lo ∧ s10 = .int .i64 hi ∧ lo ≤ hi ∧ hi ≤ n ∧ hi - lo ≤ gk ∧ Below w.heap.size w wr ∧ (∀ j (h : j < l.length), j < lo → Prod.fst l[j] < k) ∧ (∀ j (h : j < l.length), hi ≤ j → ¬ Prod.fst l[j] < k))
  case atStart => exact ⟨0, n, rfl, rfl, Nat.zero_le _, Nat.le_refl _, by omega, Below.refl _ _, fun j _ h => by omega, fun j h h' => by have := HL.out; omega⟩
  case round =>
    obtain ⟨lo, hi, rfl, rfl, hlh, hin, hg, hbel, h1, h2⟩ := hrel
    have H1 := Lib.hid h1
    have H2 := Lib.hid h2
    have hltr : b < wr.heap.size := by have := hbel.size; omega
    have hbr : wr.cell? ⟨b, 0, none⟩ = some (.func (.func 84) #[] #[]) := (hbel.cell (p := ⟨b, 0, none⟩) hlt).trans hb
    clear h1 h2
    by_cases hlt2 : lo < hi
    · obtain ⟨ab, aoff, rfl, hab, hac⟩ := flatK (hA.below hbel) (by omega) (by omega)
      have hm : (lo + hi) / 2 < l.length := by have := HL.out; omega
      obtain ⟨X, Y, hXY⟩ : ∃ X Y, (X, Y) = l[(lo + hi) / 2] := ⟨_, _, rfl⟩
      have px0 := prs_at l ((lo + hi) / 2) 0 hm (by omega)
      have px1 := prs_at l ((lo + hi) / 2) 1 hm (by omega)
      rw [← hXY] at px0 px1
      have cx : wr.cell? ⟨ab, aoff + (lo + hi) / 2 * 2, none⟩ = some (.int .i64 X) := hac _ _ px0
      have cy : wr.cell? ⟨ab, aoff + (lo + hi) / 2 * 2 + 1, none⟩ = some (.int .i64 Y) := hac _ _ px1
      have hx : X = Prod.fst l[(lo + hi) / 2] := by rw [← hXY]
      have HX := Lib.hid hx
      clear hac hx hXY px0 px1
      by_cases hxk : X < k
      · have e1 : decide (cmpI X k < 0) = true := by rw [cmpI_lt]; simp [hxk]
        go_wp2_with fail
        refine (findKeyP_any _ _ _ _ _ hltr hbr).mono ?_
        rintro e w1 ⟨rfl, hb1⟩
        go_wp2_with fail
        go_roundg (hi - ((lo + hi) / 2 + 1))
        case measure => omega
        case rel =>
          refine ⟨(lo + hi) / 2 + 1, hi, by rw [show ((lo : Int) + (hi : Int)) / 2 + 1 = (((lo + hi) / 2 + 1 : Nat) : Int) by omega], rfl, by omega, hin, Nat.le_refl _, hbel.trans (hb1.mono hbel.size), fun j hj hjl => ?_, H2.out⟩
          rcases Nat.lt_or_ge j ((lo + hi) / 2) with h | h
          · have := List.pairwise_iff_getElem.1 HS.out j ((lo + hi) / 2) hj hm h
            have hx := HX.out
            omega
          · obtain rfl : j = (lo + hi) / 2 := by omega
            rw [← HX.out]
            exact hxk
      · have e1 : decide (cmpI X k < 0) = false := by rw [cmpI_lt]; simp; omega
        go_wp2_with fail
        refine (findKeyP_any _ _ _ _ _ hltr hbr).mono ?_
        rintro e w1 ⟨rfl, hb1⟩
        go_wp2_with fail
        go_roundg ((lo + hi) / 2 - lo)
        case measure => omega
        case rel =>
          refine ⟨lo, (lo + hi) / 2, rfl, by rw [show ((lo : Int) + (hi : Int)) / 2 = (((lo + hi) / 2 : Nat) : Int) by omega], by omega, by omega, Nat.le_refl _, hbel.trans (hb1.mono hbel.size), H1.out, fun j hj hjl => ?_⟩
          rcases Nat.lt_or_ge ((lo + hi) / 2) j with h | h
          · have := List.pairwise_iff_getElem.1 HS.out ((lo + hi) / 2) j hm hj h
            have hx := HX.out
            omega
          · obtain rfl : j = (lo + hi) / 2 := by omega
            rw [← HX.out]
            exact hxk
    · obtain rfl : lo = hi := by omega
      have hlow : low Prod.fst l k = lo := low_eq HS.out lo (by rw [HL.out]; exact hin) H1.out H2.out
      by_cases hn2 : lo < n
      · obtain ⟨ab, aoff, rfl, hab, hac⟩ := flatK (hA.below hbel) (by omega) (by omega)
        have hm : lo < l.length := by have := HL.out; omega
        obtain ⟨X, Y, hXY⟩ : ∃ X Y, (X, Y) = l[lo] := ⟨_, _, rfl⟩
        have px0 := prs_at l lo 0 hm (by omega)
        have px1 := prs_at l lo 1 hm (by omega)
        rw [← hXY] at px0 px1
        have cx : wr.cell? ⟨ab, aoff + lo * 2, none⟩ = some (.int .i64 X) := hac _ _ px0
        have cy : wr.cell? ⟨ab, aoff + lo * 2 + 1, none⟩ = some (.int .i64 Y) := hac _ _ px1
        have hx : X = Prod.fst l[lo] := by rw [← hXY]
        by_cases hxk : X = k
        · have hat : isAt Prod.fst l k = true := isAt_iff.2 ⟨by rw [hlow]; exact hm, by simp only [hlow]; rw [← hx]; exact hxk⟩
          have e1 : (cmpI X k == 0) = true := by rw [cmpI_eq]; simp [hxk]
          obtain rfl : lw = lo := LW.out.trans hlow
          obtain rfl : yes = true := AT.out.trans hat
          clear hac hx hlow hat hxk hXY px0 px1
          go_wp2_with fail
          refine (findKeyP_any _ _ _ _ _ hltr hbr).mono ?_
          rintro e w1 ⟨rfl, hb1⟩
          go_wp2_with fail
          go_ret2
          exact ⟨rfl, hbel.trans (hb1.mono hbel.size)⟩
        · have hat : isAt Prod.fst l k = false := isAt_false fun hh => by simp only [hlow]; rw [← hx]; exact hxk
          have e1 : (cmpI X k == 0) = false := by rw [cmpI_eq]; simp [hxk]
          obtain rfl : lw = lo := LW.out.trans hlow
          obtain rfl : yes = false := AT.out.trans hat
          clear hac hx hlow hat hxk hXY px0 px1
          go_wp2_with fail
          refine (findKeyP_any _ _ _ _ _ hltr hbr).mono ?_
          rintro e w1 ⟨rfl, hb1⟩
          go_wp2_with fail
          go_ret2
          exact ⟨rfl, hbel.trans (hb1.mono hbel.size)⟩
      · have hat : isAt Prod.fst l k = false := isAt_false fun hh => by rw [hlow, HL.out] at hh; exact absurd hh hn2
        obtain rfl : lw = lo := LW.out.trans hlow
        obtain rfl : yes = false := AT.out.trans hat
        clear hlow hat
        go_wp2_with fail
        go_ret2
        exact ⟨rfl, hbel⟩

theorem findP_any (A : Option Addr) (n c : Nat) (l : List (Int × Int)) (k : Int) (w : World) (hn : n ≤ 1000) (hA : Reads w w.heap.size 2 A n (prs l)) (hs : l.Pairwise (fun a b => Prod.fst a < Prod.fst b)) :
    Calls Try.prog 83 #[.slice A n c, .int .i64 k, .func (.func 84) #[] #[]] w fun e w' =>
      e = .returned (.tuple #[.int .i64 (low Prod.fst l k), .bool (isAt Prod.fst l k)]) ∧ Below w.heap.size w w' := by
  have hA2 : Reads (w.alloc (.cells #[.func (.func 84) #[] #[]] 111)) (w.alloc (.cells #[.func (.func 84) #[] #[]] 111)).heap.size 2 A n (prs l) := (hA.alloc (Nat.le_refl _) _).more (by simp)
  go_enter Try.func83, Try.ntmps83
  go_wp2_with fail
  refine (searchP_any A n c w.heap.size l k _ hn hA2 hs (by simp) (by simp)).mono ?_
  rintro e w1 ⟨rfl, hb1⟩
  go_wp2_with fail
  go_ret2
  exact ⟨rfl, ((Below.refl _ _).alloc (Nat.le_refl _) _).trans (hb1.mono (by simp))⟩
end Go.Proofs.Ytpmpgnhbpneloaa
