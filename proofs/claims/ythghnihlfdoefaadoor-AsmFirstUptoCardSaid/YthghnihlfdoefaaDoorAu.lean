/- carouselref14: leads, target, Words. -/
import Derived.Test.YthghnihlfdoefaaDoorAs
import Derived.StillTailTactics
namespace Go.Proofs.YthghnihlfdoefaaDoor
open Go.RowKit Go.Joins Go.ChangeShapes Go.WideShapes Go.Deep Go.Maps Go.Sort
set_option linter.unusedVariables false
set_option linter.unusedSimpArgs false
set_option maxRecDepth 100000

theorem rleads_any (c : Nat) (w : World) : Calls Tryd.prog 45 #[.int .i64 c] w fun r w' => r = .returned (.bool (leadsF c)) ∧ w' = w := by
  by_cases h24 : c = 24
  · subst h24
    go_enter Tryd.func45, Tryd.ntmps45
    go_wp2
    go_ret
    exact ⟨rfl, rfl⟩
  · by_cases h25 : c = 25
    · subst h25
      go_enter Tryd.func45, Tryd.ntmps45
      go_wp2
      go_ret
      exact ⟨rfl, rfl⟩
    · by_cases h26 : c = 26
      · subst h26
        go_enter Tryd.func45, Tryd.ntmps45
        go_wp2
        go_ret
        exact ⟨rfl, rfl⟩
      · have d1 : ((c : Int) == 24) = false := by simp; omega
        have d2 : ((c : Int) == 25) = false := by simp; omega
        have d3 : ((c : Int) == 26) = false := by simp; omega
        have HL : Hid (leadsF c = false) := Lib.hid (by simp [leadsF, h24, h25, h26])
        go_enter Tryd.func45, Tryd.ntmps45
        go_wp2
        go_ret
        exact ⟨by rw [HL.out]; rfl, rfl⟩
/-- Places, as a list lies. -/
def plc (l : List Nat) : List Value := l.map fun (p : Nat) => .int .i64 (p : Int)
theorem plc_length (l : List Nat) : (plc l).length = l.length := by simp [plc]
theorem plc_at (l : List Nat) (i : Nat) (h : i < l.length) : (plc l)[i]? = some (.int .i64 (l[i] : Int)) := by simp [plc, h]
def placesF (L : List AOp) (m : Nat) : List Nat := (List.range m).map fun i => sizeF (L.take i)
theorem placesF_length (L : List AOp) (m : Nat) : (placesF L m).length = m := by simp [placesF]
theorem placesF_at (L : List AOp) (m i : Nat) (h : i < m) : (placesF L m)[i]'(by rw [placesF_length]; exact h) = sizeF (L.take i) := by simp [placesF]
theorem placesF_succ (L : List AOp) (m : Nat) : placesF L (m + 1) = placesF L m ++ [sizeF (L.take m)] := by simp [placesF, List.range_succ]
theorem plc_snoc (l : List Nat) (x : Nat) : plc (l ++ [x]) = plc l ++ [.int .i64 (x : Int)] := by simp [plc]
/-- What target tells. -/
def tgtV (x : Option Int) : Int := x.getD (-1)
def TgtPost (x : Option Int) (w : World) (e : Ending) (w' : World) : Prop := e = .returned (.int .i64 (tgtV x)) ∧ Below w.heap.size w w'
theorem begF_iff (L : List AOp) (m : Nat) (n : Int) : begF L m n = true ↔ n = (sizeF L : Int) ∨ ∃ i, i < m ∧ n = (sizeF (L.take i) : Int) := by
  simp [begF]
set_option maxHeartbeats 2000000 in
theorem target_any (L : List AOp) (c : Nat) (v : Int) (p : Nat) (hf : fitsF (shapeF c) v = true) (hp : p ≤ 512) (hs : sizeF L ≤ 512) (A : Option Addr) (n nc : Nat) (hn : n = L.length) (hn5 : n ≤ 512) (w : World) (hA : Reads w w.heap.size 1 A n (plc (placesF L n))) :
    Calls Tryd.prog 26 #[.agg #[.int .i64 c, .int .i64 v], .int .i64 p, .slice A n nc, .int .i64 (sizeF L : Nat)] w (TgtPost (tgtF L ⟨c, v⟩ p) w) := by
  by_cases hl : leadsF c = true
  · obtain ⟨_, v1, v2⟩ := lead_fit hl hf
    have HLQ := Lib.hid (show ∀ W, Calls Tryd.prog 45 #[.int .i64 c] W fun r w' => r = .returned (.bool true) ∧ w' = W from fun W => (rleads_any c W).mono fun r w' h => ⟨by rw [h.1, hl], h.2⟩)
    obtain ⟨t, ht⟩ : ∃ t, t = toF ⟨c, v⟩ p := ⟨_, rfl⟩
    have htv : t = if c = 26 then v else v + p + 3 := by rw [ht]; rfl
    have htl : -40000 ≤ t ∧ t ≤ 70000 := by rw [htv]; split <;> omega
    obtain ⟨t1, t2⟩ := htl
    have hT : tgtF L ⟨c, v⟩ p = if begF L L.length t then some t else none := by simp [tgtF, hl, ← ht]
    have HT := Lib.hid hT
    obtain ⟨x, hx⟩ : ∃ x, x = tgtF L ⟨c, v⟩ p := ⟨_, rfl⟩
    rw [← hx] at HT ⊢
    have HN := Lib.hid hn
    clear hl hf ht hT hx hn
    have HTV := Lib.hid htv
    obtain ⟨sz, hsz⟩ : ∃ sz, sz = sizeF L := ⟨_, rfl⟩
    have HSZ := Lib.hid hsz
    rw [← hsz] at hs ⊢
    clear hsz
    by_cases h26 : c = 26
    · subst h26
      rw [if_pos rfl] at htv
      subst htv
      clear HTV
      by_cases he : t = (sz : Int)
      · have hxx : x = some t := by
          rw [HT.out, if_pos ((begF_iff L _ t).2 (.inl (by rw [he, HSZ.out])))]
        have HXX := Lib.hid hxx
        have g1 : (t == (sz : Int)) = true := by simp [he]
        have HE := Lib.hid he
        clear hxx he
        go_enter Tryd.func26, Tryd.ntmps26
        go_wp2_with (go_at_call 45; refine (HLQ.out _).mono ?_; rintro r w1 ⟨hr, hw⟩; subst hr; subst hw)
        go_ret
        exact ⟨by rw [HXX.out]; show Ending.returned (.int .i64 (sz : Int)) = Ending.returned (.int .i64 t); rw [HE.out], by repeat (first | with_reducible exact Below.refl _ _ | with_reducible refine Below.drew ?_ | with_reducible refine below_drewN ?_ _ | ((with_reducible refine Below.alloc ?_ ?_ _); (rotate_left; focus (first | with_reducible exact Nat.le_refl _ | omega | (simp; done) | (simp; omega) | (simp [World.setCell]; done) | (simp [World.setCell]; omega)))) | ((with_reducible refine Below.setCell ?_ ?_ _); (rotate_left; focus (first | with_reducible exact Nat.le_refl _ | omega | (simp; done) | (simp; omega) | (simp [World.setCell]; done) | (simp [World.setCell]; omega)))))⟩
      · have g1 : (t == (sz : Int)) = false := by simp [he]
        have HE := Lib.hid he
        clear he
        go_enter Tryd.func26, Tryd.ntmps26
        go_wp2_with (go_at_call 45; refine (HLQ.out _).mono ?_; rintro r w1 ⟨hr, hw⟩; subst hr; subst hw)
        have hb1 : Below w.heap.size w (w.alloc (.cells #[.int .i64 26, .int .i64 t] 36)) := (Below.refl _ _).alloc (Nat.le_refl _) _
        have HB1 := Lib.hid hb1
        have hA1 := hA.below hb1
        generalize w.alloc (.cells #[.int .i64 26, .int .i64 t] 36) = W1 at *
        have HA1 := Lib.hid hA1
        clear hA hA1 hb1
        go_loopg [11] n (fun gk iv W => ∃ i : Nat, iv = .int .i64 i ∧ i ≤ n ∧ gk = n - i ∧ (∀ j, j < i → t ≠ (sizeF (L.take j) : Int)) ∧ W = W1)
        case atStart => exact ⟨0, rfl, Nat.zero_le _, rfl, fun j hj => absurd hj (by omega), rfl⟩
        case round =>
          obtain ⟨i, rfl, hi, hgk, hno, rfl⟩ := hrel
          have HG := Lib.hid hgk
          have HNO := Lib.hid hno
          clear hgk hno
          by_cases hin : i < n
          · obtain ⟨b, off, rfl, hb, hc⟩ := HA1.out.flat (by omega)
            have hP := plc_at (placesF L n) i (by rw [placesF_length]; exact hin)
            rw [placesF_at L n i hin] at hP
            obtain ⟨P, hPP⟩ : ∃ P, P = sizeF (L.take i) := ⟨_, rfl⟩
            rw [← hPP] at hP
            have HPP := Lib.hid hPP
            have cx : wr.cell? ⟨b, off + i, none⟩ = some (.int .i64 (P : Int)) := hc i _ hP
            have e1 : decide ((i : Int) < (n : Int)) = true := decide_eq_true (by omega)
            have e2 : decide (i < n) = true := decide_eq_true hin
            clear hP hc hPP
            by_cases ht : t = (P : Int)
            · have g2 : ((P : Int) == t) = true := by simp [ht]
              have hxx : x = some t := by
                rw [HT.out, if_pos ((begF_iff L _ t).2 (.inr ⟨i, by rw [← HN.out]; exact hin, by rw [ht, HPP.out]⟩))]
              have HXX := Lib.hid hxx
              have HTE := Lib.hid ht
              clear hxx ht
              go_wp2
              go_ret
              exact ⟨by rw [HXX.out]; show Ending.returned (.int .i64 (P : Int)) = Ending.returned (.int .i64 t); rw [HTE.out], HB1.out⟩
            · have g2 : ((P : Int) == t) = false := by rw [beq_eq_false_iff_ne]; exact fun h => ht h.symm
              have HTE := Lib.hid ht
              clear ht
              go_wp2
              go_roundg (n - (i + 1))
              case measure => have := HG.out; omega
              case rel => exact ⟨i + 1, by simp, by omega, rfl, fun j hj => by
                by_cases e : j = i
                · subst e; rw [← HPP.out]; exact HTE.out
                · exact HNO.out j (by omega), rfl⟩
          · obtain rfl : i = n := by omega
            have hxx : x = none := by
              rw [HT.out, if_neg]
              intro h
              rcases (begF_iff L _ t).1 h with h | ⟨q, hq, h⟩
              · exact HE.out (by rw [h, HSZ.out])
              · exact HNO.out q (by rw [HN.out]; exact hq) h
            have HXX := Lib.hid hxx
            have e1 : decide ((i : Int) < (i : Int)) = false := decide_eq_false (by omega)
            clear hxx
            go_wp2
            go_ret
            exact ⟨by rw [HXX.out]; rfl, HB1.out⟩
    · rw [if_neg h26] at htv
      have d1 : ((c : Int) != 26) = true := by simp; omega
      have hv1 : v + (p : Int) + 3 = t := htv.symm
      clear htv
      by_cases he : t = (sz : Int)
      · have hxx : x = some t := by
          rw [HT.out, if_pos ((begF_iff L _ t).2 (.inl (by rw [he, HSZ.out])))]
        have HXX := Lib.hid hxx
        have g1 : (t == (sz : Int)) = true := by simp [he]
        have HE := Lib.hid he
        clear hxx he
        go_enter Tryd.func26, Tryd.ntmps26
        go_wp2_with (go_at_call 45; refine (HLQ.out _).mono ?_; rintro r w1 ⟨hr, hw⟩; subst hr; subst hw)
        go_ret
        exact ⟨by rw [HXX.out]; show Ending.returned (.int .i64 (sz : Int)) = Ending.returned (.int .i64 t); rw [HE.out], by repeat (first | with_reducible exact Below.refl _ _ | with_reducible refine Below.drew ?_ | with_reducible refine below_drewN ?_ _ | ((with_reducible refine Below.alloc ?_ ?_ _); (rotate_left; focus (first | with_reducible exact Nat.le_refl _ | omega | (simp; done) | (simp; omega) | (simp [World.setCell]; done) | (simp [World.setCell]; omega)))) | ((with_reducible refine Below.setCell ?_ ?_ _); (rotate_left; focus (first | with_reducible exact Nat.le_refl _ | omega | (simp; done) | (simp; omega) | (simp [World.setCell]; done) | (simp [World.setCell]; omega)))))⟩
      · have g1 : (t == (sz : Int)) = false := by simp [he]
        have HE := Lib.hid he
        clear he
        go_enter Tryd.func26, Tryd.ntmps26
        go_wp2_with (go_at_call 45; refine (HLQ.out _).mono ?_; rintro r w1 ⟨hr, hw⟩; subst hr; subst hw)
        have hb1 : Below w.heap.size w (w.alloc (.cells #[.int .i64 c, .int .i64 v] 36)) := (Below.refl _ _).alloc (Nat.le_refl _) _
        have HB1 := Lib.hid hb1
        have hA1 := hA.below hb1
        generalize w.alloc (.cells #[.int .i64 c, .int .i64 v] 36) = W1 at *
        have HA1 := Lib.hid hA1
        clear hA hA1 hb1
        go_loopg [11] n (fun gk iv W => ∃ i : Nat, iv = .int .i64 i ∧ i ≤ n ∧ gk = n - i ∧ (∀ j, j < i → t ≠ (sizeF (L.take j) : Int)) ∧ W = W1)
        case atStart => exact ⟨0, rfl, Nat.zero_le _, rfl, fun j hj => absurd hj (by omega), rfl⟩
        case round =>
          obtain ⟨i, rfl, hi, hgk, hno, rfl⟩ := hrel
          have HG := Lib.hid hgk
          have HNO := Lib.hid hno
          clear hgk hno
          by_cases hin : i < n
          · obtain ⟨b, off, rfl, hb, hc⟩ := HA1.out.flat (by omega)
            have hP := plc_at (placesF L n) i (by rw [placesF_length]; exact hin)
            rw [placesF_at L n i hin] at hP
            obtain ⟨P, hPP⟩ : ∃ P, P = sizeF (L.take i) := ⟨_, rfl⟩
            rw [← hPP] at hP
            have HPP := Lib.hid hPP
            have cx : wr.cell? ⟨b, off + i, none⟩ = some (.int .i64 (P : Int)) := hc i _ hP
            have e1 : decide ((i : Int) < (n : Int)) = true := decide_eq_true (by omega)
            have e2 : decide (i < n) = true := decide_eq_true hin
            clear hP hc hPP
            by_cases ht : t = (P : Int)
            · have g2 : ((P : Int) == t) = true := by simp [ht]
              have hxx : x = some t := by
                rw [HT.out, if_pos ((begF_iff L _ t).2 (.inr ⟨i, by rw [← HN.out]; exact hin, by rw [ht, HPP.out]⟩))]
              have HXX := Lib.hid hxx
              have HTE := Lib.hid ht
              clear hxx ht
              go_wp2
              go_ret
              exact ⟨by rw [HXX.out]; show Ending.returned (.int .i64 (P : Int)) = Ending.returned (.int .i64 t); rw [HTE.out], HB1.out⟩
            · have g2 : ((P : Int) == t) = false := by rw [beq_eq_false_iff_ne]; exact fun h => ht h.symm
              have HTE := Lib.hid ht
              clear ht
              go_wp2
              go_roundg (n - (i + 1))
              case measure => have := HG.out; omega
              case rel => exact ⟨i + 1, by simp, by omega, rfl, fun j hj => by
                by_cases e : j = i
                · subst e; rw [← HPP.out]; exact HTE.out
                · exact HNO.out j (by omega), rfl⟩
          · obtain rfl : i = n := by omega
            have hxx : x = none := by
              rw [HT.out, if_neg]
              intro h
              rcases (begF_iff L _ t).1 h with h | ⟨q, hq, h⟩
              · exact HE.out (by rw [h, HSZ.out])
              · exact HNO.out q (by rw [HN.out]; exact hq) h
            have HXX := Lib.hid hxx
            have e1 : decide ((i : Int) < (i : Int)) = false := decide_eq_false (by omega)
            clear hxx
            go_wp2
            go_ret
            exact ⟨by rw [HXX.out]; rfl, HB1.out⟩
  · have hl' : leadsF c = false := by simpa using hl
    have HLQ := Lib.hid (show ∀ W, Calls Tryd.prog 45 #[.int .i64 c] W fun r w' => r = .returned (.bool false) ∧ w' = W from fun W => (rleads_any c W).mono fun r w' h => ⟨by rw [h.1, hl'], h.2⟩)
    have HT : Hid (tgtF L ⟨c, v⟩ p = none) := Lib.hid (by simp [tgtF, hl'])
    clear hl hl' hf
    go_enter Tryd.func26, Tryd.ntmps26
    go_wp2_with (go_at_call 45; refine (HLQ.out _).mono ?_; rintro r w1 ⟨hr, hw⟩; subst hr; subst hw)
    go_ret
    exact ⟨by rw [HT.out]; rfl, by repeat (first | with_reducible exact Below.refl _ _ | with_reducible refine Below.drew ?_ | with_reducible refine below_drewN ?_ _ | ((with_reducible refine Below.alloc ?_ ?_ _); (rotate_left; focus (first | with_reducible exact Nat.le_refl _ | omega | (simp; done) | (simp; omega) | (simp [World.setCell]; done) | (simp [World.setCell]; omega)))) | ((with_reducible refine Below.setCell ?_ ?_ _); (rotate_left; focus (first | with_reducible exact Nat.le_refl _ | omega | (simp; done) | (simp; omega) | (simp [World.setCell]; done) | (simp [World.setCell]; omega)))))⟩
end Go.Proofs.YthghnihlfdoefaaDoor
