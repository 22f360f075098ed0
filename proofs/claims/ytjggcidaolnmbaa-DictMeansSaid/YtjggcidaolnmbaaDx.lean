/- What 'place' and 'means' do. -/
import Derived.Test.YtjggcidaolnmbaaDv
import Derived.Test.YtjggcidaolnmbaaS6
import Derived.Test.YtjggcidaolnmbaaDd
namespace Go.Proofs.Ytjggcidaolnmbaa
open Go.RowKit Go.Joins Go.ChangeShapes Go.WideShapes Go.Deep
set_option linter.unusedVariables false
set_option maxRecDepth 100000

def placeI (l : List (Int × Int)) (k : Int) : Int := if placeN l k < l.length then placeN l k else -1
theorem place_at (l : List (Int × Int)) (k : Int) (t : Nat) (ht : t < l.length) (hk : l[t].1 = k) (hlow : ∀ j (h : j < l.length), j < t → l[j].1 ≠ k) : placeI l k = t := by
  have e : placeN l k = t := by
    unfold placeN
    rw [List.findIdx_eq ht]
    exact ⟨by simpa using hk, fun j hj => by simpa using hlow j (by omega) hj⟩
  unfold placeI
  rw [e, if_pos ht]
theorem place_no (l : List (Int × Int)) (k : Int) (hlow : ∀ j (h : j < l.length), l[j].1 ≠ k) : placeI l k = -1 := by
  have e : placeN l k = l.length := by
    unfold placeN
    rw [List.findIdx_eq_length]
    intro x hx
    obtain ⟨j, hj, rfl⟩ := List.getElem_of_mem hx
    simpa using hlow j hj
  unfold placeI
  rw [e, if_neg (by omega)]

set_option maxHeartbeats 1000000 in
theorem place_any (P : Option Addr) (n c : Nat) (xs : List (Int × Int)) (k : Int) (B : Nat) (w : World) (hn : n ≤ 1000) (hA : Reads w B 2 P n (prs xs)) :
    Calls Try.prog 27 #[.slice P n c, .int .i64 k] w fun e w' => e = .returned (.int .i64 (placeI xs k)) ∧ w = w' := by
  have hlen : xs.length = n := by have := hA.1; rw [prs_length] at this; omega
  have HL := Lib.hid hlen
  clear hlen
  go_enter Try.func27, Try.ntmps27
  go_wp2_with fail
  go_loopg [5] n (fun gk i wr => ∃ t : Nat, t ≤ n ∧ gk = n - t ∧ i = .int .i64 t ∧ w = wr ∧ ∀ j (h : j < xs.length), j < t → xs[j].1 ≠ k)
  case atStart => exact ⟨0, Nat.zero_le _, rfl, rfl, rfl, fun j _ h => by omega⟩
  case round =>
    obtain ⟨t, ht, hgk, rfl, rfl, hlow⟩ := hrel
    have HG := Lib.hid hgk
    have HLOW := Lib.hid hlow
    clear hgk hlow
    by_cases htn : t < n
    · obtain ⟨b, off, rfl, hb, hc⟩ := hA.flatN (by omega) (by omega)
      have htl : t < xs.length := by rw [HL.out]; exact htn
      obtain ⟨X, Y, hXY⟩ : ∃ X Y, (X, Y) = xs[t] := ⟨_, _, rfl⟩
      have px0 := prs_at xs t 0 htl (by omega)
      rw [← hXY] at px0
      have cx0 : w.cell? ⟨b, off + t * 2, none⟩ = some (.int .i64 X) := hc _ _ px0
      have hti : (t : Int) < (n : Int) := by omega
      have htt : decide ((t : Int) < (n : Int)) = true := by simp; omega
      have HXY := Lib.hid hXY
      clear hc hXY px0
      by_cases hX : X = k
      · have ex : (X == k) = true := by simp [hX]
        have hres := place_at xs k t htl (by rw [← HXY.out]; exact hX) HLOW.out
        have HRES := Lib.hid hres
        clear hres
        go_wp2_with fail
        go_ret
        rw [HRES.out]
        exact ⟨rfl, rfl⟩
      · have ex : (X == k) = false := by simp [hX]
        go_wp2_with fail
        go_roundg (n - (t + 1))
        case measure => have := HG.out; omega
        case rel =>
          refine ⟨t + 1, by omega, rfl, by go_num, rfl, fun j hj hjt => ?_⟩
          by_cases hjt2 : j < t
          · exact HLOW.out j hj hjt2
          · obtain rfl : j = t := by omega
            rw [← HXY.out]
            exact hX
    · have htt : decide ((t : Int) < (n : Int)) = false := by simp; omega
      have hres := place_no xs k (fun j h => HLOW.out j h (by rw [HL.out] at h; omega))
      have HRES := Lib.hid hres
      clear hres
      go_wp2_with fail
      go_ret
      rw [HRES.out]
      exact ⟨rfl, rfl⟩

def MeansPost (r : List (Int × Int) × Int × Int) (b0 : Nat) (v : Value) (w : World) : Ending → World → Prop := fun e w' =>
  ∃ v', e = .returned (.tuple #[v', .int .i64 r.2.1, .int .i64 r.2.2]) ∧ w'.ownsRow b0 54 2 v' r.1.length (prs r.1) ∧ w.grownBy w' v.ownBlock


set_option maxHeartbeats 400000 in
theorem means_len (l : List (Int × Int)) (m : Nat) (v : Value) (b0 : Nat) (A : Option Addr) (na ca : Nat) (w : World) (hm : m ≤ 16) (hlm : l.length ≤ m) (hown : w.ownsRow b0 54 2 v l.length (prs l)) :
    Calls Try.prog 26 #[v, .int .i64 m, .int .i64 5, .slice A na ca] w (MeansPost (meansF l m 5 []) b0 v w) := by
  obtain ⟨P, pc, rfl, hpc, hP⟩ := own_shapes hown
  go_enter Try.func26, Try.ntmps26
  go_wp2_with fail
  go_ret3
  exact ⟨_, rfl, hown, World.grownBy.refl _ _⟩


theorem grown_undrew {a b : World} {row : Option Nat} (h : a.drew.grownBy b row) : a.grownBy b row := ⟨h.os, h.tape, h.output, h.size, h.block⟩
theorem grown_alloc {w b : World} {o : Obj} {row : Option Nat} (h : (w.alloc o).grownBy b row) : w.grownBy b row :=
  ⟨h.os, h.tape, h.output, by have := h.size; simp at this; omega, fun i hi hn => (h.block i (by simp; omega) hn).trans (Below.heap_alloc w o i hi)⟩
theorem own_take {w : World} {b0 n c n' : Nat} {P : Option Addr} {l : List (Int × Int)} (hown : w.ownsRow b0 54 2 (.slice P n c) n (prs l)) (hn' : n' ≤ n) (hn : 0 < n) : w.ownsRow b0 54 2 (.slice P n' c) n' (prs (l.take n')) := by
  obtain ⟨h1, h2⟩ := hown
  rw [prs_length] at h1
  refine ⟨by rw [prs_length, List.length_take]; omega, ?_⟩
  rcases h2 with ⟨_, h⟩ | ⟨g, cap, cur, hv, hg, hh, hc, hm, hs, ht⟩
  · omega
  · injection hv with e1 e2 e3
    subst e1 e3
    refine .inr ⟨g, c, cur, rfl, hg, hh, by omega, hm, hs, ?_⟩
    rw [← prs_take, ← ht, List.take_take, Nat.min_eq_left (by omega)]
theorem prs_set : ∀ (l : List (Int × Int)) (t : Nat) (X Y : Int), t < l.length → ((prs l).set (t * 2) (.int .i64 X)).set (t * 2 + 1) (.int .i64 Y) = prs (l.set t (X, Y))
  | x :: l, 0, X, Y, _ => by simp [prs, rows, prc]
  | x :: l, t + 1, X, Y, h => by
    have := prs_set l t X Y (by simpa using h)
    simp only [prs, rows, List.flatMap_cons, prc, List.set_cons_succ] at this ⊢
    rw [show (t + 1) * 2 = t * 2 + 2 by omega]
    simp only [List.cons_append, List.nil_append, List.set_cons_succ]
    rw [this]
theorem prs_set2 (l : List (Int × Int)) (t : Nat) (Y : Int) (h : t < l.length) : (prs l).set (t * 2 + 1) (.int .i64 Y) = prs (l.set t (l[t].1, Y)) := by
  rw [← prs_set l t _ _ h]
  congr 1
  have e := prs_at l t 0 h (by omega)
  rw [Nat.add_zero] at e
  have hl : t * 2 < (prs l).length := by rw [prs_length]; omega
  rw [List.getElem?_eq_getElem hl] at e
  have e2 : (prs l)[t * 2] = .int .i64 l[t].1 := Option.some.inj e
  rw [← e2, List.set_getElem_self]

set_option maxHeartbeats 400000 in
theorem means_hit (l : List (Int × Int)) (m : Nat) (call : Int) (args : List Int) (v : Value) (b0 : Nat) (A : Option Addr) (na ca : Nat) (w : World) (hm : m ≤ 16) (hlm : l.length ≤ m) (ha : arityI call = args.length) (hl : args.length = na) (hA : Reads w w.heap.size 1 A na (ints args)) (hown : w.ownsRow b0 54 2 v l.length (prs l))
    (h5 : call ≠ 5) (hn0 : 0 < na) (hin : placeN l (args.getD 0 0) < l.length) :
    Calls Try.prog 26 #[v, .int .i64 m, .int .i64 call, .slice A na ca] w (MeansPost (meansF l m call args) b0 v w) := by
  obtain ⟨P, pc, rfl, hpc, hP⟩ := own_shapes hown
  obtain ⟨g, rfl⟩ : ∃ g, P = some ⟨g, 0, none⟩ := by
    obtain ⟨g, cap, hv, _⟩ := hown.form (by omega)
    injection hv with e _ _
    exact ⟨g, e⟩
  have e5 : (call == 5) = false := by simp [h5]
  obtain ⟨ab, aoff, rfl, hab, hac⟩ := hA.flat hn0
  obtain ⟨k, hk⟩ : ∃ k, k = args.getD 0 0 := ⟨_, rfl⟩
  have ck : w.cell? ⟨ab, aoff, none⟩ = some (.int .i64 k) := by
    have := hac 0 _ (ints_at args 0 (by omega))
    rw [hk, List.getD_eq_getElem?_getD, List.getElem?_eq_getElem (by omega)]
    exact this
  have HPL := place_any (some ⟨g, 0, none⟩) l.length pc l k w.heap.size w (by omega) hP
  obtain ⟨t, ht⟩ : ∃ t, t = placeN l k := ⟨_, rfl⟩
  rw [← hk, ← ht] at hin
  rw [show placeI l k = t by unfold placeI; rw [if_pos (by omega), ht]] at HPL
  have hz : l.length - 1 < l.length := by omega
  have hmf : meansF l m call args = if call = 3 then (l.set t (l[t].1, args.getD 1 0), 0, 0) else if call = 2 then (l, l[t].2, 0) else ((l.set t (l[l.length - 1]'hz)).dropLast, 0, 0) := by
    unfold meansF
    rw [if_neg h5]
    simp only [← hk, ← ht]
    rw [dif_pos hin]
  rw [hmf]
  have ht0 : (0 : Int) ≤ (t : Int) := by omega
  have et0 : decide ((0 : Int) ≤ (t : Int)) = true := by simp
  have eneg : decide ((t : Int) < 0) = false := by simp
  have htn : (t : Int) < (l.length : Int) := by omega
  have cX : w.cell? ⟨g, t * 2, none⟩ = some (.int .i64 l[t].1) := by
    rw [hown.cellAt (t * 2) (by omega)]
    have := prs_at l t 0 hin (by omega)
    rw [Nat.add_zero] at this
    rw [this]; rfl
  have cY : w.cell? ⟨g, t * 2 + 1, none⟩ = some (.int .i64 l[t].2) := by
    rw [hown.cellAt (t * 2 + 1) (by omega)]
    rw [prs_at l t 1 hin (by omega)]; rfl
  obtain ⟨X, hX⟩ : ∃ X, X = l[t].1 := ⟨_, rfl⟩
  obtain ⟨Y, hY⟩ : ∃ Y, Y = l[t].2 := ⟨_, rfl⟩
  have hgl := (hown.lt g rfl).2
  rw [← hX] at cX ⊢
  rw [← hY] at cY ⊢
  have HX := Lib.hid hX
  have HY := Lib.hid hY
  have HIN := Lib.hid hin
  have HT := Lib.hid ht
  have HK := Lib.hid hk
  clear hmf hX hY ht hk
  by_cases h3 : call = 3
  · subst h3
    have hn2 : 1 < args.length := by simp [arityI] at ha; omega
    obtain ⟨y, hy⟩ : ∃ y, y = args.getD 1 0 := ⟨_, rfl⟩
    have cy : w.cell? ⟨ab, aoff + 1, none⟩ = some (.int .i64 y) := by
      have := hac 1 _ (ints_at args 1 hn2)
      rw [hy, List.getD_eq_getElem?_getD, List.getElem?_eq_getElem hn2]
      exact this
    rw [← hy]
    have fY : w.frozen? ⟨g, t * 2 + 1, none⟩ = false := hown.frozenAt _
    have h1n : (1 : Int) < (na : Int) := by omega
    clear hy hac
    rw [if_pos rfl]
    go_enter Try.func26, Try.ntmps26
    go_wp2_with fail
    refine HPL.mono ?_
    rintro e w1 ⟨rfl, rfl⟩
    go_wp2_with fail
    go_ret3
    refine ⟨.slice (some ⟨g, 0, none⟩) l.length pc, rfl, ?_, only_setCell (p := ⟨g, t * 2 + 1, none⟩) (World.grownBy.refl _ _) (.inl rfl) _⟩
    have := (hown.stored (t * 2 + 1) (.int .i64 y)).1
    rw [prs_set2 l t y hin, ← HX.out] at this
    simpa only [List.length_set] using this
  · rw [if_neg h3]
    have e3 : (call == 3) = false := by simp [h3]
    by_cases h2 : call = 2
    · subst h2
      rw [if_pos rfl]
      clear hac
      go_enter Try.func26, Try.ntmps26
      go_wp2_with fail
      refine HPL.mono ?_
      rintro e w1 ⟨rfl, rfl⟩
      go_wp2_with fail
      go_quiet (fail)
      go_wp2_with fail
      go_ret3
      exact ⟨_, rfl, hown, only_drewN (World.grownBy.refl _ _) _⟩
    · rw [if_neg h2]
      have e2 : (call == 2) = false := by simp [h2]
      obtain ⟨U, V, hUV⟩ : ∃ U V, (U, V) = l[l.length - 1]'hz := ⟨_, _, rfl⟩
      obtain ⟨z, hzz⟩ : ∃ z, z = l.length - 1 := ⟨_, rfl⟩
      have hzl : z < l.length := by omega
      have hzi : (l.length : Int) - 1 = (z : Int) := by omega
      have hzn : (z : Int) < (l.length : Int) := by omega
      have cU : w.cell? ⟨g, z * 2, none⟩ = some (.int .i64 U) := by
        rw [hown.cellAt (z * 2) (by omega)]
        have := prs_at l z 0 hzl (by omega)
        rw [Nat.add_zero] at this
        rw [this]
        subst hzz
        rw [← hUV]
        rfl
      have cV : w.cell? ⟨g, z * 2 + 1, none⟩ = some (.int .i64 V) := by
        rw [hown.cellAt (z * 2 + 1) (by omega)]
        rw [prs_at l z 1 hzl (by omega)]
        subst hzz
        rw [← hUV]
        rfl
      have fX : w.frozen? ⟨g, t * 2, none⟩ = false := hown.frozenAt _
      have fY : w.frozen? ⟨g, t * 2 + 1, none⟩ = false := hown.frozenAt _
      rw [← hUV]
      have HZ := Lib.hid hzz
      clear hUV hzz hac hzl
      go_enter Try.func26, Try.ntmps26
      go_wp2_with fail
      refine HPL.mono ?_
      rintro e w1 ⟨rfl, rfl⟩
      go_wp2_with fail
      go_ret3
      refine ⟨.slice (some ⟨g, 0, none⟩) z pc, rfl, ?_, only_setCell (p := ⟨g, t * 2 + 1, none⟩) (only_setCell (p := ⟨g, t * 2, none⟩) (World.grownBy.refl _ _) (.inl rfl) _) (.inl rfl) _⟩
      have h1 := ((hown.stored (t * 2) (.int .i64 U)).1.stored (t * 2 + 1) (.int .i64 V)).1
      rw [prs_set l t U V hin] at h1
      have h2 := own_take (n' := z) h1 (by omega) (by omega)
      have e1 : (l.set t (U, V)).dropLast = (l.set t (U, V)).take z := by rw [List.dropLast_eq_take, List.length_set, HZ.out]
      have e2 : ((l.set t (U, V)).take z).length = z := by rw [List.length_take, List.length_set]; omega
      simp only
      rw [e1, e2]
      exact h2

set_option maxHeartbeats 400000 in
theorem means_miss (l : List (Int × Int)) (m : Nat) (call : Int) (args : List Int) (v : Value) (b0 : Nat) (A : Option Addr) (na ca : Nat) (w : World) (hm : m ≤ 16) (hlm : l.length ≤ m) (ha : arityI call = args.length) (hl : args.length = na) (hA : Reads w w.heap.size 1 A na (ints args)) (hown : w.ownsRow b0 54 2 v l.length (prs l))
    (h5 : call ≠ 5) (hn0 : 0 < na) (hb0 : b0 ≤ w.heap.size) (hin : ¬ placeN l (args.getD 0 0) < l.length) :
    Calls Try.prog 26 #[v, .int .i64 m, .int .i64 call, .slice A na ca] w (MeansPost (meansF l m call args) b0 v w) := by
  obtain ⟨P, pc, rfl, hpc, hP⟩ := own_shapes hown
  obtain ⟨i0, hi0, hz0, hz1, hz2⟩ := info_parts info_pair
  have e5 : (call == 5) = false := by simp [h5]
  obtain ⟨ab, aoff, rfl, hab, hac⟩ := hA.flat hn0
  obtain ⟨k, hk⟩ : ∃ k, k = args.getD 0 0 := ⟨_, rfl⟩
  have ck : w.cell? ⟨ab, aoff, none⟩ = some (.int .i64 k) := by
    have := hac 0 _ (ints_at args 0 (by omega))
    rw [hk, List.getD_eq_getElem?_getD, List.getElem?_eq_getElem (by omega)]
    exact this
  have HPL := place_any P l.length pc l k w.heap.size w (by omega) hP
  rw [← hk] at hin
  rw [show placeI l k = -1 by unfold placeI; rw [if_neg hin]] at HPL
  have hmf : meansF l m call args = if call = 3 then (if m ≤ l.length then (l, 0, 2) else (l ++ [(k, args.getD 1 0)], 0, 0)) else (l, 0, 1) := by
    unfold meansF
    rw [if_neg h5]
    simp only [← hk]
    rw [dif_neg hin]
  rw [hmf]
  clear hmf hk hin
  by_cases h3 : call = 3
  · subst h3
    have hn2 : 1 < args.length := by simp [arityI] at ha; omega
    obtain ⟨y, hy⟩ : ∃ y, y = args.getD 1 0 := ⟨_, rfl⟩
    have cy : w.cell? ⟨ab, aoff + 1, none⟩ = some (.int .i64 y) := by
      have := hac 1 _ (ints_at args 1 hn2)
      rw [hy, List.getD_eq_getElem?_getD, List.getElem?_eq_getElem hn2]
      exact this
    rw [← hy]
    have h1n : (1 : Int) < (na : Int) := by omega
    clear hy hac
    rw [if_pos rfl]
    by_cases hfull : m ≤ l.length
    · have ef : decide ((m : Int) ≤ (l.length : Int)) = true := by simp; omega
      rw [if_pos hfull]
      go_enter Try.func26, Try.ntmps26
      go_wp2_with fail
      refine HPL.mono ?_
      rintro e w1 ⟨rfl, rfl⟩
      go_wp2_with fail
      go_ret3
      exact ⟨.slice P l.length pc, rfl, hown, World.grownBy.refl _ _⟩
    · have ef : decide ((m : Int) ≤ (l.length : Int)) = false := by simp; omega
      rw [if_neg hfull]
      go_enter Try.func26, Try.ntmps26
      go_wp2_with fail
      refine HPL.mono ?_
      rintro e w1 ⟨rfl, rfl⟩
      have hn1 : l.length + 1 ≤ maxLen := by unfold maxLen; omega
      have hnb : (l.length + 1) * 16 ≤ 140737488355328 := by omega
      go_wp2_with fail
      go_region_law
        (refine step_append_lies _ (by rfl) _ _ _ (by rfl) b0 54 i0 _ 2 16 Try.underlying45 hi0 hz0 hz1 hz2 rfl (by omega) (.slice P l.length pc) l.length (prs l) (by rfl) (show _ from hown.alloc _)
            ⟨w.heap.size, 0, none⟩ 1 1 [.int .i64 k, .int .i64 y] (by rfl) (by rfl) (World.news_of_block (cs := #[.int .i64 k, .int .i64 y]) (t := 54) (fr := (0, 0)) (heap_alloc_new w _)) (by simp [Value.oneCell'])
            (by omega) hn1 hnb (by simp; omega) (w.heap.size + 1) (by simp) ?_; intro gg cap w2 hown1 hgrow hat hlt2)
      all_goals
        go_wp2_with fail
        go_ret3
        refine ⟨.slice (some ⟨gg, 0, none⟩) (l.length + 1) cap, rfl, ?_, grown_alloc (by first | exact hgrow | exact grown_undrew hgrow)⟩
        have e1 : (l ++ [(k, y)]).length = l.length + 1 := by rw [List.length_append]; rfl
        simp only
        rw [e1, prs_append]
        exact hown1
  · rw [if_neg h3]
    have e3 : (call == 3) = false := by simp [h3]
    clear hac
    go_enter Try.func26, Try.ntmps26
    go_wp2_with fail
    refine HPL.mono ?_
    rintro e w1 ⟨rfl, rfl⟩
    go_wp2_with fail
    go_ret3
    exact ⟨.slice P l.length pc, rfl, hown, World.grownBy.refl _ _⟩

theorem means_any (l : List (Int × Int)) (m : Nat) (call : Int) (args : List Int) (v : Value) (b0 : Nat) (A : Option Addr) (na ca : Nat) (w : World) (hm : m ≤ 16) (hlm : l.length ≤ m) (ha : arityI call = args.length) (hl : args.length = na) (hA : Reads w w.heap.size 1 A na (ints args)) (hown : w.ownsRow b0 54 2 v l.length (prs l))
    (hb0 : b0 ≤ w.heap.size) : Calls Try.prog 26 #[v, .int .i64 m, .int .i64 call, .slice A na ca] w (MeansPost (meansF l m call args) b0 v w) := by
  by_cases h5 : call = 5
  · subst h5
    have e : args = [] := by
      cases args with
      | nil => rfl
      | cons a t => simp [arityI] at ha; omega
    subst e
    exact means_len l m v b0 A na ca w hm hlm hown
  · have hn0 : 0 < na := by
      unfold arityI at ha
      by_cases h3 : call = 3
      · rw [if_pos h3] at ha; omega
      · rw [if_neg h3] at ha
        by_cases h2 : call = 2 ∨ call = 4
        · rw [if_pos h2] at ha; omega
        · rw [if_neg h2, if_neg h5] at ha; omega
    by_cases hin : placeN l (args.getD 0 0) < l.length
    · exact means_hit l m call args v b0 A na ca w hm hlm ha hl hA hown h5 hn0 hin
    · exact means_miss l m call args v b0 A na ca w hm hlm ha hl hA hown h5 hn0 hb0 hin
end Go.Proofs.Ytjggcidaolnmbaa
