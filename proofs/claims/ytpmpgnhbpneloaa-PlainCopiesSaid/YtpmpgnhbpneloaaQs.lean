/- The document's chains, counts, queues. -/
import Derived.Test.YtpmpgnhbpneloaaQr
namespace Go.Proofs.Ytpmpgnhbpneloaa
open Go.RowKit Go.Joins Go.ChangeShapes Go.WideShapes Go.Deep
set_option linter.unusedVariables false
set_option maxRecDepth 100000

def chainF (t : TS) (call k : Int) : TS × Int × Int := if call = 1 then addF t k else if call = 4 then cutF t k else if call = 6 then hasF t k else nextK t k

theorem chains_len (x : TM) (T o base : Nat) (most : Int) (a : Value) (w : World) (h : Cel w base T (o + 1) (o + 2) x) :
    Calls Try.prog 31 #[.pointer (some ⟨T, o, none⟩), .int .i64 most, .int .i64 5, a] w (MPost (longF x.t) base T (o + 1) (o + 2) x w) := by
  obtain ⟨V, vc, hvv, hvc, hV⟩ := own_shapes h.th.vs
  have c1 := h.cv
  rw [hvv] at c1
  have H := Lib.hid h
  clear h hV hvv
  go_enter Try.func31, Try.ntmps31
  go_wp2
  go_ret2
  exact MPost.read H.out (Below.refl _ _) rfl
theorem chains_least (x : TM) (T o base : Nat) (most : Int) (a : Value) (w : World) (h : Cel w base T (o + 1) (o + 2) x) :
    Calls Try.prog 31 #[.pointer (some ⟨T, o, none⟩), .int .i64 most, .int .i64 7, a] w (MPost (fromF x.t 0) base T (o + 1) (o + 2) x w) := by
  obtain ⟨V, vc, hvv, hvc, hV⟩ := own_shapes h.th.vs
  have c1 := h.cv
  rw [hvv] at c1
  have H := Lib.hid h
  clear h hvv
  unfold fromF
  by_cases hin : 0 < x.t.values.length
  · rw [if_pos hin]
    obtain ⟨b, off, rfl, hb, hc⟩ := hV.flat hin
    obtain ⟨v, hv⟩ : ∃ v, v = x.t.values.getD 0 0 := ⟨_, rfl⟩
    have cx : w.cell? ⟨b, off, none⟩ = some (.int .i64 v) := by
      rw [hv, List.getD_eq_getElem?_getD, List.getElem?_eq_getElem hin]
      simpa using hc _ _ (ints_at _ 0 hin)
    rw [← hv]
    have e1 : ((x.t.values.length : Int) == 0) = false := by simp; intro e; rw [e] at hin; simp at hin
    clear hc hv hV
    go_enter Try.func31, Try.ntmps31
    go_wp2
    go_ret2
    exact MPost.read H.out (Below.refl _ _) rfl
  · rw [if_neg hin]
    have e1 : ((x.t.values.length : Int) == 0) = true := by simp; exact List.eq_nil_of_length_eq_zero (by omega)
    clear hV
    go_enter Try.func31, Try.ntmps31
    go_wp2
    go_ret2
    exact MPost.read H.out (Below.refl _ _) rfl

def KeysFact (x : TM) (T o base : Nat) (call k : Int) (lw : Nat) (yes : Bool) (w : World) : Prop :=
  ∀ W, Below w.heap.size w W → (call = 1 ∨ call = 4) → Calls Try.prog 57 #[.pointer (some ⟨T, o, none⟩), .int .i64 x.t.most, .int .i64 call, .int .i64 k, .int .i64 lw, .bool yes] W (MPost (if call = 1 then addF x.t k else cutF x.t k) base T (o + 1) (o + 2) x W)
def ChainEq (r : TS × Int × Int) (t : TS) (call k : Int) (lw : Nat) (yes : Bool) : Prop :=
  r = if call = 1 then addF t k else if call = 4 then cutF t k else if call = 6 then (t, if yes then 1 else 0, 0) else fromF t (lw + if yes then 1 else 0)
def KeyAt (l : List Int) (k : Int) (lw : Nat) (yes : Bool) : Prop :=
  (∀ i (hi : i < l.length), i < lw → l[i] < k) ∧ (∀ hh : lw < l.length, ¬ l[lw] < k ∧ yes = (l[lw] == k)) ∧ (lw = l.length → yes = false)
theorem keyAt (l : List Int) (k : Int) : KeyAt l k (low idv l k) (isAt idv l k) := by
  refine ⟨fun i hi h => low_lt (key := idv) i h hi, fun hh => ⟨low_ge (key := idv) hh, ?_⟩, fun e => isAt_false fun hh => by omega⟩
  by_cases e : l[low idv l k] = k
  · rw [isAt_iff.2 ⟨hh, e⟩]; simp [e]
  · rw [isAt_false fun _ => e]; simp [e]

set_option maxHeartbeats 4000000 in
theorem chains_key (x : TM) (T o base : Nat) (call : Int) (A : Option Addr) (ca : Nat) (args : List Int) (w : World) (h : Cel w base T (o + 1) (o + 2) x) (hok : TOk x.t) (hk4 : x.t.kind = 4) (hbase : base ≤ w.heap.size) (hA : Reads w w.heap.size 1 A 1 (ints args)) (hal : args.length = 1) (hc : call = 1 ∨ call = 4 ∨ call = 6 ∨ call = 8) :
    Calls Try.prog 31 #[.pointer (some ⟨T, o, none⟩), .int .i64 x.t.most, .int .i64 call, .slice A 1 ca] w (MPost (chainF x.t call (args.getD 0 0)) base T (o + 1) (o + 2) x w) := by
  obtain ⟨ab, aoff, rfl, hab, hac⟩ := arg_cell hA 0 (by omega)
  have ca0 := hac 0 (by omega)
  generalize args.getD 0 0 = k at *
  simp only [Nat.add_zero] at ca0
  obtain ⟨V, vc, hvv, hvc, hV⟩ := own_shapes h.th.vs
  have c1 := h.cv
  rw [hvv] at c1
  have hTl := h.lt
  have hlv := hok.lv
  have hlow := low_le (key := idv) (l := x.t.values) (k := k)
  have e5 : (call == 5) = false := by rcases hc with rfl | rfl | rfl | rfl <;> rfl
  have e7 : (call == 7) = false := by rcases hc with rfl | rfl | rfl | rfl <;> rfl
  have HKEYS : KeysFact x T o base call k (low idv x.t.values k) (isAt idv x.t.values k) w := fun W hW hc => keys_any x T o base call k W (h.below hW) hok (by have := hW.size; omega) hc
  have HKA := keyAt x.t.values k
  obtain ⟨r, hr⟩ : ∃ r, r = chainF x.t call k := ⟨_, rfl⟩
  rw [← hr]
  have HR : ChainEq r x.t call k (low idv x.t.values k) (isAt idv x.t.values k) := hr
  have HC := Lib.hid hc
  have H := Lib.hid h
  have HV := Lib.hid hV
  generalize low idv x.t.values k = lw at *
  generalize isAt idv x.t.values k = yes at *
  obtain ⟨N, hN⟩ : ∃ N, N = x.t.values.length := ⟨_, rfl⟩
  have HN := Lib.hid hN
  rw [← hN] at c1 hlv hlow hvc HV
  clear h hok hk4 hA hac hal hvv hr hc hN hV
  go_enter Try.func31, Try.ntmps31
  go_wp2_with fail
  go_loopg [11] lw (fun gk i wr => ∃ t m : Nat, i = .int .i64 t ∧ t ≤ lw ∧ gk = lw - t ∧ wr = w.drewN m)
  case atStart => exact ⟨0, 0, rfl, Nat.zero_le _, rfl, rfl⟩
  case round =>
    obtain ⟨t, md, rfl, htl, hgt, rfl⟩ := hrel
    have HGT := Lib.hid hgt
    clear hgt
    by_cases htN : t < N
    · obtain ⟨b, off, rfl, hb, hcl⟩ := HV.out.flat (by omega)
      have htv : t < x.t.values.length := by rw [← HN.out]; exact htN
      obtain ⟨X, hX⟩ : ∃ X, X = x.t.values[t] := ⟨_, rfl⟩
      have cx : w.cell? ⟨b, off + t, none⟩ = some (.int .i64 X) := by rw [hX]; exact hcl _ _ (ints_at _ t htv)
      have hti : (t : Int) < (N : Int) := by omega
      clear hcl
      by_cases htw : t < lw
      · have hXk : X < k := by rw [hX]; exact HKA.1 t htv htw
        have e1 : decide (X < k) = true := by simp [hXk]
        clear hX hXk
        go_wp2_with fail
        go_quiet (fail)
        go_wp2_with fail
        go_roundg (lw - (t + 1))
        case measure => have := HGT.out; omega
        case rel => exact ⟨t + 1, _, by go_num, by omega, rfl, rfl⟩
      · obtain rfl : t = lw := by omega
        have hXk : ¬ X < k := by rw [hX]; exact (HKA.2.1 htv).1
        have hat := (HKA.2.1 htv).2
        rw [← hX] at hat
        have e1 : decide (X < k) = false := by simp; omega
        have HX : Hid (fromF x.t t = (x.t, X, 0)) := Lib.hid (by unfold fromF; rw [if_pos htv, hX, List.getD_eq_getElem?_getD, List.getElem?_eq_getElem htv]; rfl)
        clear hX hXk
        have e2 : (X == k) = yes := hat.symm
        rcases yes with _ | _
        · clear hat
          go_wp2_with fail
          go_quiet (fail)
          go_wp2_with fail
          go_quiet (fail)
          have e3 : ((t : Int) == (N : Int)) = false := by simp; omega
          rcases HC.out with rfl | rfl | rfl | rfl
          · obtain rfl : r = addF x.t k := HR
            go_wp2_with fail
            refine (HKEYS _ (below_drewN (Below.refl _ _) _) (.inl rfl)).mono ?_
            rintro e w2 ⟨rfl, hp⟩
            have HP := Lib.hid (XPost.after H.out (below_drewN (Below.refl _ _) _) hp)
            clear hp
            go_wp2_with fail
            go_ret2
            exact ⟨rfl, HP.out⟩
          · obtain rfl : r = cutF x.t k := HR
            go_wp2_with fail
            refine (HKEYS _ (below_drewN (Below.refl _ _) _) (.inr rfl)).mono ?_
            rintro e w2 ⟨rfl, hp⟩
            have HP := Lib.hid (XPost.after H.out (below_drewN (Below.refl _ _) _) hp)
            clear hp
            go_wp2_with fail
            go_ret2
            exact ⟨rfl, HP.out⟩
          · obtain rfl : r = (x.t, _, 0) := HR
            go_wp2_with fail
            go_ret2
            exact MPost.read H.out (below_drewN (Below.refl _ _) _) rfl
          · obtain rfl := (show r = fromF x.t t from HR).trans HX.out
            go_wp2_with fail
            go_ret2
            exact MPost.read H.out (below_drewN (Below.refl _ _) _) rfl
        · clear hat
          have hnx : t + 1 < N ∨ t + 1 = N := by omega
          go_wp2_with fail
          go_quiet (fail)
          go_wp2_with fail
          go_quiet (fail)
          rcases hnx with hnx | hnx
          · obtain ⟨Y, hY⟩ : ∃ Y, Y = x.t.values[t + 1]'(by rw [← HN.out]; exact hnx) := ⟨_, rfl⟩
            have cy : w.cell? ⟨b, off + (t + 1), none⟩ = some (.int .i64 Y) := by
              obtain ⟨b', off', hbb, hb', hcl⟩ := HV.out.flat (by omega)
              injection hbb with hbb
              injection hbb with h1 h2
              subst h1 h2
              rw [hY]
              exact hcl _ _ (ints_at _ (t + 1) (by rw [← HN.out]; exact hnx))
            have HX2 : Hid (fromF x.t (t + 1) = (x.t, Y, 0)) := Lib.hid (by unfold fromF; rw [if_pos (by rw [← HN.out]; exact hnx), hY, List.getD_eq_getElem?_getD, List.getElem?_eq_getElem (by rw [← HN.out]; exact hnx)]; rfl)
            have e3 : ((t : Int) + 1 == (N : Int)) = false := by simp; omega
            have hyi : (t : Int) + 1 < (N : Int) := by omega
            clear hY
            rcases HC.out with rfl | rfl | rfl | rfl
            · obtain rfl : r = addF x.t k := HR
              go_wp2_with fail
              refine (HKEYS _ (below_drewN (Below.refl _ _) _) (.inl rfl)).mono ?_
              rintro e w2 ⟨rfl, hp⟩
              have HP := Lib.hid (XPost.after H.out (below_drewN (Below.refl _ _) _) hp)
              clear hp
              go_wp2_with fail
              go_ret2
              exact ⟨rfl, HP.out⟩
            · obtain rfl : r = cutF x.t k := HR
              go_wp2_with fail
              refine (HKEYS _ (below_drewN (Below.refl _ _) _) (.inr rfl)).mono ?_
              rintro e w2 ⟨rfl, hp⟩
              have HP := Lib.hid (XPost.after H.out (below_drewN (Below.refl _ _) _) hp)
              clear hp
              go_wp2_with fail
              go_ret2
              exact ⟨rfl, HP.out⟩
            · obtain rfl : r = (x.t, _, 0) := HR
              go_wp2_with fail
              go_ret2
              exact MPost.read H.out (below_drewN (Below.refl _ _) _) rfl
            · obtain rfl := (show r = fromF x.t (t + 1) from HR).trans HX2.out
              go_wp2_with fail
              go_ret2
              exact MPost.read H.out (below_drewN (Below.refl _ _) _) rfl
          · have HX2 : Hid (fromF x.t (t + 1) = (x.t, 0, 1)) := Lib.hid (by unfold fromF; rw [if_neg (by rw [← HN.out]; omega)])
            have e3 : ((t : Int) + 1 == (N : Int)) = true := by simp; omega
            rcases HC.out with rfl | rfl | rfl | rfl
            · obtain rfl : r = addF x.t k := HR
              go_wp2_with fail
              refine (HKEYS _ (below_drewN (Below.refl _ _) _) (.inl rfl)).mono ?_
              rintro e w2 ⟨rfl, hp⟩
              have HP := Lib.hid (XPost.after H.out (below_drewN (Below.refl _ _) _) hp)
              clear hp
              go_wp2_with fail
              go_ret2
              exact ⟨rfl, HP.out⟩
            · obtain rfl : r = cutF x.t k := HR
              go_wp2_with fail
              refine (HKEYS _ (below_drewN (Below.refl _ _) _) (.inr rfl)).mono ?_
              rintro e w2 ⟨rfl, hp⟩
              have HP := Lib.hid (XPost.after H.out (below_drewN (Below.refl _ _) _) hp)
              clear hp
              go_wp2_with fail
              go_ret2
              exact ⟨rfl, HP.out⟩
            · obtain rfl : r = (x.t, _, 0) := HR
              go_wp2_with fail
              go_ret2
              exact MPost.read H.out (below_drewN (Below.refl _ _) _) rfl
            · obtain rfl := (show r = fromF x.t (t + 1) from HR).trans HX2.out
              go_wp2_with fail
              go_ret2
              exact MPost.read H.out (below_drewN (Below.refl _ _) _) rfl
    · obtain rfl : t = lw := by omega
      obtain rfl : t = N := by omega
      obtain rfl : yes = false := HKA.2.2 HN.out
      have HX : Hid (fromF x.t t = (x.t, 0, 1)) := Lib.hid (by unfold fromF; rw [if_neg (by rw [← HN.out]; omega)])
      go_wp2_with fail
      go_quiet (fail)
      go_wp2_with fail
      go_quiet (fail)
      rcases HC.out with rfl | rfl | rfl | rfl
      · obtain rfl : r = addF x.t k := HR
        go_wp2_with fail
        refine (HKEYS _ (below_drewN (Below.refl _ _) _) (.inl rfl)).mono ?_
        rintro e w2 ⟨rfl, hp⟩
        have HP := Lib.hid (XPost.after H.out (below_drewN (Below.refl _ _) _) hp)
        clear hp
        go_wp2_with fail
        go_ret2
        exact ⟨rfl, HP.out⟩
      · obtain rfl : r = cutF x.t k := HR
        go_wp2_with fail
        refine (HKEYS _ (below_drewN (Below.refl _ _) _) (.inr rfl)).mono ?_
        rintro e w2 ⟨rfl, hp⟩
        have HP := Lib.hid (XPost.after H.out (below_drewN (Below.refl _ _) _) hp)
        clear hp
        go_wp2_with fail
        go_ret2
        exact ⟨rfl, HP.out⟩
      · obtain rfl : r = (x.t, _, 0) := HR
        go_wp2_with fail
        go_ret2
        exact MPost.read H.out (below_drewN (Below.refl _ _) _) rfl
      · obtain rfl := (show r = fromF x.t t from HR).trans HX.out
        go_wp2_with fail
        go_ret2
        exact MPost.read H.out (below_drewN (Below.refl _ _) _) rfl
end Go.Proofs.Ytpmpgnhbpneloaa
