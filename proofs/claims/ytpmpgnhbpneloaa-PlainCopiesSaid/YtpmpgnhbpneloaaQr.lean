/- The document's keys: a chain's add and del. -/
import Derived.Test.YtpmpgnhbpneloaaQq
namespace Go.Proofs.Ytpmpgnhbpneloaa
open Go.RowKit Go.Joins Go.ChangeShapes Go.WideShapes Go.Deep
set_option linter.unusedVariables false
set_option maxRecDepth 100000

set_option maxHeartbeats 1000000 in
/-- keys, del. -/
theorem keys_cut (x : TM) (T o base lw : Nat) (k most call : Int) (w : World) (h : Cel w base T (o + 1) (o + 2) x) (hlow : lw < x.t.values.length) (hlv : x.t.values.length ≤ 16) (hbase : base ≤ w.heap.size) (hc : call = 4) :
    Calls Try.prog 57 #[.pointer (some ⟨T, o, none⟩), .int .i64 most, .int .i64 call, .int .i64 k, .int .i64 lw, .bool true] w (MPost ({ x.t with values := del1 x.t.values lw }, 0, 0) base T (o + 1) (o + 2) x w) := by
  subst hc
  obtain ⟨V, vc, hvv, hvc, hV⟩ := own_shapes h.th.vs
  have c1 := h.cv
  have hown := h.th.vs
  rw [hvv] at c1 hown
  have HSH := Lib.hid (own_form3 hown (k := lw + 1) hlow)
  have f1 := h.fv
  have hTl := h.lt
  obtain ⟨i0, hi0, hz0, hz1, hz2⟩ := info_parts info_i64q
  have H := Lib.hid h
  obtain ⟨N, hN⟩ : ∃ N, N = x.t.values.length := ⟨_, rfl⟩
  have r1 := (hV.head (k := lw) (Nat.le_of_lt hlow))
  rw [show (ints x.t.values).take (lw * 1) = ints (x.t.values.take lw) by simp [ints, List.map_take]] at r1
  have HR2 : Hid (∀ W, Below w.heap.size w W → Reads W W.heap.size 1 (if vc = lw + 1 then V else V.map (·.add ((lw + 1) * 1))) (x.t.values.length - (lw + 1)) (ints (x.t.values.drop (lw + 1)))) := Lib.hid fun W hW => by
    have := ((hV.below hW).more hW.size).cut (k := lw + 1) (cap := vc) hlow hvc
    rw [show (ints x.t.values).drop ((lw + 1) * 1) = ints (x.t.values.drop (lw + 1)) by simp [ints, List.map_drop]] at this
    exact this
  have HPUT : Hid (ints (del1 x.t.values lw) = [] ++ ints (x.t.values.take lw) ++ ints (x.t.values.drop (lw + 1))) := Lib.hid (by simp [ints, del1])
  have HLEN : Hid ((del1 x.t.values lw).length = 0 + lw + (x.t.values.length - (lw + 1))) := Lib.hid (by rw [del1_length hlow]; omega)
  rw [← hN] at c1 hlv hvc hlow HSH HR2 HLEN
  have o1 : ∀ u ∈ ints (x.t.values.take lw), u.oneCell' = true := ints_one _
  have o2 : ∀ u ∈ ints (x.t.values.drop (lw + 1)), u.oneCell' = true := ints_one _
  have m1 : 0 + lw ≤ maxLen := by unfold maxLen; omega
  have b1 : (0 + lw) * 8 ≤ 140737488355328 := by omega
  have m3 : 0 + lw + (N - (lw + 1)) ≤ maxLen := by unfold maxLen; omega
  have b3 : (0 + lw + (N - (lw + 1))) * 8 ≤ 140737488355328 := by omega
  have hsz := Nat.le_refl w.heap.size
  clear h hvv hN hV hown
  rcases HSH.out with ⟨-, -, -, h0⟩ | ⟨g, rfl, rfl, rfl⟩ | ⟨g, rfl, hvl⟩
  · omega
  all_goals
    first
    | simp only [if_neg hvl, Option.map_some, Addr.add_lit, Nat.zero_add, Nat.mul_one] at HR2
    | simp only [reduceIte, Option.map_none, Nat.sub_self] at HR2 m3 b3 HLEN
    go_enter Try.func57, Try.ntmps57
    go_wp2_with (first | (at_builtin; refine wpList_append_any _ rfl (.tmp 15) (.tmp 21) 34 rfl w.heap.size 2 i0 _ 1 8 Try.underlying34 hi0 hz0 hz1 hz2 rfl (by decide) _ _ _ rfl (World.ownsRow_nil _ _ _ _) w.heap.size _ _ _ _ rfl r1 o1 m1 b1 hsz ?_; intro v1 w1 hown1 hg1 hd1; have hb1 := below_none hg1; have c1b := (hb1.cell (p := ⟨T, o + 1, none⟩) hTl).trans c1; have f1b : w1.frozen? ⟨T, o + 1, none⟩ = false := (hb1.frozen (p := ⟨T, o + 1, none⟩) hTl).trans f1; have HB1 := Lib.hid hb1; have hTl1 : T < w1.heap.size := Nat.lt_of_lt_of_le hTl hb1.size; have hsz2 := Nat.le_trans hb1.size (Nat.le_succ w1.heap.size); have hsz1 := hb1.size; have r2 := HR2.out w1 hb1; clear hd1 hg1 hb1) | (at_builtin; refine wpList_append_any _ rfl (.tmp 58) (.tmp 65) 34 rfl w.heap.size 2 i0 _ 1 8 Try.underlying34 hi0 hz0 hz1 hz2 rfl (by decide) _ _ _ rfl hown1 _ _ _ _ _ rfl r2 o2 m3 b3 hsz1 ?_; intro v3 w3 hown3 hg3 hd3; have hb3 : Below w.heap.size w w3 := (below_row hg3 (fun g e => (hown1.lt g e).1) hsz1 |> fun hh => HB1.out.trans hh); obtain ⟨R3, rc3, rfl, -, -⟩ := own_shapes hown3; have c1d := (hb3.cell (p := ⟨T, o + 1, none⟩) hTl).trans c1; have f1d : w3.frozen? ⟨T, o + 1, none⟩ = false := (hb3.frozen (p := ⟨T, o + 1, none⟩) hTl).trans f1; have HB3 := Lib.hid hb3; have hTl3 : T < w3.heap.size := Nat.lt_of_lt_of_le hTl hb3.size; have HO3 := Lib.hid hown3; clear hd3 hg3 hb3 hown3))
    go_ret2
    have hh := HO3.out
    simp only [Nat.zero_add, Nat.add_zero] at hh
    exact ⟨rfl, new_end H.out hbase HB3.out hh (by have := HLEN.out; omega) HPUT.out.symm⟩
set_option maxHeartbeats 1000000 in
/-- keys, where nothing is put. -/
theorem keys_ret (x : TM) (T o base lw : Nat) (k most call code : Int) (yes : Bool) (w : World) (h : Cel w base T (o + 1) (o + 2) x) (hlow : lw ≤ x.t.values.length) (hlv : x.t.values.length ≤ 16)
    (hc : (call = 1 ∧ yes = true ∧ code = 3) ∨ (call = 1 ∧ yes = false ∧ code = 2 ∧ most ≤ x.t.values.length) ∨ (call = 4 ∧ yes = false ∧ code = 1)) :
    Calls Try.prog 57 #[.pointer (some ⟨T, o, none⟩), .int .i64 most, .int .i64 call, .int .i64 k, .int .i64 lw, .bool yes] w (MPost (x.t, 0, code) base T (o + 1) (o + 2) x w) := by
  obtain ⟨V, vc, hvv, hvc, hV⟩ := own_shapes h.th.vs
  have c1 := h.cv
  rw [hvv] at c1
  have f1 := h.fv
  have hTl := h.lt
  obtain ⟨i0, hi0, hz0, hz1, hz2⟩ := info_parts info_i64q
  have H := Lib.hid h
  have r1 := (hV.head (k := lw) hlow)
  rw [show (ints x.t.values).take (lw * 1) = ints (x.t.values.take lw) by simp [ints, List.map_take]] at r1
  have HR2 : Hid (∀ W, Below w.heap.size w W → True) := Lib.hid fun _ _ => trivial
  have o1 : ∀ u ∈ ints (x.t.values.take lw), u.oneCell' = true := ints_one _
  have m1 : 0 + lw ≤ maxLen := by unfold maxLen; omega
  have b1 : (0 + lw) * 8 ≤ 140737488355328 := by omega
  have hsz := Nat.le_refl w.heap.size
  obtain ⟨N, hN⟩ : ∃ N, N = x.t.values.length := ⟨_, rfl⟩
  rw [← hN] at c1 hlv hlow hc hvc
  clear h hvv hV hN
  rcases hc with ⟨rfl, rfl, rfl⟩ | ⟨rfl, rfl, rfl, hf⟩ | ⟨rfl, rfl, rfl⟩
  · go_enter Try.func57, Try.ntmps57
    go_wp2_with (at_builtin; refine wpList_append_any _ rfl (.tmp 15) (.tmp 21) 34 rfl w.heap.size 2 i0 _ 1 8 Try.underlying34 hi0 hz0 hz1 hz2 rfl (by decide) _ _ _ rfl (World.ownsRow_nil _ _ _ _) w.heap.size _ _ _ _ rfl r1 o1 m1 b1 hsz ?_; intro v1 w1 hown1 hg1 hd1; have hb1 := below_none hg1; have c1b := (hb1.cell (p := ⟨T, o + 1, none⟩) hTl).trans c1; have f1b : w1.frozen? ⟨T, o + 1, none⟩ = false := (hb1.frozen (p := ⟨T, o + 1, none⟩) hTl).trans f1; have HB1 := Lib.hid hb1; have hTl1 : T < w1.heap.size := Nat.lt_of_lt_of_le hTl hb1.size; have hsz2 := Nat.le_trans hb1.size (Nat.le_succ w1.heap.size); have hsz1 := hb1.size; have r2 := HR2.out w1 hb1; clear hd1 hg1 hb1)
    go_ret2
    exact MPost.read H.out HB1.out rfl
  · have e1 : decide (most ≤ (N : Int)) = true := by simp [hf]
    go_enter Try.func57, Try.ntmps57
    go_wp2_with (at_builtin; refine wpList_append_any _ rfl (.tmp 15) (.tmp 21) 34 rfl w.heap.size 2 i0 _ 1 8 Try.underlying34 hi0 hz0 hz1 hz2 rfl (by decide) _ _ _ rfl (World.ownsRow_nil _ _ _ _) w.heap.size _ _ _ _ rfl r1 o1 m1 b1 hsz ?_; intro v1 w1 hown1 hg1 hd1; have hb1 := below_none hg1; have c1b := (hb1.cell (p := ⟨T, o + 1, none⟩) hTl).trans c1; have f1b : w1.frozen? ⟨T, o + 1, none⟩ = false := (hb1.frozen (p := ⟨T, o + 1, none⟩) hTl).trans f1; have HB1 := Lib.hid hb1; have hTl1 : T < w1.heap.size := Nat.lt_of_lt_of_le hTl hb1.size; have hsz2 := Nat.le_trans hb1.size (Nat.le_succ w1.heap.size); have hsz1 := hb1.size; have r2 := HR2.out w1 hb1; clear hd1 hg1 hb1)
    go_ret2
    exact MPost.read H.out HB1.out rfl
  · go_enter Try.func57, Try.ntmps57
    go_wp2_with (at_builtin; refine wpList_append_any _ rfl (.tmp 15) (.tmp 21) 34 rfl w.heap.size 2 i0 _ 1 8 Try.underlying34 hi0 hz0 hz1 hz2 rfl (by decide) _ _ _ rfl (World.ownsRow_nil _ _ _ _) w.heap.size _ _ _ _ rfl r1 o1 m1 b1 hsz ?_; intro v1 w1 hown1 hg1 hd1; have hb1 := below_none hg1; have c1b := (hb1.cell (p := ⟨T, o + 1, none⟩) hTl).trans c1; have f1b : w1.frozen? ⟨T, o + 1, none⟩ = false := (hb1.frozen (p := ⟨T, o + 1, none⟩) hTl).trans f1; have HB1 := Lib.hid hb1; have hTl1 : T < w1.heap.size := Nat.lt_of_lt_of_le hTl hb1.size; have hsz2 := Nat.le_trans hb1.size (Nat.le_succ w1.heap.size); have hsz1 := hb1.size; have r2 := HR2.out w1 hb1; clear hd1 hg1 hb1)
    go_ret2
    exact MPost.read H.out HB1.out rfl
theorem keys_any (x : TM) (T o base : Nat) (call k : Int) (w : World) (h : Cel w base T (o + 1) (o + 2) x) (hok : TOk x.t) (hbase : base ≤ w.heap.size) (hc : call = 1 ∨ call = 4) :
    Calls Try.prog 57 #[.pointer (some ⟨T, o, none⟩), .int .i64 x.t.most, .int .i64 call, .int .i64 k, .int .i64 (low idv x.t.values k), .bool (isAt idv x.t.values k)] w (MPost (if call = 1 then addF x.t k else cutF x.t k) base T (o + 1) (o + 2) x w) := by
  have hlow := low_le (key := idv) (l := x.t.values) (k := k)
  have hlv := hok.lv
  unfold addF cutF
  rcases hat : isAt idv x.t.values k with _ | _
  · rcases hc with rfl | rfl
    · simp only [if_true]
      by_cases hf : x.t.most ≤ x.t.values.length
      · rw [if_neg (by decide), if_pos hf]
        exact keys_ret x T o base _ k x.t.most 1 2 false w h hlow hlv (.inr (.inl ⟨rfl, rfl, rfl, hf⟩))
      · rw [if_neg (by decide), if_neg hf]
        exact keys_put x T o base _ k x.t.most w h hlow hlv hbase hf
    · rw [if_neg (by decide), if_neg (by decide)]
      exact keys_ret x T o base _ k x.t.most 4 1 false w h hlow hlv (.inr (.inr ⟨rfl, rfl, rfl⟩))
  · rcases hc with rfl | rfl
    · simp only [if_true]
      exact keys_ret x T o base _ k x.t.most 1 3 true w h hlow hlv (.inl ⟨rfl, rfl, rfl⟩)
    · rw [if_neg (by decide), if_pos rfl]
      exact keys_cut x T o base _ k x.t.most 4 w h (isAt_iff.1 hat).1 hlv hbase rfl
end Go.Proofs.Ytpmpgnhbpneloaa
