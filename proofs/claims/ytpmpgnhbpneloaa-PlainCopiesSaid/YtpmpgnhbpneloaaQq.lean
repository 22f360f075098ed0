/- The document's calls of collections: what builds lists anew. -/
import Derived.Test.YtpmpgnhbpneloaaQp
namespace Go.Proofs.Ytpmpgnhbpneloaa
open Go.RowKit Go.Joins Go.ChangeShapes Go.WideShapes Go.Deep
set_option linter.unusedVariables false
set_option maxRecDepth 100000

theorem below_none {w w1 : World} (h : w.grownBy w1 none) : Below w.heap.size w w1 := ⟨h.os, h.tape, h.output, h.size, fun q hq => h.block q hq (by simp)⟩
theorem below_row {a w : World} {row : Option Nat} {B : Nat} (h : a.grownBy w row) (hr : ∀ g, row = some g → B ≤ g) (hs : B ≤ a.heap.size) : Below B a w :=
  ⟨h.os, h.tape, h.output, h.size, fun q hq => h.block q (by omega) (fun e => by have := hr q e.symm; omega)⟩
theorem Reads.head {w : World} {B size n k : Nat} {A : Option Addr} {xs : List Value} (h : Reads w B size A n xs) (hk : k ≤ n) : Reads w B size A k (xs.take (k * size)) := by
  refine ⟨?_, fun hn => ?_⟩
  · rw [List.length_take, h.1]
    exact Nat.min_eq_left (Nat.mul_le_mul_right _ hk)
  · obtain ⟨ad, rfl, hb, hc⟩ := h.2 (by omega)
    refine ⟨ad, rfl, hb, fun j u hj => ?_⟩
    rw [List.getElem?_take] at hj
    split at hj
    · exact hc j u hj
    · cases hj
theorem Reads.empty {w : World} {B size : Nat} (A : Option Addr) : Reads w B size A 0 [] := ⟨by simp, fun h => absurd h (by omega)⟩
theorem lit_read {w : World} {t : TypeId} (v : List Value) (size : Nat) (h : v.length = size) : Reads (w.alloc (.cells v.toArray t)) (w.heap.size + 1) size (some ⟨w.heap.size, 0, none⟩) 1 v :=
  ⟨by omega, fun _ => ⟨_, rfl, by simp, by simpa using (Blk.new w t v.toArray).at0 0⟩⟩
theorem info_pr : (Try.prog.info? 54).map (fun i => (i.zero, i.size, i.bytes)) = some (some (.agg #[.int .i64 0, .int .i64 0]), 2, 16) := by kernel_rfl
theorem own_at {w : World} {B B' e n n' size : Nat} {v : Value} {xs xs' : List Value} (h : w.ownsRow B e size v n xs) (hB : B' ≤ B) (hn : n = n') (hx : xs = xs') : w.ownsRow B' e size v n' xs' := by
  subst hn hx
  refine ⟨h.1, ?_⟩
  rcases h.2 with h0 | ⟨g, cap, cur, hv, hb, r⟩
  · exact .inl h0
  · exact .inr ⟨g, cap, cur, hv, by omega, r⟩

theorem le_alloc (w : World) (o : Obj) : w.heap.size + 1 ≤ (w.alloc o).heap.size := by simp
theorem below_two {w w1 w2 : World} {o : Obj} {e size n : Nat} {v : Value} {xs : List Value} (hb : Below w.heap.size w w1) (hown : w1.ownsRow w.heap.size e size v n xs) (hg : (w1.alloc o).grownBy w2 v.ownBlock) : Below w.heap.size w w2 :=
  (hb.alloc hb.size o).trans (below_row hg (fun g e => (hown.lt g e).1) (Nat.le_trans hb.size (by simp)))
theorem own_form3 {w : World} {B e n size : Nat} {V : Option Addr} {vc k : Nat} {xs : List Value} (h : w.ownsRow B e size (.slice V n vc) n xs) (hk : k ≤ n) : (V = none ∧ n = 0 ∧ vc = 0 ∧ k = 0) ∨ (∃ g, V = some ⟨g, 0, none⟩ ∧ vc = k ∧ n = k) ∨ (∃ g, V = some ⟨g, 0, none⟩ ∧ vc ≠ k) := by
  rcases h.2 with ⟨hv, h0⟩ | ⟨g, cap, cur, hv, _, _, hnc, _⟩
  · injection hv with e1 e2 e3
    exact .inl ⟨e1, e2, e3, by omega⟩
  · injection hv with e1 e2 e3
    by_cases hc : vc = k
    · exact .inr (.inl ⟨g, e1, hc, by omega⟩)
    · exact .inr (.inr ⟨g, e1, hc⟩)

/-- Behind lists that were built anew. -/
theorem new_end {w w1 : World} {base T iv ip : Nat} {x : TM} {vv' : Value} {vs' : List Int} {xs' : List Value} {n' : Nat} (h : Cel w base T iv ip x) (hbase : base ≤ w.heap.size) (hb : Below w.heap.size w w1) (hown : w1.ownsRow w.heap.size 2 1 vv' n' xs') (hn : n' = vs'.length) (hxs : xs' = ints vs') :
    XPost w (w1.setCell ⟨T, iv, none⟩ vv') base T iv ip x { x.t with values := vs' } := by
  subst hxs hn
  exact XPost.values h (own_at hown hbase rfl rfl) (only_of_below hb _) (.inr fun b hb' => (hown.lt b hb').1)
theorem newp_end {w w1 : World} {base T iv ip : Nat} {x : TM} {pv' : Value} {ps' : List (Int × Int)} {xs' : List Value} {n' : Nat} (h : Cel w base T iv ip x) (hbase : base ≤ w.heap.size) (hb : Below w.heap.size w w1) (hown : w1.ownsRow w.heap.size 54 2 pv' n' xs') (hn : n' = ps'.length) (hxs : xs' = prs ps') :
    XPost w (w1.setCell ⟨T, ip, none⟩ pv') base T iv ip x { x.t with pairs := ps' } := by
  subst hxs hn
  exact XPost.pairs h (own_at hown hbase rfl rfl) (only_of_below hb _) (.inr fun b hb' => (hown.lt b hb').1)

set_option maxHeartbeats 1000000 in
/-- keys, add: into a list with room. -/
theorem keys_put (x : TM) (T o base lw : Nat) (k most : Int) (w : World) (h : Cel w base T (o + 1) (o + 2) x) (hlow : lw ≤ x.t.values.length) (hlv : x.t.values.length ≤ 16) (hbase : base ≤ w.heap.size) (hroom : ¬ most ≤ x.t.values.length) :
    Calls Try.prog 57 #[.pointer (some ⟨T, o, none⟩), .int .i64 most, .int .i64 1, .int .i64 k, .int .i64 lw, .bool false] w (MPost ({ x.t with values := put1 x.t.values lw k }, 0, 0) base T (o + 1) (o + 2) x w) := by
  obtain ⟨V, vc, hvv, hvc, hV⟩ := own_shapes h.th.vs
  have c1 := h.cv
  have hown := h.th.vs
  rw [hvv] at c1 hown
  have HSH := Lib.hid (own_form3 hown hlow)
  have f1 := h.fv
  have hTl := h.lt
  obtain ⟨i0, hi0, hz0, hz1, hz2⟩ := info_parts info_i64q
  have H := Lib.hid h
  obtain ⟨N, hN⟩ : ∃ N, N = x.t.values.length := ⟨_, rfl⟩
  have e1 : decide (most ≤ (N : Int)) = false := by simp; omega
  have r1 := (hV.head (k := lw) hlow)
  rw [show (ints x.t.values).take (lw * 1) = ints (x.t.values.take lw) by simp [ints, List.map_take]] at r1
  have HR2 : Hid (∀ W, Below w.heap.size w W → Reads W W.heap.size 1 (if vc = lw then V else V.map (·.add (lw * 1))) (x.t.values.length - lw) (ints (x.t.values.drop lw))) := Lib.hid fun W hW => by
    have := ((hV.below hW).more hW.size).cut (k := lw) (cap := vc) hlow hvc
    rw [show (ints x.t.values).drop (lw * 1) = ints (x.t.values.drop lw) by simp [ints, List.map_drop]] at this
    exact this
  have HPUT : Hid (ints (put1 x.t.values lw k) = [] ++ ints (x.t.values.take lw) ++ [.int .i64 k] ++ ints (x.t.values.drop lw)) := Lib.hid (by simp [ints, put1])
  have HLEN : Hid ((put1 x.t.values lw k).length = 0 + lw + 1 + (x.t.values.length - lw)) := Lib.hid (by rw [put1_length hlow]; omega)
  rw [← hN] at c1 hlv hvc hlow HSH HR2 HLEN
  have o1 : ∀ u ∈ ints (x.t.values.take lw), u.oneCell' = true := ints_one _
  have o2 : ∀ u ∈ ints (x.t.values.drop lw), u.oneCell' = true := ints_one _
  have hone : ∀ u ∈ ([.int .i64 k] : List Value), u.oneCell' = true := by simp [Value.oneCell']
  have m1 : 0 + lw ≤ maxLen := by unfold maxLen; omega
  have b1 : (0 + lw) * 8 ≤ 140737488355328 := by omega
  have m2 : 0 + lw + 1 ≤ maxLen := by unfold maxLen; omega
  have b2 : (0 + lw + 1) * 8 ≤ 140737488355328 := by omega
  have m3 : 0 + lw + 1 + (N - lw) ≤ maxLen := by unfold maxLen; omega
  have b3 : (0 + lw + 1 + (N - lw)) * 8 ≤ 140737488355328 := by omega
  have hsz := Nat.le_refl w.heap.size
  clear h hvv hN hV hown hroom
  rcases (show (V = none ∧ N = 0 ∧ vc = 0 ∧ lw = 0) ∨ (∃ g, V = some ⟨g, 0, none⟩ ∧ vc = lw ∧ N = lw) ∨ (∃ g, V = some ⟨g, 0, none⟩ ∧ vc ≠ lw) from HSH.out) with ⟨rfl, rfl, rfl, rfl⟩ | ⟨g, rfl, rfl, rfl⟩ | ⟨g, rfl, hvl⟩
  all_goals
    first
    | simp only [if_neg hvl, Option.map_some, Addr.add_lit, Nat.zero_add, Nat.mul_one] at HR2
    | simp only [reduceIte, Option.map_none, Nat.sub_self] at HR2 m3 b3 HLEN
    try (have e0 : decide (most ≤ (0 : Int)) = false := by simpa using e1)
    go_enter Try.func57, Try.ntmps57
    go_wp2_with (first | (at_builtin; refine wpList_append_any _ rfl (.tmp 15) (.tmp 21) 34 rfl w.heap.size 2 i0 _ 1 8 Try.underlying34 hi0 hz0 hz1 hz2 rfl (by decide) _ _ _ rfl (World.ownsRow_nil _ _ _ _) w.heap.size _ _ _ _ rfl r1 o1 m1 b1 hsz ?_; intro v1 w1 hown1 hg1 hd1; have hb1 := below_none hg1; have c1b := (hb1.cell (p := ⟨T, o + 1, none⟩) hTl).trans c1; have f1b : w1.frozen? ⟨T, o + 1, none⟩ = false := (hb1.frozen (p := ⟨T, o + 1, none⟩) hTl).trans f1; have HB1 := Lib.hid hb1; have hTl1 : T < w1.heap.size := Nat.lt_of_lt_of_le hTl hb1.size; have hsz2 := Nat.le_trans hb1.size (Nat.le_succ w1.heap.size); have hsz1 := hb1.size; have r2 := HR2.out w1 hb1; clear hd1 hg1 hb1) | (at_builtin; refine wpList_append_any _ rfl (.tmp 44) (.tmp 46) 34 rfl w.heap.size 2 i0 _ 1 8 Try.underlying34 hi0 hz0 hz1 hz2 rfl (by decide) _ _ _ rfl (hown1.alloc _) _ _ _ _ [.int .i64 k] rfl (lit_read (w := w1) [.int .i64 k] 1 rfl) hone m2 b2 (Nat.le_trans hsz2 (le_alloc _ _)) ?_; intro v2 w2 hown2 hg2 hd2; have hb2 : Below w.heap.size w w2 := below_two HB1.out hown1 hg2; have c1c := (hb2.cell (p := ⟨T, o + 1, none⟩) hTl).trans c1; have HB2 := Lib.hid hb2; have hsz3 := hb2.size; have r3 := HR2.out w2 hb2; clear hd2 hg2 hb2 hown1) | (at_builtin; refine wpList_append_any _ rfl (.tmp 48) (.tmp 54) 34 rfl w.heap.size 2 i0 _ 1 8 Try.underlying34 hi0 hz0 hz1 hz2 rfl (by decide) _ _ _ rfl hown2 _ _ _ _ _ rfl r3 o2 m3 b3 hsz3 ?_; intro v3 w3 hown3 hg3 hd3; have hb3 : Below w.heap.size w w3 := (below_row hg3 (fun g e => (hown2.lt g e).1) hsz3 |> fun hh => HB2.out.trans hh); obtain ⟨R3, rc3, rfl, -, -⟩ := own_shapes hown3; have c1d := (hb3.cell (p := ⟨T, o + 1, none⟩) hTl).trans c1; have f1d : w3.frozen? ⟨T, o + 1, none⟩ = false := (hb3.frozen (p := ⟨T, o + 1, none⟩) hTl).trans f1; have HB3 := Lib.hid hb3; have hTl3 : T < w3.heap.size := Nat.lt_of_lt_of_le hTl hb3.size; have HO3 := Lib.hid hown3; clear hd3 hg3 hb3 hown3))
    go_ret2
    have hh := HO3.out
    simp only [Nat.zero_add, Nat.add_zero] at hh
    exact ⟨rfl, new_end H.out hbase HB3.out hh (by have := HLEN.out; omega) HPUT.out.symm⟩
end Go.Proofs.Ytpmpgnhbpneloaa
