/- The document's dicts. -/
import Derived.Test.YtpmpgnhbpneloaaQt
namespace Go.Proofs.Ytpmpgnhbpneloaa
open Go.RowKit Go.Joins Go.ChangeShapes Go.WideShapes Go.Deep
set_option linter.unusedVariables false
set_option maxRecDepth 100000

theorem dicts_len (x : TM) (T o base : Nat) (most : Int) (a : Value) (w : World) (h : Cel w base T (o + 1) (o + 2) x) :
    Calls Try.prog 30 #[.pointer (some ⟨T, o, none⟩), .int .i64 most, .int .i64 5, a] w (MPost (wideF x.t) base T (o + 1) (o + 2) x w) := by
  obtain ⟨V, vc, hvv, hvc, hV⟩ := own_shapes h.th.ps
  have c1 := h.cp
  rw [hvv] at c1
  have H := Lib.hid h
  clear h hV hvv
  go_enter Try.func30, Try.ntmps30
  go_wp2
  go_ret2
  exact MPost.read H.out (Below.refl _ _) rfl

def dictF (t : TS) (call k v : Int) (lw : Nat) (yes : Bool) : TS × Int × Int :=
  if call = 2 then (if yes then (t, (t.pairs.getD lw (0, 0)).2, 0) else (t, 0, 1))
  else if call = 3 then (if yes then ({ t with pairs := t.pairs.set lw (k, v) }, 0, 0) else if t.most ≤ t.pairs.length then (t, 0, 2) else ({ t with pairs := put1 t.pairs lw (k, v) }, 0, 0))
  else (if yes then ({ t with pairs := del1 t.pairs lw }, 0, 0) else (t, 0, 1))
def DictEq (r : TS × Int × Int) (t : TS) (call k v : Int) (lw : Nat) (yes : Bool) : Prop := r = dictF t call k v lw yes
def KeyAtP (l : List (Int × Int)) (k : Int) (lw : Nat) (yes : Bool) : Prop :=
  (∀ i (hi : i < l.length), i < lw → l[i].1 < k) ∧ (∀ hh : lw < l.length, ¬ l[lw].1 < k ∧ yes = (l[lw].1 == k)) ∧ (lw = l.length → yes = false)
theorem keyAtP (l : List (Int × Int)) (k : Int) : KeyAtP l k (low Prod.fst l k) (isAt Prod.fst l k) := by
  refine ⟨fun i hi h => low_lt (key := Prod.fst) i h hi, fun hh => ⟨low_ge (key := Prod.fst) hh, ?_⟩, fun e => isAt_false fun hh => by omega⟩
  by_cases e : l[low Prod.fst l k].1 = k
  · rw [isAt_iff.2 ⟨hh, e⟩]; simp [e]
  · rw [isAt_false fun _ => e]; simp [e]

theorem below_noneD {w w1 : World} {n : Nat} (h : (w.drewN n).grownBy w1 none) : Below w.heap.size w w1 := ⟨h.os, h.tape, h.output, h.size, fun q hq => h.block q hq (by simp)⟩
theorem info_prd : (Try.prog.info? 54).map (fun i => (i.zero, i.size, i.bytes)) = some (some (.agg #[.int .i64 0, .int .i64 0]), 2, 16) := by kernel_rfl
/-- What is known of the slices of a dict's list, behind a name. -/
def SliceFacts (x : TM) (V : Option Addr) (vc lw : Nat) (w : World) : Prop :=
  (∀ W, Below w.heap.size w W → Reads W W.heap.size 2 (if vc = lw then V else V.map (·.add (lw * 2))) (x.t.pairs.length - lw) (prs (x.t.pairs.drop lw))) ∧
  (lw < x.t.pairs.length → ∀ W, Below w.heap.size w W → Reads W W.heap.size 2 (if vc = lw + 1 then V else V.map (·.add ((lw + 1) * 2))) (x.t.pairs.length - (lw + 1)) (prs (x.t.pairs.drop (lw + 1))))

def RowFacts (x : TM) (V : Option Addr) (vc : Nat) (w : World) : Prop :=
  0 < x.t.pairs.length → ∃ g, V = some ⟨g, 0, none⟩ ∧ g < w.heap.size ∧ x.pv = .slice (some ⟨g, 0, none⟩) x.t.pairs.length vc ∧ ∀ j u, (prs x.t.pairs)[j]? = some u → w.cell? ⟨g, j, none⟩ = some u ∧ w.frozen? ⟨g, j, none⟩ = false
theorem below_twoD {w w1 w2 : World} {o : Obj} {e size n : Nat} {v : Value} {xs : List Value} (hb : Below w.heap.size w w1) (hown : w1.ownsRow w.heap.size e size v n xs) (hg : ((w1.alloc o).drew).grownBy w2 v.ownBlock) : Below w.heap.size w w2 :=
  (Below.drew (hb.alloc hb.size o)).trans (below_row hg (fun g e => (hown.lt g e).1) (Nat.le_trans hb.size (by simp)))
theorem slice_facts {x : TM} {V : Option Addr} {vc lw N g : Nat} {w : World} (h : SliceFacts x V vc lw w) (hN : N = x.t.pairs.length) (hV : V = some ⟨g, 0, none⟩) :
    (¬ vc = lw → ∀ W, Below w.heap.size w W → Reads W W.heap.size 2 (some ⟨g, lw * 2, none⟩) (N - lw) (prs (x.t.pairs.drop lw))) ∧ (vc = lw → N = lw → ∀ W, Below w.heap.size w W → Reads W W.heap.size 2 (some ⟨g, 0, none⟩) 0 (prs (x.t.pairs.drop lw))) ∧
    (lw < N → ¬ vc = lw + 1 → ∀ W, Below w.heap.size w W → Reads W W.heap.size 2 (some ⟨g, (lw + 1) * 2, none⟩) (N - (lw + 1)) (prs (x.t.pairs.drop (lw + 1)))) ∧ (lw < N → vc = lw + 1 → N = lw + 1 → ∀ W, Below w.heap.size w W → Reads W W.heap.size 2 (some ⟨g, 0, none⟩) 0 (prs (x.t.pairs.drop (lw + 1)))) := by
  subst hV hN
  refine ⟨fun hv W hW => ?_, fun hv hn W hW => ?_, fun hl hv W hW => ?_, fun hl hv hn W hW => ?_⟩
  · have := h.1 W hW
    rw [if_neg hv, Option.map_some, Addr.add_lit, Nat.zero_add] at this
    exact this
  · have := h.1 W hW
    rw [if_pos hv, hn, Nat.sub_self] at this
    exact this
  · have := h.2 hl W hW
    rw [if_neg hv, Option.map_some, Addr.add_lit, Nat.zero_add] at this
    exact this
  · have := h.2 hl W hW
    rw [if_pos hv, hn, Nat.sub_self] at this
    exact this

set_option maxHeartbeats 4000000 in
theorem dicts_key (x : TM) (T o base : Nat) (call : Int) (A : Option Addr) (na ca : Nat) (args : List Int) (w : World) (h : Cel w base T (o + 1) (o + 2) x) (hok : TOk x.t) (hk3 : x.t.kind = 3) (hbase : base ≤ w.heap.size) (hA : Reads w w.heap.size 1 A na (ints args)) (hal : args.length = na) (hc : (call = 2 ∧ na = 1) ∨ (call = 3 ∧ na = 2) ∨ (call = 4 ∧ na = 1)) :
    Calls Try.prog 30 #[.pointer (some ⟨T, o, none⟩), .int .i64 x.t.most, .int .i64 call, .slice A na ca] w (MPost (dictF x.t call (args.getD 0 0) (args.getD 1 0) (low Prod.fst x.t.pairs (args.getD 0 0)) (isAt Prod.fst x.t.pairs (args.getD 0 0))) base T (o + 1) (o + 2) x w) := by
  have hn0 : 0 < args.length := by rcases hc with ⟨_, h⟩ | ⟨_, h⟩ | ⟨_, h⟩ <;> omega
  obtain ⟨ab, aoff, rfl, hab, hac⟩ := arg_cell hA 0 hn0
  have ca0 := hac 0 hn0
  have ca1 : call = 3 → w.cell? ⟨ab, aoff + 1, none⟩ = some (.int .i64 (args.getD 1 0)) := fun e => hac 1 (by rcases hc with ⟨h, _⟩ | ⟨_, h⟩ | ⟨h, _⟩ <;> omega)
  generalize args.getD 0 0 = k at *
  generalize args.getD 1 0 = v at *
  simp only [Nat.add_zero] at ca0
  have hown := h.th.ps
  obtain ⟨V, vc, hvv, hvc, hV⟩ := own_shapes h.th.ps
  have c1 := h.cp
  rw [hvv] at c1 hown
  have f1 := h.fp
  have hTl := h.lt
  have hlv := hok.lp
  have hm1 := hok.m1
  have hlow := low_le (key := Prod.fst) (l := x.t.pairs) (k := k)
  have e5 : (call == 5) = false := by rcases hc with ⟨rfl, _⟩ | ⟨rfl, _⟩ | ⟨rfl, _⟩ <;> rfl
  have HKA := keyAtP x.t.pairs k
  obtain ⟨r, hr⟩ : ∃ r, r = dictF x.t call k v (low Prod.fst x.t.pairs k) (isAt Prod.fst x.t.pairs k) := ⟨_, rfl⟩
  rw [← hr]
  have HR : DictEq r x.t call k v (low Prod.fst x.t.pairs k) (isAt Prod.fst x.t.pairs k) := hr
  have HC := Lib.hid hc
  have HCA := Lib.hid ca1
  have H := Lib.hid h
  have HV := Lib.hid hV
  have hna0 : 0 < na := by omega
  generalize low Prod.fst x.t.pairs k = lw at *
  generalize isAt Prod.fst x.t.pairs k = yes at *
  have HSH := Lib.hid (own_form3 hown hlow)
  have HSH1 : Hid (lw < x.t.pairs.length → _) := Lib.hid fun hh => own_form3 hown (k := lw + 1) hh
  have HRF : RowFacts x V vc w := by
    intro hp
    obtain ⟨g, cap, hv, hbg, hgl⟩ := hown.form hp
    injection hv with e1 e2 e3
    subst e1 e3
    obtain ⟨cs, hcs⟩ := own_blk hown (b := g) rfl
    refine ⟨g, rfl, hgl, hvv, fun j u hj => ⟨?_, hcs.frozen j⟩⟩
    have := hown.cells (g := g) rfl j u hj
    rw [show ((⟨g, 0, none⟩ : Addr).add j) = ⟨g, j, none⟩ by unfold Addr.add; split <;> simp_all] at this
    exact this
  have HPUT : Hid (prs (put1 x.t.pairs lw (k, v)) = [] ++ prs (x.t.pairs.take lw) ++ [.int .i64 k, .int .i64 v] ++ prs (x.t.pairs.drop lw)) := Lib.hid (by rw [← prs_put1, prs_take2, prs_drop2]; simp)
  have HDEL : Hid (prs (del1 x.t.pairs lw) = [] ++ prs (x.t.pairs.take lw) ++ prs (x.t.pairs.drop (lw + 1))) := Lib.hid (by rw [← prs_del1, prs_take2, prs_drop2]; simp)
  have HPLEN : Hid ((put1 x.t.pairs lw (k, v)).length = x.t.pairs.length + 1) := Lib.hid (put1_length hlow)
  have HSL : SliceFacts x V vc lw w := by
    refine ⟨fun W hW => ?_, fun hh W hW => ?_⟩
    · have := ((hV.below hW).more hW.size).cut (k := lw) (cap := vc) hlow hvc
      rwa [prs_drop2] at this
    · have := ((hV.below hW).more hW.size).cut (k := lw + 1) (cap := vc) hh hvc
      rwa [prs_drop2] at this
  have r0 := hV.head (k := lw) hlow
  rw [prs_take2] at r0
  have r1 : ∀ n, Reads (w.drewN n) w.heap.size 2 V lw (prs (x.t.pairs.take lw)) := fun n => r0.drewN n
  have o1 : ∀ u ∈ prs (x.t.pairs.take lw), u.oneCell' = true := prs_one _
  have hlv' := hlow
  have m1 : 0 + lw ≤ maxLen := by unfold maxLen; omega
  have b1 : (0 + lw) * 16 ≤ 140737488355328 := by omega
  have hsz := Nat.le_refl w.heap.size
  obtain ⟨i0, hi0, hz0, hz1, hz2⟩ := info_parts info_prd
  obtain ⟨N, hN⟩ : ∃ N, N = x.t.pairs.length := ⟨_, rfl⟩
  have HN := Lib.hid hN
  obtain ⟨most, hmost⟩ : ∃ most, most = x.t.most := ⟨_, rfl⟩
  have HM := Lib.hid hmost
  rw [← hmost] at hm1 ⊢
  rw [← hN] at c1 hlv hlow hvc HV HSH HSH1
  clear h hok hk3 hA hac hal hvv hr hc hN hV hmost hown r0 ca1 hn0
  go_enter Try.func30, Try.ntmps30
  go_wp2_with fail
  go_loopg [10] lw (fun gk i wr => ∃ t m : Nat, i = .int .i64 t ∧ t ≤ lw ∧ gk = lw - t ∧ wr = w.drewN m)
  case atStart => exact ⟨0, 0, rfl, Nat.zero_le _, rfl, rfl⟩
  case round =>
    obtain ⟨t, md, rfl, htl, hgt, rfl⟩ := hrel
    have HGT := Lib.hid hgt
    clear hgt
    by_cases htN : t < N
    · have htv : t < x.t.pairs.length := by rw [← HN.out]; exact htN
      obtain ⟨g, hVg, hgl, hpv, hcl⟩ := HRF (by omega)
      have hfacts := slice_facts HSL HN.out hVg
      subst hVg
      have HPV := Lib.hid hpv
      have HFA := Lib.hid hfacts
      obtain ⟨X, Y, hXY⟩ : ∃ X Y, (X, Y) = x.t.pairs[t] := ⟨_, _, rfl⟩
      have px0 := prs_at x.t.pairs t 0 htv (by omega)
      have px1 := prs_at x.t.pairs t 1 htv (by omega)
      rw [← hXY] at px0 px1
      have cx : w.cell? ⟨g, t * 2, none⟩ = some (.int .i64 X) := by simpa using (hcl _ _ px0).1
      have cy : w.cell? ⟨g, t * 2 + 1, none⟩ = some (.int .i64 Y) := (hcl _ _ px1).1
      have fy : w.frozen? ⟨g, t * 2 + 1, none⟩ = false := (hcl _ _ px1).2
      have hX : X = x.t.pairs[t].1 := by rw [← hXY]
      have hti : (t : Int) < (N : Int) := by omega
      clear hcl px0 px1 hpv hfacts
      by_cases htw : t < lw
      · have hXk : X < k := by rw [hX]; exact HKA.1 t htv htw
        have e1 : decide (X < k) = true := by simp [hXk]
        clear hX hXk hXY
        go_wp2_with fail
        go_quiet (fail)
        go_wp2_with fail
        go_roundg (lw - (t + 1))
        case measure => have := HGT.out; omega
        case rel => exact ⟨t + 1, _, by go_num, by omega, rfl, rfl⟩
      · obtain rfl : t = lw := by omega
        have hXk : ¬ X < k := by rw [hX]; exact (HKA.2.1 htv).1
        have hat := (HKA.2.1 htv).2
        rw [← hX] at hat
        have e1 : decide (X < k) = false := by simp; omega
        have HX : Hid ((x.t.pairs.getD t (0, 0)).2 = Y) := Lib.hid (by rw [List.getD_eq_getElem?_getD, List.getElem?_eq_getElem htv, ← hXY]; rfl)
        have hXYk := hXY
        clear hX hXk hXY
        have e2 : (X == k) = yes := hat.symm
        rcases yes with _ | _
        · clear hat
          go_wp2_with fail
          go_quiet (fail)
          go_wp2_with fail
          go_quiet (fail)
          rcases HC.out with ⟨rfl, rfl⟩ | ⟨rfl, rfl⟩ | ⟨rfl, rfl⟩
          rotate_left 1
          rotate_left 1
          · obtain rfl : r = (x.t, 0, 1) := HR
            go_wp2_with (at_builtin; refine wpList_append_any _ rfl (.tmp 64) (.tmp 70) 50 rfl w.heap.size 54 i0 _ 2 16 Try.underlying50 hi0 hz0 hz1 hz2 rfl (by decide) _ _ _ rfl (World.ownsRow_nil _ _ _ _) w.heap.size _ _ _ _ rfl (r1 _) o1 m1 b1 hsz ?_; intro v1 w1 hown1 hg1 hd1; have hb1 := below_noneD hg1; have c1b := (hb1.cell (p := ⟨T, o + 2, none⟩) hTl).trans c1; have f1b : w1.frozen? ⟨T, o + 2, none⟩ = false := (hb1.frozen (p := ⟨T, o + 2, none⟩) hTl).trans f1; have HB1 := Lib.hid hb1; have hTl1 : T < w1.heap.size := Nat.lt_of_lt_of_le hTl hb1.size; have hsz1 := hb1.size; skip; clear hd1 hg1 hb1)
            go_ret2
            exact MPost.read H.out HB1.out rfl
          · obtain rfl : r = (x.t, 0, 1) := HR
            go_wp2_with (at_builtin; refine wpList_append_any _ rfl (.tmp 64) (.tmp 70) 50 rfl w.heap.size 54 i0 _ 2 16 Try.underlying50 hi0 hz0 hz1 hz2 rfl (by decide) _ _ _ rfl (World.ownsRow_nil _ _ _ _) w.heap.size _ _ _ _ rfl (r1 _) o1 m1 b1 hsz ?_; intro v1 w1 hown1 hg1 hd1; have hb1 := below_noneD hg1; have c1b := (hb1.cell (p := ⟨T, o + 2, none⟩) hTl).trans c1; have f1b : w1.frozen? ⟨T, o + 2, none⟩ = false := (hb1.frozen (p := ⟨T, o + 2, none⟩) hTl).trans f1; have HB1 := Lib.hid hb1; have hTl1 : T < w1.heap.size := Nat.lt_of_lt_of_le hTl hb1.size; have hsz1 := hb1.size; skip; clear hd1 hg1 hb1)
            go_ret2
            exact MPost.read H.out HB1.out rfl
          by_cases hfull : most ≤ (N : Int)
          · obtain rfl : r = (x.t, 0, 2) := (show r = _ from HR).trans (by unfold dictF; simp [← HM.out, ← HN.out, hfull])
            have e3 : decide (most ≤ (N : Int)) = true := by simp [hfull]
            go_wp2_with (at_builtin; refine wpList_append_any _ rfl (.tmp 64) (.tmp 70) 50 rfl w.heap.size 54 i0 _ 2 16 Try.underlying50 hi0 hz0 hz1 hz2 rfl (by decide) _ _ _ rfl (World.ownsRow_nil _ _ _ _) w.heap.size _ _ _ _ rfl (r1 _) o1 m1 b1 hsz ?_; intro v1 w1 hown1 hg1 hd1; have hb1 := below_noneD hg1; have c1b := (hb1.cell (p := ⟨T, o + 2, none⟩) hTl).trans c1; have f1b : w1.frozen? ⟨T, o + 2, none⟩ = false := (hb1.frozen (p := ⟨T, o + 2, none⟩) hTl).trans f1; have HB1 := Lib.hid hb1; have hTl1 : T < w1.heap.size := Nat.lt_of_lt_of_le hTl hb1.size; have hsz1 := hb1.size; skip; clear hd1 hg1 hb1)
            go_ret2
            exact MPost.read H.out HB1.out rfl
          obtain rfl : r = ({ x.t with pairs := put1 x.t.pairs t (k, v) }, 0, 0) := (show r = _ from HR).trans (by unfold dictF; simp [← HM.out, ← HN.out, hfull])
          skip
          · have RR := HFA.out.1 (by omega)
            have e3 : decide (most ≤ (N : Int)) = false := by simp; omega
            have hca1 := HCA.out rfl
            have hone : ∀ u ∈ ([.int .i64 k, .int .i64 v] : List Value), u.oneCell' = true := by simp [Value.oneCell']
            have o2 : ∀ u ∈ prs (x.t.pairs.drop t), u.oneCell' = true := prs_one _
            have m2 : 0 + t + 1 ≤ maxLen := by unfold maxLen; omega
            have b2 : (0 + t + 1) * 16 ≤ 140737488355328 := by omega
            have HLEN : Hid ((put1 x.t.pairs t (k, v)).length = N + 1) := Lib.hid (by rw [HPLEN.out, ← HN.out])
            go_wp2_with (at_builtin; refine wpList_append_any _ rfl (.tmp 64) (.tmp 70) 50 rfl w.heap.size 54 i0 _ 2 16 Try.underlying50 hi0 hz0 hz1 hz2 rfl (by decide) _ _ _ rfl (World.ownsRow_nil _ _ _ _) w.heap.size _ _ _ _ rfl (r1 _) o1 m1 b1 hsz ?_; intro v1 w1 hown1 hg1 hd1; have hb1 := below_noneD hg1; have c1b := (hb1.cell (p := ⟨T, o + 2, none⟩) hTl).trans c1; have f1b : w1.frozen? ⟨T, o + 2, none⟩ = false := (hb1.frozen (p := ⟨T, o + 2, none⟩) hTl).trans f1; have HB1 := Lib.hid hb1; have hTl1 : T < w1.heap.size := Nat.lt_of_lt_of_le hTl hb1.size; have hsz1 := hb1.size; (have d0 := (hb1.cell (p := ⟨ab, aoff, none⟩) hab).trans ca0; have d1 := (hb1.cell (p := ⟨ab, aoff + 1, none⟩) hab).trans hca1); clear hd1 hg1 hb1)
            go_region_law
              (refine step_append_lies _ (by rfl) _ _ _ (by rfl) w.heap.size 54 i0 _ 2 16 Try.underlying50 hi0 hz0 hz1 hz2 rfl (by omega) v1 (0 + t) ([] ++ prs (x.t.pairs.take t)) (by rfl) (show _ from hown1.alloc _)
                  ⟨w1.heap.size, 0, none⟩ 1 1 [.int .i64 k, .int .i64 v] (by rfl) (by rfl) (World.news_of_block (cs := #[.int .i64 k, .int .i64 v]) (t := 54) (fr := (0, 0)) (heap_alloc_new w1 _)) hone
                  (by omega) m2 b2 (by simp; omega) (w1.heap.size + 1) (by simp) ?_; intro gg cap w2 hown2 hgrow hat hlt2)
            all_goals
              have hb2 : Below w.heap.size w w2 := below_twoD HB1.out hown1 hgrow
              have c1c := (hb2.cell (p := ⟨T, o + 2, none⟩) hTl).trans c1
              have HB2 := Lib.hid hb2
              have hsz3 := hb2.size
              have r3 := RR w2 hb2
              have m3 : ∀ q, q ≤ N → 0 + t + 1 + q ≤ maxLen := fun q hq => by unfold maxLen; omega
              have b3 : ∀ q, q ≤ N → (0 + t + 1 + q) * 16 ≤ 140737488355328 := fun q hq => by omega
              have m3 := m3 _ (Nat.sub_le N t)
              have b3 := b3 _ (Nat.sub_le N t)
              try simp only [Nat.sub_self] at m3 b3
              try simp only [Nat.sub_self] at r3
              try simp only [Nat.zero_add] at hown2 m3 b3
              clear hgrow hat hown1 RR hb2
              go_wp2_with (first | (at_builtin; refine wpList_append_any _ rfl (.tmp 127) (.tmp 133) 50 rfl w.heap.size 54 i0 _ 2 16 Try.underlying50 hi0 hz0 hz1 hz2 rfl (by decide) _ _ _ rfl hown2 _ _ _ _ _ rfl r3 o2 m3 b3 hsz3 ?_; intro v3 w3 hown3 hg3 hd3; have hb3 : Below w.heap.size w w3 := (below_row hg3 (fun g e => (hown2.lt g e).1) hsz3 |> fun hh => HB2.out.trans hh); obtain ⟨R3, rc3, rfl, -, -⟩ := own_shapes hown3; have c1d := (hb3.cell (p := ⟨T, o + 2, none⟩) hTl).trans c1; have f1d : w3.frozen? ⟨T, o + 2, none⟩ = false := (hb3.frozen (p := ⟨T, o + 2, none⟩) hTl).trans f1; have HB3 := Lib.hid hb3; have hTl3 : T < w3.heap.size := Nat.lt_of_lt_of_le hTl hb3.size; have HO3 := Lib.hid hown3; clear hd3 hg3 hb3 hown3) | (at_builtin; trace_state; fail))
              go_ret2
              have hh := HO3.out
              try simp only [Nat.zero_add, Nat.add_zero] at hh
              exact ⟨rfl, newp_end H.out hbase HB3.out hh (by have := HLEN.out; omega) HPUT.out.symm⟩
        · clear hat
          have HSETK : Hid (t < x.t.pairs.length ∧ x.t.pairs[t]? = some (k, Y)) := Lib.hid ⟨htv, by rw [List.getElem?_eq_getElem htv, ← hXYk]; rw [show X = k by simpa using e2]⟩
          clear hXYk
          go_wp2_with fail
          go_quiet (fail)
          go_wp2_with fail
          go_quiet (fail)
          rcases HC.out with ⟨rfl, rfl⟩ | ⟨rfl, rfl⟩ | ⟨rfl, rfl⟩
          · obtain rfl := (show r = _ from HR).trans (show dictF x.t 2 k v t true = (x.t, Y, 0) by rw [← HX.out]; rfl)
            go_wp2_with (at_builtin; refine wpList_append_any _ rfl (.tmp 64) (.tmp 70) 50 rfl w.heap.size 54 i0 _ 2 16 Try.underlying50 hi0 hz0 hz1 hz2 rfl (by decide) _ _ _ rfl (World.ownsRow_nil _ _ _ _) w.heap.size _ _ _ _ rfl (r1 _) o1 m1 b1 hsz ?_; intro v1 w1 hown1 hg1 hd1; have hb1 := below_noneD hg1; have c1b := (hb1.cell (p := ⟨T, o + 2, none⟩) hTl).trans c1; have f1b : w1.frozen? ⟨T, o + 2, none⟩ = false := (hb1.frozen (p := ⟨T, o + 2, none⟩) hTl).trans f1; have HB1 := Lib.hid hb1; have hTl1 : T < w1.heap.size := Nat.lt_of_lt_of_le hTl hb1.size; have hsz1 := hb1.size; (have dy := (hb1.cell (p := ⟨g, t * 2 + 1, none⟩) hgl).trans cy); clear hd1 hg1 hb1)
            go_ret2
            exact MPost.read H.out HB1.out rfl
          · obtain rfl := (show r = _ from HR).trans (show dictF x.t 3 k v t true = ({ x.t with pairs := x.t.pairs.set t (k, v) }, 0, 0) from rfl)
            have hca1 := HCA.out rfl
            go_wp2_with (at_builtin; refine wpList_append_any _ rfl (.tmp 64) (.tmp 70) 50 rfl w.heap.size 54 i0 _ 2 16 Try.underlying50 hi0 hz0 hz1 hz2 rfl (by decide) _ _ _ rfl (World.ownsRow_nil _ _ _ _) w.heap.size _ _ _ _ rfl (r1 _) o1 m1 b1 hsz ?_; intro v1 w1 hown1 hg1 hd1; have hb1 := below_noneD hg1; have c1b := (hb1.cell (p := ⟨T, o + 2, none⟩) hTl).trans c1; have f1b : w1.frozen? ⟨T, o + 2, none⟩ = false := (hb1.frozen (p := ⟨T, o + 2, none⟩) hTl).trans f1; have HB1 := Lib.hid hb1; have hTl1 : T < w1.heap.size := Nat.lt_of_lt_of_le hTl hb1.size; have hsz1 := hb1.size; (have dy := (hb1.cell (p := ⟨g, t * 2 + 1, none⟩) hgl).trans cy; have dfy : w1.frozen? ⟨g, t * 2 + 1, none⟩ = false := (hb1.frozen (p := ⟨g, t * 2 + 1, none⟩) hgl).trans fy; have d1 := (hb1.cell (p := ⟨ab, aoff + 1, none⟩) hab).trans hca1; have hgl1 : g < w1.heap.size := Nat.lt_of_lt_of_le hgl hb1.size); clear hd1 hg1 hb1)
            go_region_law (fail)
            all_goals
              go_wp2_with fail
              go_ret2
              exact ⟨rfl, put_end H.out HPV.out HB1.out (prs_setv _ _ _ _ HSETK.out.1 (by have h2 := HSETK.out.2; rw [List.getElem?_eq_getElem HSETK.out.1] at h2; injection h2 with h2; rw [h2])).symm⟩
          · obtain rfl := (show r = _ from HR).trans (show dictF x.t 4 k v t true = ({ x.t with pairs := del1 x.t.pairs t }, 0, 0) from rfl)
            have HDLEN : Hid ((del1 x.t.pairs t).length = N - 1) := Lib.hid (by rw [del1_length HSETK.out.1, HN.out])
            have o2 : ∀ u ∈ prs (x.t.pairs.drop (t + 1)), u.oneCell' = true := prs_one _
            by_cases hvt : vc = t + 1
            · obtain rfl : N = t + 1 := by omega
              subst hvt
              have RR := HFA.out.2.2.2 (by omega) rfl rfl
              have m3 : 0 + t + 0 ≤ maxLen := by unfold maxLen; omega
              have b3 : (0 + t + 0) * 16 ≤ 140737488355328 := by omega
              go_wp2_with (first | (at_builtin; refine wpList_append_any _ rfl (.tmp 64) (.tmp 70) 50 rfl w.heap.size 54 i0 _ 2 16 Try.underlying50 hi0 hz0 hz1 hz2 rfl (by decide) _ _ _ rfl (World.ownsRow_nil _ _ _ _) w.heap.size _ _ _ _ rfl (r1 _) o1 m1 b1 hsz ?_; intro v1 w1 hown1 hg1 hd1; have hb1 := below_noneD hg1; have c1b := (hb1.cell (p := ⟨T, o + 2, none⟩) hTl).trans c1; have f1b : w1.frozen? ⟨T, o + 2, none⟩ = false := (hb1.frozen (p := ⟨T, o + 2, none⟩) hTl).trans f1; have HB1 := Lib.hid hb1; have hTl1 : T < w1.heap.size := Nat.lt_of_lt_of_le hTl hb1.size; have hsz1 := hb1.size; have r2 := RR w1 hb1; clear hd1 hg1 hb1) | (at_builtin; refine wpList_append_any _ rfl (.tmp 137) (.tmp 144) 50 rfl w.heap.size 54 i0 _ 2 16 Try.underlying50 hi0 hz0 hz1 hz2 rfl (by decide) _ _ _ rfl hown1 _ _ _ _ _ rfl r2 o2 m3 b3 hsz1 ?_; intro v3 w3 hown3 hg3 hd3; have hb3 : Below w.heap.size w w3 := (below_row hg3 (fun g e => (hown1.lt g e).1) hsz1 |> fun hh => HB1.out.trans hh); obtain ⟨R3, rc3, rfl, -, -⟩ := own_shapes hown3; have c1d := (hb3.cell (p := ⟨T, o + 2, none⟩) hTl).trans c1; have f1d : w3.frozen? ⟨T, o + 2, none⟩ = false := (hb3.frozen (p := ⟨T, o + 2, none⟩) hTl).trans f1; have HB3 := Lib.hid hb3; have hTl3 : T < w3.heap.size := Nat.lt_of_lt_of_le hTl hb3.size; have HO3 := Lib.hid hown3; clear hd3 hg3 hb3 hown3) | (at_builtin; trace_state; fail))
              go_ret2
              have hh := HO3.out
              try simp only [Nat.zero_add, Nat.add_zero] at hh
              exact ⟨rfl, newp_end H.out hbase HB3.out hh (by have := HDLEN.out; omega) HDEL.out.symm⟩
            · have RR := HFA.out.2.2.1 (by omega) hvt
              have m3 : 0 + t + (N - (t + 1)) ≤ maxLen := by unfold maxLen; omega
              have b3 : (0 + t + (N - (t + 1))) * 16 ≤ 140737488355328 := by omega
              go_wp2_with (first | (at_builtin; refine wpList_append_any _ rfl (.tmp 64) (.tmp 70) 50 rfl w.heap.size 54 i0 _ 2 16 Try.underlying50 hi0 hz0 hz1 hz2 rfl (by decide) _ _ _ rfl (World.ownsRow_nil _ _ _ _) w.heap.size _ _ _ _ rfl (r1 _) o1 m1 b1 hsz ?_; intro v1 w1 hown1 hg1 hd1; have hb1 := below_noneD hg1; have c1b := (hb1.cell (p := ⟨T, o + 2, none⟩) hTl).trans c1; have f1b : w1.frozen? ⟨T, o + 2, none⟩ = false := (hb1.frozen (p := ⟨T, o + 2, none⟩) hTl).trans f1; have HB1 := Lib.hid hb1; have hTl1 : T < w1.heap.size := Nat.lt_of_lt_of_le hTl hb1.size; have hsz1 := hb1.size; have r2 := RR w1 hb1; clear hd1 hg1 hb1) | (at_builtin; refine wpList_append_any _ rfl (.tmp 137) (.tmp 144) 50 rfl w.heap.size 54 i0 _ 2 16 Try.underlying50 hi0 hz0 hz1 hz2 rfl (by decide) _ _ _ rfl hown1 _ _ _ _ _ rfl r2 o2 m3 b3 hsz1 ?_; intro v3 w3 hown3 hg3 hd3; have hb3 : Below w.heap.size w w3 := (below_row hg3 (fun g e => (hown1.lt g e).1) hsz1 |> fun hh => HB1.out.trans hh); obtain ⟨R3, rc3, rfl, -, -⟩ := own_shapes hown3; have c1d := (hb3.cell (p := ⟨T, o + 2, none⟩) hTl).trans c1; have f1d : w3.frozen? ⟨T, o + 2, none⟩ = false := (hb3.frozen (p := ⟨T, o + 2, none⟩) hTl).trans f1; have HB3 := Lib.hid hb3; have hTl3 : T < w3.heap.size := Nat.lt_of_lt_of_le hTl hb3.size; have HO3 := Lib.hid hown3; clear hd3 hg3 hb3 hown3) | (at_builtin; trace_state; fail))
              go_ret2
              have hh := HO3.out
              try simp only [Nat.zero_add, Nat.add_zero] at hh
              exact ⟨rfl, newp_end H.out hbase HB3.out hh (by have := HDLEN.out; omega) HDEL.out.symm⟩
    · obtain rfl : t = lw := by omega
      obtain rfl : N = t := by omega
      obtain rfl : yes = false := HKA.2.2 HN.out
      go_wp2_with fail
      go_quiet (fail)
      go_wp2_with fail
      go_quiet (fail)
      rcases HC.out with ⟨rfl, rfl⟩ | ⟨rfl, rfl⟩ | ⟨rfl, rfl⟩
      rotate_left 1
      rotate_left 1
      · obtain rfl : r = (x.t, 0, 1) := HR
        go_wp2_with (at_builtin; refine wpList_append_any _ rfl (.tmp 64) (.tmp 70) 50 rfl w.heap.size 54 i0 _ 2 16 Try.underlying50 hi0 hz0 hz1 hz2 rfl (by decide) _ _ _ rfl (World.ownsRow_nil _ _ _ _) w.heap.size _ _ _ _ rfl (r1 _) o1 m1 b1 hsz ?_; intro v1 w1 hown1 hg1 hd1; have hb1 := below_noneD hg1; have c1b := (hb1.cell (p := ⟨T, o + 2, none⟩) hTl).trans c1; have f1b : w1.frozen? ⟨T, o + 2, none⟩ = false := (hb1.frozen (p := ⟨T, o + 2, none⟩) hTl).trans f1; have HB1 := Lib.hid hb1; have hTl1 : T < w1.heap.size := Nat.lt_of_lt_of_le hTl hb1.size; have hsz1 := hb1.size; skip; clear hd1 hg1 hb1)
        go_ret2
        exact MPost.read H.out HB1.out rfl
      · obtain rfl : r = (x.t, 0, 1) := HR
        go_wp2_with (at_builtin; refine wpList_append_any _ rfl (.tmp 64) (.tmp 70) 50 rfl w.heap.size 54 i0 _ 2 16 Try.underlying50 hi0 hz0 hz1 hz2 rfl (by decide) _ _ _ rfl (World.ownsRow_nil _ _ _ _) w.heap.size _ _ _ _ rfl (r1 _) o1 m1 b1 hsz ?_; intro v1 w1 hown1 hg1 hd1; have hb1 := below_noneD hg1; have c1b := (hb1.cell (p := ⟨T, o + 2, none⟩) hTl).trans c1; have f1b : w1.frozen? ⟨T, o + 2, none⟩ = false := (hb1.frozen (p := ⟨T, o + 2, none⟩) hTl).trans f1; have HB1 := Lib.hid hb1; have hTl1 : T < w1.heap.size := Nat.lt_of_lt_of_le hTl hb1.size; have hsz1 := hb1.size; skip; clear hd1 hg1 hb1)
        go_ret2
        exact MPost.read H.out HB1.out rfl
      by_cases hfull : most ≤ (N : Int)
      · obtain rfl : r = (x.t, 0, 2) := (show r = _ from HR).trans (by unfold dictF; simp [← HM.out, ← HN.out, hfull])
        have e3 : decide (most ≤ (N : Int)) = true := by simp [hfull]
        go_wp2_with (at_builtin; refine wpList_append_any _ rfl (.tmp 64) (.tmp 70) 50 rfl w.heap.size 54 i0 _ 2 16 Try.underlying50 hi0 hz0 hz1 hz2 rfl (by decide) _ _ _ rfl (World.ownsRow_nil _ _ _ _) w.heap.size _ _ _ _ rfl (r1 _) o1 m1 b1 hsz ?_; intro v1 w1 hown1 hg1 hd1; have hb1 := below_noneD hg1; have c1b := (hb1.cell (p := ⟨T, o + 2, none⟩) hTl).trans c1; have f1b : w1.frozen? ⟨T, o + 2, none⟩ = false := (hb1.frozen (p := ⟨T, o + 2, none⟩) hTl).trans f1; have HB1 := Lib.hid hb1; have hTl1 : T < w1.heap.size := Nat.lt_of_lt_of_le hTl hb1.size; have hsz1 := hb1.size; skip; clear hd1 hg1 hb1)
        go_ret2
        exact MPost.read H.out HB1.out rfl
      obtain rfl : r = ({ x.t with pairs := put1 x.t.pairs N (k, v) }, 0, 0) := (show r = _ from HR).trans (by unfold dictF; simp [← HM.out, ← HN.out, hfull])
      skip
      · rcases HSH.out with ⟨hV0, hn0, hv0, -⟩ | ⟨g, hVg, hvl, -⟩ | ⟨g, hVg, hvl⟩
        · have RR : ∀ W, Below w.heap.size w W → Reads W W.heap.size 2 none 0 (prs (x.t.pairs.drop N)) := fun W hW => by
            rw [show x.t.pairs.drop N = [] from List.drop_eq_nil_of_le (by rw [← HN.out]; exact Nat.le_refl _)]
            exact Reads.empty _
          subst hV0 hn0 hv0
          have e3 : decide (most ≤ (0 : Int)) = false := by simp; omega
          have hca1 := HCA.out rfl
          have hone : ∀ u ∈ ([.int .i64 k, .int .i64 v] : List Value), u.oneCell' = true := by simp [Value.oneCell']
          have o2 : ∀ u ∈ prs (x.t.pairs.drop 0), u.oneCell' = true := prs_one _
          have m2 : 0 + 0 + 1 ≤ maxLen := by unfold maxLen; omega
          have b2 : (0 + 0 + 1) * 16 ≤ 140737488355328 := by omega
          have HLEN : Hid ((put1 x.t.pairs 0 (k, v)).length = 0 + 1) := Lib.hid (by rw [HPLEN.out, ← HN.out])
          go_wp2_with (at_builtin; refine wpList_append_any _ rfl (.tmp 64) (.tmp 70) 50 rfl w.heap.size 54 i0 _ 2 16 Try.underlying50 hi0 hz0 hz1 hz2 rfl (by decide) _ _ _ rfl (World.ownsRow_nil _ _ _ _) w.heap.size _ _ _ _ rfl (r1 _) o1 m1 b1 hsz ?_; intro v1 w1 hown1 hg1 hd1; have hb1 := below_noneD hg1; have c1b := (hb1.cell (p := ⟨T, o + 2, none⟩) hTl).trans c1; have f1b : w1.frozen? ⟨T, o + 2, none⟩ = false := (hb1.frozen (p := ⟨T, o + 2, none⟩) hTl).trans f1; have HB1 := Lib.hid hb1; have hTl1 : T < w1.heap.size := Nat.lt_of_lt_of_le hTl hb1.size; have hsz1 := hb1.size; (have d0 := (hb1.cell (p := ⟨ab, aoff, none⟩) hab).trans ca0; have d1 := (hb1.cell (p := ⟨ab, aoff + 1, none⟩) hab).trans hca1); clear hd1 hg1 hb1)
          go_region_law
            (refine step_append_lies _ (by rfl) _ _ _ (by rfl) w.heap.size 54 i0 _ 2 16 Try.underlying50 hi0 hz0 hz1 hz2 rfl (by omega) v1 (0 + 0) ([] ++ prs (x.t.pairs.take 0)) (by rfl) (show _ from hown1.alloc _)
                ⟨w1.heap.size, 0, none⟩ 1 1 [.int .i64 k, .int .i64 v] (by rfl) (by rfl) (World.news_of_block (cs := #[.int .i64 k, .int .i64 v]) (t := 54) (fr := (0, 0)) (heap_alloc_new w1 _)) hone
                (by omega) m2 b2 (by simp; omega) (w1.heap.size + 1) (by simp) ?_; intro gg cap w2 hown2 hgrow hat hlt2)
          all_goals
            have hb2 : Below w.heap.size w w2 := below_twoD HB1.out hown1 hgrow
            have c1c := (hb2.cell (p := ⟨T, o + 2, none⟩) hTl).trans c1
            have HB2 := Lib.hid hb2
            have hsz3 := hb2.size
            have r3 := RR w2 hb2
            have m3 : ∀ q, q ≤ 0 → 0 + 0 + 1 + q ≤ maxLen := fun q hq => by unfold maxLen; omega
            have b3 : ∀ q, q ≤ 0 → (0 + 0 + 1 + q) * 16 ≤ 140737488355328 := fun q hq => by omega
            have m3 := m3 _ (Nat.sub_le 0 0)
            have b3 := b3 _ (Nat.sub_le 0 0)
            try simp only [Nat.sub_self] at m3 b3
            try simp only [Nat.sub_self] at r3
            try simp only [Nat.zero_add] at hown2 m3 b3
            clear hgrow hat hown1 RR hb2
            go_wp2_with (first | (at_builtin; refine wpList_append_any _ rfl (.tmp 127) (.tmp 133) 50 rfl w.heap.size 54 i0 _ 2 16 Try.underlying50 hi0 hz0 hz1 hz2 rfl (by decide) _ _ _ rfl hown2 _ _ _ _ _ rfl r3 o2 m3 b3 hsz3 ?_; intro v3 w3 hown3 hg3 hd3; have hb3 : Below w.heap.size w w3 := (below_row hg3 (fun g e => (hown2.lt g e).1) hsz3 |> fun hh => HB2.out.trans hh); obtain ⟨R3, rc3, rfl, -, -⟩ := own_shapes hown3; have c1d := (hb3.cell (p := ⟨T, o + 2, none⟩) hTl).trans c1; have f1d : w3.frozen? ⟨T, o + 2, none⟩ = false := (hb3.frozen (p := ⟨T, o + 2, none⟩) hTl).trans f1; have HB3 := Lib.hid hb3; have hTl3 : T < w3.heap.size := Nat.lt_of_lt_of_le hTl hb3.size; have HO3 := Lib.hid hown3; clear hd3 hg3 hb3 hown3) | (at_builtin; trace_state; fail))
            go_ret2
            have hh := HO3.out
            try simp only [Nat.zero_add, Nat.add_zero] at hh
            exact ⟨rfl, newp_end H.out hbase HB3.out hh (by have := HLEN.out; omega) HPUT.out.symm⟩
        · have RR := (slice_facts HSL HN.out hVg).2.1 hvl rfl
          subst hVg
          obtain rfl : N = vc := hvl.symm
          have e3 : decide (most ≤ (N : Int)) = false := by simp; omega
          have hca1 := HCA.out rfl
          have hone : ∀ u ∈ ([.int .i64 k, .int .i64 v] : List Value), u.oneCell' = true := by simp [Value.oneCell']
          have o2 : ∀ u ∈ prs (x.t.pairs.drop N), u.oneCell' = true := prs_one _
          have m2 : 0 + N + 1 ≤ maxLen := by unfold maxLen; omega
          have b2 : (0 + N + 1) * 16 ≤ 140737488355328 := by omega
          have HLEN : Hid ((put1 x.t.pairs N (k, v)).length = N + 1) := Lib.hid (by rw [HPLEN.out, ← HN.out])
          go_wp2_with (at_builtin; refine wpList_append_any _ rfl (.tmp 64) (.tmp 70) 50 rfl w.heap.size 54 i0 _ 2 16 Try.underlying50 hi0 hz0 hz1 hz2 rfl (by decide) _ _ _ rfl (World.ownsRow_nil _ _ _ _) w.heap.size _ _ _ _ rfl (r1 _) o1 m1 b1 hsz ?_; intro v1 w1 hown1 hg1 hd1; have hb1 := below_noneD hg1; have c1b := (hb1.cell (p := ⟨T, o + 2, none⟩) hTl).trans c1; have f1b : w1.frozen? ⟨T, o + 2, none⟩ = false := (hb1.frozen (p := ⟨T, o + 2, none⟩) hTl).trans f1; have HB1 := Lib.hid hb1; have hTl1 : T < w1.heap.size := Nat.lt_of_lt_of_le hTl hb1.size; have hsz1 := hb1.size; (have d0 := (hb1.cell (p := ⟨ab, aoff, none⟩) hab).trans ca0; have d1 := (hb1.cell (p := ⟨ab, aoff + 1, none⟩) hab).trans hca1); clear hd1 hg1 hb1)
          go_region_law
            (refine step_append_lies _ (by rfl) _ _ _ (by rfl) w.heap.size 54 i0 _ 2 16 Try.underlying50 hi0 hz0 hz1 hz2 rfl (by omega) v1 (0 + N) ([] ++ prs (x.t.pairs.take N)) (by rfl) (show _ from hown1.alloc _)
                ⟨w1.heap.size, 0, none⟩ 1 1 [.int .i64 k, .int .i64 v] (by rfl) (by rfl) (World.news_of_block (cs := #[.int .i64 k, .int .i64 v]) (t := 54) (fr := (0, 0)) (heap_alloc_new w1 _)) hone
                (by omega) m2 b2 (by simp; omega) (w1.heap.size + 1) (by simp) ?_; intro gg cap w2 hown2 hgrow hat hlt2)
          all_goals
            have hb2 : Below w.heap.size w w2 := below_twoD HB1.out hown1 hgrow
            have c1c := (hb2.cell (p := ⟨T, o + 2, none⟩) hTl).trans c1
            have HB2 := Lib.hid hb2
            have hsz3 := hb2.size
            have r3 := RR w2 hb2
            have m3 : ∀ q, q ≤ N → 0 + N + 1 + q ≤ maxLen := fun q hq => by unfold maxLen; omega
            have b3 : ∀ q, q ≤ N → (0 + N + 1 + q) * 16 ≤ 140737488355328 := fun q hq => by omega
            have m3 := m3 _ (Nat.sub_le N N)
            have b3 := b3 _ (Nat.sub_le N N)
            try simp only [Nat.sub_self] at m3 b3
            try simp only [Nat.sub_self] at r3
            try simp only [Nat.zero_add] at hown2 m3 b3
            clear hgrow hat hown1 RR hb2
            go_wp2_with (first | (at_builtin; refine wpList_append_any _ rfl (.tmp 127) (.tmp 133) 50 rfl w.heap.size 54 i0 _ 2 16 Try.underlying50 hi0 hz0 hz1 hz2 rfl (by decide) _ _ _ rfl hown2 _ _ _ _ _ rfl r3 o2 m3 b3 hsz3 ?_; intro v3 w3 hown3 hg3 hd3; have hb3 : Below w.heap.size w w3 := (below_row hg3 (fun g e => (hown2.lt g e).1) hsz3 |> fun hh => HB2.out.trans hh); obtain ⟨R3, rc3, rfl, -, -⟩ := own_shapes hown3; have c1d := (hb3.cell (p := ⟨T, o + 2, none⟩) hTl).trans c1; have f1d : w3.frozen? ⟨T, o + 2, none⟩ = false := (hb3.frozen (p := ⟨T, o + 2, none⟩) hTl).trans f1; have HB3 := Lib.hid hb3; have hTl3 : T < w3.heap.size := Nat.lt_of_lt_of_le hTl hb3.size; have HO3 := Lib.hid hown3; clear hd3 hg3 hb3 hown3) | (at_builtin; trace_state; fail))
            go_ret2
            have hh := HO3.out
            try simp only [Nat.zero_add, Nat.add_zero] at hh
            exact ⟨rfl, newp_end H.out hbase HB3.out hh (by have := HLEN.out; omega) HPUT.out.symm⟩
        · have RR := (slice_facts HSL HN.out hVg).1 hvl
          subst hVg
          have e3 : decide (most ≤ (N : Int)) = false := by simp; omega
          have hca1 := HCA.out rfl
          have hone : ∀ u ∈ ([.int .i64 k, .int .i64 v] : List Value), u.oneCell' = true := by simp [Value.oneCell']
          have o2 : ∀ u ∈ prs (x.t.pairs.drop N), u.oneCell' = true := prs_one _
          have m2 : 0 + N + 1 ≤ maxLen := by unfold maxLen; omega
          have b2 : (0 + N + 1) * 16 ≤ 140737488355328 := by omega
          have HLEN : Hid ((put1 x.t.pairs N (k, v)).length = N + 1) := Lib.hid (by rw [HPLEN.out, ← HN.out])
          go_wp2_with (at_builtin; refine wpList_append_any _ rfl (.tmp 64) (.tmp 70) 50 rfl w.heap.size 54 i0 _ 2 16 Try.underlying50 hi0 hz0 hz1 hz2 rfl (by decide) _ _ _ rfl (World.ownsRow_nil _ _ _ _) w.heap.size _ _ _ _ rfl (r1 _) o1 m1 b1 hsz ?_; intro v1 w1 hown1 hg1 hd1; have hb1 := below_noneD hg1; have c1b := (hb1.cell (p := ⟨T, o + 2, none⟩) hTl).trans c1; have f1b : w1.frozen? ⟨T, o + 2, none⟩ = false := (hb1.frozen (p := ⟨T, o + 2, none⟩) hTl).trans f1; have HB1 := Lib.hid hb1; have hTl1 : T < w1.heap.size := Nat.lt_of_lt_of_le hTl hb1.size; have hsz1 := hb1.size; (have d0 := (hb1.cell (p := ⟨ab, aoff, none⟩) hab).trans ca0; have d1 := (hb1.cell (p := ⟨ab, aoff + 1, none⟩) hab).trans hca1); clear hd1 hg1 hb1)
          go_region_law
            (refine step_append_lies _ (by rfl) _ _ _ (by rfl) w.heap.size 54 i0 _ 2 16 Try.underlying50 hi0 hz0 hz1 hz2 rfl (by omega) v1 (0 + N) ([] ++ prs (x.t.pairs.take N)) (by rfl) (show _ from hown1.alloc _)
                ⟨w1.heap.size, 0, none⟩ 1 1 [.int .i64 k, .int .i64 v] (by rfl) (by rfl) (World.news_of_block (cs := #[.int .i64 k, .int .i64 v]) (t := 54) (fr := (0, 0)) (heap_alloc_new w1 _)) hone
                (by omega) m2 b2 (by simp; omega) (w1.heap.size + 1) (by simp) ?_; intro gg cap w2 hown2 hgrow hat hlt2)
          all_goals
            have hb2 : Below w.heap.size w w2 := below_twoD HB1.out hown1 hgrow
            have c1c := (hb2.cell (p := ⟨T, o + 2, none⟩) hTl).trans c1
            have HB2 := Lib.hid hb2
            have hsz3 := hb2.size
            have r3 := RR w2 hb2
            have m3 : ∀ q, q ≤ N → 0 + N + 1 + q ≤ maxLen := fun q hq => by unfold maxLen; omega
            have b3 : ∀ q, q ≤ N → (0 + N + 1 + q) * 16 ≤ 140737488355328 := fun q hq => by omega
            have m3 := m3 _ (Nat.sub_le N N)
            have b3 := b3 _ (Nat.sub_le N N)
            try simp only [Nat.sub_self] at m3 b3
            try simp only [Nat.sub_self] at r3
            try simp only [Nat.zero_add] at hown2 m3 b3
            clear hgrow hat hown1 RR hb2
            go_wp2_with (first | (at_builtin; refine wpList_append_any _ rfl (.tmp 127) (.tmp 133) 50 rfl w.heap.size 54 i0 _ 2 16 Try.underlying50 hi0 hz0 hz1 hz2 rfl (by decide) _ _ _ rfl hown2 _ _ _ _ _ rfl r3 o2 m3 b3 hsz3 ?_; intro v3 w3 hown3 hg3 hd3; have hb3 : Below w.heap.size w w3 := (below_row hg3 (fun g e => (hown2.lt g e).1) hsz3 |> fun hh => HB2.out.trans hh); obtain ⟨R3, rc3, rfl, -, -⟩ := own_shapes hown3; have c1d := (hb3.cell (p := ⟨T, o + 2, none⟩) hTl).trans c1; have f1d : w3.frozen? ⟨T, o + 2, none⟩ = false := (hb3.frozen (p := ⟨T, o + 2, none⟩) hTl).trans f1; have HB3 := Lib.hid hb3; have hTl3 : T < w3.heap.size := Nat.lt_of_lt_of_le hTl hb3.size; have HO3 := Lib.hid hown3; clear hd3 hg3 hb3 hown3) | (at_builtin; trace_state; fail))
            go_ret2
            have hh := HO3.out
            try simp only [Nat.zero_add, Nat.add_zero] at hh
            exact ⟨rfl, newp_end H.out hbase HB3.out hh (by have := HLEN.out; omega) HPUT.out.symm⟩
end Go.Proofs.Ytpmpgnhbpneloaa
