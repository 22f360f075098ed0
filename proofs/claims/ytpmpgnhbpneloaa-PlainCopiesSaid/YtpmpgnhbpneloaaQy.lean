/- What the Shapes of a plain state are. -/
import Derived.Test.YtpmpgnhbpneloaaQw
import Derived.Test.YtpmpgnhbpneloaaQx
namespace Go.Proofs.Ytpmpgnhbpneloaa
open Go.RowKit Go.Joins Go.ChangeShapes Go.WideShapes Go.Deep
set_option linter.unusedVariables false
set_option maxRecDepth 100000

theorem own_of_blk {w : World} {base b n size : Nat} {e : TypeId} {xs : List Value} (h : Blk w b e xs.toArray) (hb : base ≤ b) (hx : xs.length = n * size) (hn : n ≤ maxLen) : w.ownsRow base e size (.slice (some ⟨b, 0, none⟩) n n) n xs :=
  ⟨hx, .inr ⟨b, n, xs.toArray, rfl, hb, h, Nat.le_refl _, hn, by simpa using hx, by rw [← hx]; simp⟩⟩
theorem LIs.drew1 {w : World} {base : Nat} {T : TypeId} {k : Nat} {enc : TM → List Value} {tv : Value} {l : List TM} (h : LIs w base T k enc tv l) : LIs w.drew base T k enc tv l := h.keep fun _ _ => rfl

def ListPost (W : World) (n : Nat) (t : TypeId) (xs : List Value) : Ending → World → Prop := fun e w' => ∃ b, e = .returned (.slice (some ⟨b, 0, none⟩) n n) ∧ Blk w' b t xs.toArray ∧ W.heap.size ≤ b ∧ Below W.heap.size W w'

theorem thing_new {w : World} {base bv bp nv np : Nat} {x : TS} (hv : Blk w bv 2 (ints x.values).toArray) (hp : Blk w bp 54 (prs x.pairs).toArray) (h1 : base ≤ bv) (h2 : base ≤ bp) (e1 : nv = x.values.length) (e2 : np = x.pairs.length) (l1 : nv ≤ 16) (l2 : np ≤ 16) :
    ThingIs w base ⟨x, .slice (some ⟨bv, 0, none⟩) nv nv, .slice (some ⟨bp, 0, none⟩) np np⟩ := by
  subst e1 e2
  exact ⟨own_of_blk hv h1 (by simp [ints]) (by unfold maxLen; omega), own_of_blk hp h2 (prs_length _) (by unfold maxLen; omega)⟩
theorem shapes_snoc {w w2 w3 : World} {L bv bp nv np gg cap : Nat} {kind : Int} {o : Obj} {u : Value} {lv : List TM} {x : TS} (hL : LIs w2 w.heap.size 52 3 TM.cells3 u lv) (hBv : Blk w2 bv 2 (ints x.values).toArray) (hBp : Blk w2 bp 54 (prs x.pairs).toArray)
    (HLB : ∀ y ∈ lv, ∀ b, (y.vv.ownBlock = some b ∨ y.pv.ownBlock = some b) → b < L) (hv : L < bv) (hp : L < bp) (hBL : w.heap.size ≤ L) (e0 : kind = x.kind) (e1 : nv = x.values.length) (e2 : np = x.pairs.length) (l1 : nv ≤ 16) (l2 : np ≤ 16) (hbx : Below w.heap.size w w2)
    (hg : (w2.alloc o).grownBy w3 u.ownBlock) (hr : w3.ownsRow w.heap.size 52 3 (.slice (some ⟨gg, 0, none⟩) (lv.length + 1) cap) (lv.length + 1) (rows TM.cells3 lv ++ [.int .i64 kind, .slice (some ⟨bv, 0, none⟩) nv nv, .slice (some ⟨bp, 0, none⟩) np np])) :
    ∃ X : TM, X.t = x ∧ LIs w3 w.heap.size 52 3 TM.cells3 (.slice (some ⟨gg, 0, none⟩) (lv.length + 1) cap) (lv ++ [X]) ∧ Below w.heap.size w w3 := by
  subst e0
  refine ⟨⟨x, .slice (some ⟨bv, 0, none⟩) nv nv, .slice (some ⟨bp, 0, none⟩) np np⟩, rfl, (hL.alloc o).snoc (thing_new (hBv.alloc o) (hBp.alloc o) (by omega) (by omega) e1 e2 l1 l2) ?_ ?_ (by decide) (by decide) hg hr, ?_⟩
  · intro y hy b hb e
    have := HLB y hy b (.inl hb)
    have : bv = b := by simpa [Value.ownBlock] using e
    omega
  · intro y hy b hb e
    have := HLB y hy b (.inr hb)
    have : bp = b := by simpa [Value.ownBlock] using e
    omega
  · refine (hbx.alloc hbx.size o).grown hg (by have := hbx.size; simp; omega) (fun q hq => ((hL.alloc o).row.lt q hq).1)

set_option maxHeartbeats 4000000 in
theorem pshapes_any (s g base : Nat) (tv : Value) (raw : List Int) (l : List TM) (w : World) (h : PIs w base s g tv raw l) (hl8 : l.length ≤ 8) (hok : AllOk (l.map TM.t)) :
    Calls Try.prog 13 #[.pointer (some ⟨s, 0, none⟩)] w fun e w' => ∃ v l', e = .returned v ∧ LIs w' w.heap.size 52 3 TM.cells3 v l' ∧ l'.map TM.t = l.map TM.t ∧ Below w.heap.size w w' := by
  obtain ⟨V, vc, hvv, hvc, hV⟩ := own_shapes h.ls.row
  have c1 : w.cell? ⟨s, 1, none⟩ = some (.slice V l.length vc) := by rw [← hvv]; exact (h.blk.cell 1).trans rfl
  have HCEL : Hid (∀ k (hk : k < l.length), ∃ T, V = some ⟨T, 0, none⟩ ∧ T < w.heap.size ∧ Cel w base T (k * 4 + 2) (k * 4 + 3) l[k] ∧ w.cell? ⟨T, k * 4, none⟩ = some (.int .i64 l[k].t.kind) ∧ w.cell? ⟨T, k * 4 + 1, none⟩ = some (.int .i64 l[k].t.most)) := Lib.hid fun k hk => by
    obtain ⟨T, cap, htv, hcel, ck, cm, hTl⟩ := h.cel hk
    rw [hvv] at htv
    injection htv with e1 e2 e3
    exact ⟨T, e1, hTl, hcel, ck, cm⟩
  obtain ⟨n, hn⟩ : ∃ n, n = l.length := ⟨_, rfl⟩
  have HN := Lib.hid hn
  rw [← hn] at c1 hl8
  obtain ⟨i0, hi0, hz0, hz1, hz2⟩ := info_parts info_shape
  have HOK := Lib.hid hok
  clear h hvv hV hok hn hvc
  go_enter Try.func13, Try.ntmps13
  go_wp2_with fail
  go_loopg [3, 13] n (fun gk sv i wr => ∃ (k : Nat) (lv : List TM), i = .int .i64 k ∧ k ≤ n ∧ gk = n - k ∧ LIs wr w.heap.size 52 3 TM.cells3 sv lv ∧ lv.length = k ∧ lv.map TM.t = (l.take k).map TM.t ∧ Below w.heap.size w wr)
  case atStart => exact ⟨0, [], rfl, Nat.zero_le _, rfl, LIs.nil, rfl, rfl, Below.refl _ _⟩
  case round =>
    obtain ⟨k, lv, rfl, hk, hgk, hL, hll, hlt, hbel⟩ := hrel
    have HG := Lib.hid hgk
    have HLL := Lib.hid hll
    have HLT := Lib.hid hlt
    clear hgk hlt hll
    by_cases hkn : k < n
    · have hkl : k < l.length := by rw [← HN.out]; exact hkn
      obtain ⟨T, rfl, hTl, hcel, ck, cm⟩ := HCEL.out k hkl
      obtain ⟨x, hx⟩ : ∃ x, x = l[k] := ⟨_, rfl⟩
      rw [← hx] at hcel ck cm
      have hxok : TOk x.t := HOK.out _ (List.mem_map.2 ⟨x, by rw [hx]; exact List.getElem_mem hkl, rfl⟩)
      obtain ⟨A1, a1, hv1, ha1, hR1⟩ := own_shapes hcel.th.vs
      obtain ⟨A2, a2, hv2, ha2, hR2⟩ := own_shapes hcel.th.ps
      have hn1 := hxok.lv
      have hn2 := hxok.lp
      have cv := hcel.cv
      have cp := hcel.cp
      rw [hv1] at cv
      rw [hv2] at cp
      obtain ⟨kind, hkind⟩ : ∃ q, q = x.t.kind := ⟨_, rfl⟩
      obtain ⟨most, hmost⟩ : ∃ q, q = x.t.most := ⟨_, rfl⟩
      obtain ⟨nv, hnv⟩ : ∃ q, q = x.t.values.length := ⟨_, rfl⟩
      obtain ⟨np, hnp⟩ : ∃ q, q = x.t.pairs.length := ⟨_, rfl⟩
      rw [← hkind] at ck
      rw [← hmost] at cm
      rw [← hnv] at cv hn1 hR1
      rw [← hnp] at cp hn2 hR2
      have g0 : wr.cell? ⟨T, k * 4, none⟩ = some (.int .i64 kind) := (hbel.cell (p := ⟨T, k * 4, none⟩) hTl).trans ck
      have g1 : wr.cell? ⟨T, k * 4 + 1, none⟩ = some (.int .i64 most) := (hbel.cell (p := ⟨T, k * 4 + 1, none⟩) hTl).trans cm
      have g2 : wr.cell? ⟨T, k * 4 + 2, none⟩ = some (.slice A1 nv a1) := (hbel.cell (p := ⟨T, k * 4 + 2, none⟩) hTl).trans cv
      have g3 : wr.cell? ⟨T, k * 4 + 3, none⟩ = some (.slice A2 np a2) := (hbel.cell (p := ⟨T, k * 4 + 3, none⟩) hTl).trans cp
      have hTw : T < wr.heap.size := by have := hbel.size; omega
      have HV : Hid (∀ W, Below w.heap.size w W → Calls Try.prog 24 #[.slice A1 nv a1] W (ListPost W nv 2 (ints x.t.values))) := Lib.hid fun W hW =>
        (copied_any A1 nv a1 W.heap.size x.t.values W (by omega) (Nat.le_refl _) ((hR1.below hW).more hW.size)).mono fun e w' h => ⟨_, h.1, h.2.1, Nat.le_refl _, h.2.2⟩
      have HP : Hid (∀ W, Below w.heap.size w W → Calls Try.prog 26 #[.slice A2 np a2] W (ListPost W np 54 (prs x.t.pairs))) := Lib.hid fun W hW =>
        (copiedp_any A2 np a2 W.heap.size x.t.pairs W (by omega) (Nat.le_refl _) ((hR2.below hW).more hW.size)).mono fun e w' h => ⟨_, h.1, h.2.1, Nat.le_refl _, h.2.2⟩
      have HX : Hid (kind = x.t.kind ∧ nv = x.t.values.length ∧ np = x.t.pairs.length ∧ x = l[k]) := Lib.hid ⟨hkind, hnv, hnp, hx⟩
      have hB5 := Blk.new wr 71 #[.int .i64 kind, .int .i64 most, .slice A1 nv a1, .slice A2 np a2]
      have hL1 := hL.alloc (.cells #[.int .i64 kind, .int .i64 most, .slice A1 nv a1, .slice A2 np a2] 71)
      have hbx : Below w.heap.size w (wr.alloc (.cells #[.int .i64 kind, .int .i64 most, .slice A1 nv a1, .slice A2 np a2] 71)) := hbel.alloc hbel.size _
      have hm1 : lv.length + 1 ≤ maxLen := by have := HLL.out; unfold maxLen; omega
      have hnb : (lv.length + 1) * 56 ≤ 140737488355328 := by have := HLL.out; omega
      have HLB : Hid (∀ y ∈ lv, ∀ b, (y.vv.ownBlock = some b ∨ y.pv.ownBlock = some b) → b < wr.heap.size) := Lib.hid fun y hy b hb => (hL.blk (.inr ⟨y, hy, hb⟩)).2.1
      have hBL := hbel.size
      clear ck cm cv cp hcel hxok hR1 hR2 hkind hmost hnv hnp hx hv1 hv2 ha1 ha2 hL hbel
      go_wp2_with fail
      generalize wr.alloc (.cells #[.int .i64 kind, .int .i64 most, .slice A1 nv a1, .slice A2 np a2] 71) = W1 at *
      have c50 : W1.cell? ⟨wr.heap.size, 0, none⟩ = some (.int .i64 kind) := (hB5.cell 0).trans rfl
      have c52 : W1.cell? ⟨wr.heap.size, 2, none⟩ = some (.slice A1 nv a1) := (hB5.cell 2).trans rfl
      have c53 : W1.cell? ⟨wr.heap.size, 3, none⟩ = some (.slice A2 np a2) := (hB5.cell 3).trans rfl
      have hlt5 := hB5.lt
      clear g0 g1 g2 g3
      go_region_law (first
        | (go_simp; go_at_call 24; refine (HV.out _ (by first | exact hbx | exact hbx.drew | exact below_drewN hbx _)).mono ?_; rintro e w2 ⟨bv, rfl, hBv, hbv, hb2⟩; have hbv := Nat.lt_of_lt_of_le hlt5 hbv; (try (have hBp := hBp.below hb2 hBp.lt)); have hbx2 : Below w.heap.size w w2 := (by first | exact hbx.trans (hb2.mono hbx.size) | exact hbx.drew.trans (hb2.mono hbx.size) | exact (below_drewN hbx _).trans (hb2.mono hbx.size)); have hB6 : Blk w2 wr.heap.size 71 #[.int .i64 kind, .int .i64 most, .slice A1 nv a1, .slice A2 np a2] := (by first | exact hB5.below hb2 hB5.lt | exact hB5.drew.below hb2 hB5.lt | exact (hB5.drewN _).below hb2 hB5.lt); have hL2 : LIs w2 w.heap.size 52 3 TM.cells3 u3 lv := (by first | exact hL1.below hb2 | exact hL1.drew1.below hb2 | exact (hL1.drewN _).below hb2); clear c50 c52 c53 hlt5 hbx hL1 hB5; have hbx := hbx2; have hB5 := hB6; have hL1 := hL2; have c50 : w2.cell? ⟨wr.heap.size, 0, none⟩ = some (.int .i64 kind) := (hB5.cell 0).trans rfl; have c52 : w2.cell? ⟨wr.heap.size, 2, none⟩ = some (.slice A1 nv a1) := (hB5.cell 2).trans rfl; have c53 : w2.cell? ⟨wr.heap.size, 3, none⟩ = some (.slice A2 np a2) := (hB5.cell 3).trans rfl; have hlt5 := hB5.lt; clear hbx2 hB6 hL2)
        | (go_simp; go_at_call 26; refine (HP.out _ (by first | exact hbx | exact hbx.drew | exact below_drewN hbx _)).mono ?_; rintro e w2 ⟨bp, rfl, hBp, hbp, hb2⟩; have hbp := Nat.lt_of_lt_of_le hlt5 hbp; (try (have hBv := hBv.below hb2 hBv.lt)); have hbx2 : Below w.heap.size w w2 := (by first | exact hbx.trans (hb2.mono hbx.size) | exact hbx.drew.trans (hb2.mono hbx.size) | exact (below_drewN hbx _).trans (hb2.mono hbx.size)); have hB6 : Blk w2 wr.heap.size 71 #[.int .i64 kind, .int .i64 most, .slice A1 nv a1, .slice A2 np a2] := (by first | exact hB5.below hb2 hB5.lt | exact hB5.drew.below hb2 hB5.lt | exact (hB5.drewN _).below hb2 hB5.lt); have hL2 : LIs w2 w.heap.size 52 3 TM.cells3 u3 lv := (by first | exact hL1.below hb2 | exact hL1.drew1.below hb2 | exact (hL1.drewN _).below hb2); clear c50 c52 c53 hlt5 hbx hL1 hB5; have hbx := hbx2; have hB5 := hB6; have hL1 := hL2; have c50 : w2.cell? ⟨wr.heap.size, 0, none⟩ = some (.int .i64 kind) := (hB5.cell 0).trans rfl; have c52 : w2.cell? ⟨wr.heap.size, 2, none⟩ = some (.slice A1 nv a1) := (hB5.cell 2).trans rfl; have c53 : w2.cell? ⟨wr.heap.size, 3, none⟩ = some (.slice A2 np a2) := (hB5.cell 3).trans rfl; have hlt5 := hB5.lt; clear hbx2 hB6 hL2)
        | (refine step_append_lies _ (by rfl) _ _ _ (by rfl) w.heap.size 52 i0 _ 3 56 Try.underlying40 hi0 hz0 hz1 hz2 rfl (by omega) u3 lv.length (rows TM.cells3 lv) (by rfl) (show _ from hL1.row.alloc _) ⟨w2.heap.size, 0, none⟩ 1 1 [.int .i64 kind, .slice (some ⟨bv, 0, none⟩) nv nv, .slice (some ⟨bp, 0, none⟩) np np] (by rfl) (by rfl) (World.news_of_block (cs := #[.int .i64 kind, .slice (some ⟨bv, 0, none⟩) nv nv, .slice (some ⟨bp, 0, none⟩) np np]) (t := 52) (fr := (0, 0)) (heap_alloc_new w2 _)) (by simp [Value.oneCell']) (by omega) hm1 hnb (by simp; have := hbx.size; omega) (w2.heap.size + 1) (by simp) ?_; intro gg cap w3 hown1 hgrow hat hlt2))
      all_goals
        have hfin := shapes_snoc hL1 hBv hBp HLB.out hbv hbp hBL HX.out.1 HX.out.2.1 HX.out.2.2.1 hn1 hn2 hbx hgrow hown1
        have HFIN := Lib.hid hfin
        clear hfin hgrow hown1 hL1 hBv hBp hbx hb2 hB5 c50 c52 c53 hat
        go_wp2_with fail
        go_roundg (n - (k + 1))
        case measure => have := HG.out; omega
        case rel =>
          obtain ⟨X, hX, hLX, hbX⟩ := HFIN.out
          refine ⟨k + 1, lv ++ [X], by go_num, by omega, rfl, hLX, by rw [List.length_append, HLL.out]; rfl, ?_, hbX⟩
          rw [List.map_append, HLT.out, List.take_succ_eq_append_getElem hkl, List.map_append, ← HX.out.2.2.2]
          simp [hX]
    · obtain rfl : k = n := by omega
      go_wp2_with fail
      go_ret
      exact ⟨_, lv, rfl, hL, by rw [HLT.out, List.take_of_length_le (by rw [← HN.out]; exact Nat.le_refl _)], hbel⟩
end Go.Proofs.Ytpmpgnhbpneloaa
