/- Proves Rows.DictOwnsSaid: for every input 'carousellaw17.DictOwns' returns true and each argument reads behind the call as it read before. Conditions: none beyond the row's own. -/
import Derived.Test.YtjggcidaolnmbaaDpl
import Derived.Test.YtjggcidaolnmbaaDr1
import Derived.Test.YtjggcidaolnmbaaNum
namespace Go.Proofs.Ytjggcidaolnmbaa.dictOwns
open Go.RowKit Go.Joins Go.ChangeShapes Go.WideShapes Go.ChangeAt Go.Deep
set_option linter.unusedVariables false
set_option maxRecDepth 100000

theorem below_of_only {a w : World} {g B : Nat} (h : a.grownBy w (some g)) (hB : B ≤ g) (hs : B ≤ a.heap.size) : Below B a w :=
  ⟨h.os, h.tape, h.output, h.size, fun q hq => h.block q (by omega) (by intro hh; injection hh with hh; omega)⟩

theorem walk_no (base most call : Int) (args : List Int) (A Wd : Option Addr) (n nc m mc : Nat) (w : World) (hn : n * 8 ≤ 140737488351232)
    (hA : Reads w w.heap.size 1 A n (ints args)) (hno : ¬ callOk base most call args) :
    Calls Try.prog 5 #[.agg #[.int .i64 base, .int .i64 most, .int .i64 call, .slice A n nc, .slice Wd m mc]] w fun e w' => e = .returned (.bool true) ∧ Below w.heap.size w w' := by
  have HNO := Lib.hid hno
  clear hno
  go_enter Try.func5, Try.ntmps5
  go_wp2_with fail
  refine (numbers_any A n nc args _ hn (by exact (hA.alloc (Nat.le_refl _) _).more (by simp))).mono ?_
  rintro e w1 ⟨v, rfl, hown, hb1⟩
  obtain ⟨V, vc, rfl, hvc, hV⟩ := own_shape hown
  have hB0 : Blk w1 w.heap.size 26 #[.int .i64 base, .int .i64 most, .int .i64 call, .slice A n nc, .slice Wd m mc] := (Blk.new w _ _).below hb1 (by simp)
  have c0 : w1.cell? ⟨w.heap.size, 0, none⟩ = some (.int .i64 base) := (hB0.cell 0).trans rfl
  have c1 : w1.cell? ⟨w.heap.size, 1, none⟩ = some (.int .i64 most) := (hB0.cell 1).trans rfl
  have c2 : w1.cell? ⟨w.heap.size, 2, none⟩ = some (.int .i64 call) := (hB0.cell 2).trans rfl
  have c3 : w1.cell? ⟨w.heap.size, 3, none⟩ = some (.slice A n nc) := (hB0.cell 3).trans rfl
  have hbw : Below w.heap.size w w1 := ((Below.refl _ _).alloc (Nat.le_refl _) _).trans (hb1.mono (B' := w.heap.size) (by simp))
  have hlt := hB0.lt
  go_wp2_with fail
  refine (new_no base most call args V n vc w1.heap.size _ (by omega) hV HNO.out).mono ?_
  rintro e w2 ⟨rfl, rfl⟩
  go_wp2_with fail
  refine (same_yes V A n vc nc args _ w1.heap.size w.heap.size (by omega) hV (by exact hA.below hbw)).mono ?_
  rintro e w2 ⟨rfl, j, rfl⟩
  go_wp2_with fail
  refine (right_no base most call args A n nc w.heap.size _ (by exact (hA.below hbw).drewN _) HNO.out).mono ?_
  rintro e w2 ⟨rfl, rfl⟩
  go_wp2_with fail
  go_ret
  exact ⟨rfl, below_drewN hbw _⟩

theorem walk_yes (base most call : Int) (args words : List Int) (A Wd : Option Addr) (n nc m mc : Nat) (w : World) (hn : n * 8 ≤ 140737488351232) (hm : m * 8 ≤ 140737488351232)
    (hA : Reads w w.heap.size 1 A n (ints args)) (hR : Reads w w.heap.size 1 Wd m (ints words)) (hok : callOk base most call args) :
    Calls Try.prog 5 #[.agg #[.int .i64 base, .int .i64 most, .int .i64 call, .slice A n nc, .slice Wd m mc]] w fun e w' => e = .returned (.bool true) ∧ Below w.heap.size w w' := by
  have HOK := Lib.hid hok
  clear hok
  go_enter Try.func5, Try.ntmps5
  go_wp2_with fail
  refine (numbers_any A n nc args _ hn (by exact (hA.alloc (Nat.le_refl _) _).more (by simp))).mono ?_
  rintro e w1 ⟨v, rfl, hown, hb1⟩
  obtain ⟨V, vc, rfl, hvc, hV⟩ := own_shape hown
  have hB0 : Blk w1 w.heap.size 26 #[.int .i64 base, .int .i64 most, .int .i64 call, .slice A n nc, .slice Wd m mc] := (Blk.new w _ _).below hb1 (by simp)
  have c0 : w1.cell? ⟨w.heap.size, 0, none⟩ = some (.int .i64 base) := (hB0.cell 0).trans rfl
  have c1 : w1.cell? ⟨w.heap.size, 1, none⟩ = some (.int .i64 most) := (hB0.cell 1).trans rfl
  have c2 : w1.cell? ⟨w.heap.size, 2, none⟩ = some (.int .i64 call) := (hB0.cell 2).trans rfl
  have hbw : Below w.heap.size w w1 := ((Below.refl _ _).alloc (Nat.le_refl _) _).trans (hb1.mono (B' := w.heap.size) (by simp))
  have hlt := hB0.lt
  go_wp2_with fail
  refine (new_yes base most call args V n vc w1.heap.size _ (by omega) hV HOK.out).mono ?_
  rintro e w2 ⟨rfl, hM, hb2⟩
  have hB2 := hB0.below hb2 hlt
  have d0 : w2.cell? ⟨w.heap.size, 0, none⟩ = some (.int .i64 base) := (hB2.cell 0).trans rfl
  have d1 : w2.cell? ⟨w.heap.size, 1, none⟩ = some (.int .i64 most) := (hB2.cell 1).trans rfl
  have d2 : w2.cell? ⟨w.heap.size, 2, none⟩ = some (.int .i64 call) := (hB2.cell 2).trans rfl
  have d3 : w2.cell? ⟨w.heap.size, 3, none⟩ = some (.slice A n nc) := (hB2.cell 3).trans rfl
  have d4 : w2.cell? ⟨w.heap.size, 4, none⟩ = some (.slice Wd m mc) := (hB2.cell 4).trans rfl
  have hbw2 : Below w.heap.size w w2 := hbw.trans (hb2.mono (B' := w.heap.size) (by omega))
  clear c0 c1 c2
  go_wp2_with fail
  refine (same_yes V A n vc nc args _ w1.heap.size w.heap.size (by omega) (by exact hV.below hb2) (by exact hA.below hbw2)).mono ?_
  rintro e w3 ⟨rfl, j, rfl⟩
  go_wp2_with fail
  refine (right_yes base most call args A n nc w.heap.size _ (by exact (hA.below hbw2).drewN _) HOK.out).mono ?_
  rintro e w3 ⟨rfl, rfl⟩
  go_wp2_with fail
  have hown2 := (hown.kept (only_of_below hb2 none) (by cases Value.ownBlock _ <;> simp)).kept (only_drewN (World.grownBy.refl w2 none) j) (by cases Value.ownBlock _ <;> simp)
  have hM2 : MIs (w2.drewN j) w1.heap.size (startF base most call args) (fun _ => False) := hM
  have hg1 : ∀ q, (Value.slice V n vc).ownBlock = some q → w.heap.size + 1 ≤ q ∧ q < w1.heap.size := by
    intro q hq
    have := hown.lt q hq
    simpa using this
  have HG1 := Lib.hid hg1
  have hs2 : w1.heap.size < w2.heap.size := hM.lt
  have HB2 := Lib.hid hB2
  clear hg1 d0 d1 d2 d3 d4 hV hB2
  go_loopg [8] n (fun gk i wr => ∃ (k : Nat) (zs : List Value), k ≤ n ∧ gk = n - k ∧ i = .int .i64 k ∧ wr.ownsRow (w.heap.size + 1) 2 1 (.slice V n vc) n zs ∧ MIs wr w1.heap.size (startF base most call args) (fun _ => False) ∧
      Blk wr w.heap.size 26 #[.int .i64 base, .int .i64 most, .int .i64 call, .slice A n nc, .slice Wd m mc] ∧ Below w.heap.size w wr)
  case atStart => exact ⟨0, _, Nat.zero_le _, rfl, rfl, by simpa using hown2, hM2, HB2.out.drewN _, below_drewN hbw2 _⟩
  case round =>
    obtain ⟨k, zs, hk, hgk, rfl, hownr, hMr, hBr, hbel⟩ := hrel
    have HGK := Lib.hid hgk
    clear hgk
    by_cases hkn : k < n
    · obtain ⟨g, cap, hv, hg, hgl⟩ := hownr.form (by omega)
      injection hv with e1 e2 e3
      subst e1 e3
      have hgb := (HG1.out g rfl)
      have hzl : zs.length = n := by have := hownr.1; omega
      have ck : wr.cell? ⟨g, k, none⟩ = some (zs[k]'(by omega)) := by rw [hownr.cellAt k (by omega)]; exact List.getElem?_eq_getElem (by omega)
      have fk : wr.frozen? ⟨g, k, none⟩ = false := hownr.frozenAt k
      have hlr := hMr.lt
      have hlb := hBr.lt
      obtain ⟨zk, hzk⟩ : ∃ z, z = zs[k]'(by omega) := ⟨_, rfl⟩
      rw [← hzk] at ck
      clear hzk hzl
      go_wp2_with fail
      go_roundg (n - (k + 1))
      case measure => have := HGK.out; omega
      case rel =>
        exact ⟨k + 1, _, by omega, rfl, by go_num, (hownr.stored k (.int .i64 7)).1, hMr.far (p := ⟨g, k, none⟩) (by simp; omega) (by simp) _, hBr.far (p := ⟨g, k, none⟩) (by simp; omega) _, hbel.setCell (by simp; omega) _⟩
    · obtain rfl : k = n := by omega
      have c0 : wr.cell? ⟨w.heap.size, 0, none⟩ = some (.int .i64 base) := (hBr.cell 0).trans rfl
      have c1 : wr.cell? ⟨w.heap.size, 1, none⟩ = some (.int .i64 most) := (hBr.cell 1).trans rfl
      have c2 : wr.cell? ⟨w.heap.size, 2, none⟩ = some (.int .i64 call) := (hBr.cell 2).trans rfl
      have c3 : wr.cell? ⟨w.heap.size, 3, none⟩ = some (.slice A k nc) := (hBr.cell 3).trans rfl
      have c4 : wr.cell? ⟨w.heap.size, 4, none⟩ = some (.slice Wd m mc) := (hBr.cell 4).trans rfl
      go_wp2_with fail
      refine (play_any base most call args words A Wd k nc m mc _ w1.heap.size (fun _ => False) (by omega) hm (fun _ h => h.elim) w.heap.size (by omega) (by exact hA.below hbel) (by exact hR.below hbel) HOK.out hMr).mono ?_
      rintro e w3 ⟨rfl, hg⟩
      go_wp2
      go_ret
      exact ⟨rfl, hbel.trans (below_of_only hg (by omega) hbel.size)⟩

theorem opened {H : Type} (enc : TypeId × Value → H) (W : World) (b0 : Nat) (v0 : Value) (d0 : DataW H) (p0 : List MemPlace) (hv : Value.okWide Try.prog W .any b0 26 v0)
    (h0 : DataW.Trod enc Try.prog W 0 (fun _ => true) true 26 v0 d0 p0) (hsz : (DataW.weightsEach Try.prog [26] [d0]).all (· ≤ reachBytes) = true) :
    Calls Try.prog 5 #[v0] W fun e W' => e = .returned (.bool true) ∧ Below W.heap.size W W' := by
  obtain ⟨base, most, call, args, words, A, Wd, n, nc, m, mc, rfl, hn, hnc, hm, hmc, hA, hB, _, hsize⟩ := asked_open hv h0
  have hms := hsize hsz (j := 0) rfl rfl
  by_cases hok : callOk base most call args
  · exact walk_yes base most call args words A Wd n nc m mc W hms.1 hms.2 hA hB hok
  · exact walk_no base most call args A Wd n nc m mc W hms.1 hA hok

/-! ### The row -/
set_option maxRecDepth 100000 in
theorem lifted (os : Os) (started : os.Started) (H : Type) (enc : TypeId × Value → H) :
    ReturnsInHanded {} Try.checked os 5 .any (Rows.dictOwnsSpec.pre6 enc Try.prog Try.f5 Rows.dictOwnsRow.domain false) (Rows.dictOwnsSpec.post enc Try.prog Try.f5 false true false false) := by
  refine returnsInHanded_of_change_sized (C := Try.checked) own started (by kernel_rfl) Try.func5
    (ChangeSpec.witness6 (enc := enc) (C := Try.checked) false ⟨#[], #[.agg #[.int .i64 0, .int .i64 0, .int .i64 0, .slice none 0 0, .slice none 0 0]], []⟩ 8 (by kernel_rfl) (by kernel_rfl) (by kernel_rfl) (by kernel_rfl)) ?_
  intro W base args ds gs before hval0 hW hcnd hsz0 hholds
  have hval : ∀ (j : Nat) t v, Try.f5.params[j]? = some t → args[j]? = some v → Value.okWide Try.prog W .any base t v := hval0
  have hsz : (DataW.weightsEach Try.prog (Try.f5.params.toList ++ Rows.dictOwnsSpec.plain.varTypes Try.prog) (ds ++ gs)).all (· ≤ reachBytes) = true := hsz0
  have hW' := hW
  obtain ⟨p, q, hA0, hV, rfl, hfz, hnd⟩ := hW
  have hA : DataW.TrodAll enc Try.prog W 0 (fun _ => true) true Try.f5.params.toList args.toList ds p := hA0
  obtain ⟨rfl, rfl⟩ := trodVars_none hV
  have hlt : ∀ x ∈ p, x.block < W.heap.size := fun x hx => hW'.lt x (by simpa using hx)
  rw [Try.params5] at hA hval hsz
  obtain ⟨v0, vs0, d0, ds0, p0, q0, hargs, rfl, rfl, h0, r0⟩ := trodAll_cons hA
  obtain ⟨rfl, rfl, rfl⟩ := trodAll_nil r0
  obtain rfl : args = #[v0] := by cases args; simp_all
  clear hA0 hval0 hsz0
  refine (opened enc W base v0 d0 p0 (hval 0 _ v0 rfl rfl) h0 hsz).mono fun e W' ⟨he, bel⟩ => ?_
  subst he
  exact ⟨_, rfl, _, _, _, [], _, [], hW', trodAll_mk1 (shut_bool Try.underlying4 _), Below.trodAll laidOut (by intro t ht; have ht' : t ∈ [26] := ht; clear ht; simp only [List.mem_cons, List.not_mem_nil, or_false] at ht'; rcases ht' with rfl <;> exact ⟨by kernel_rfl, of_decide_eq_true (by kernel_rfl)⟩) hA bel hlt, rfl, bel.frame _, fun h => by cases h⟩

theorem over : Rows.dictOwnsRow.holds Try.pinned (OpenSpec.ofChange Rows.dictOwnsSpec) :=
  OpenClaim.holds_of_wide 5 Try.f5 rfl rfl rfl rfl rfl rfl rfl ⟨rfl, rfl, rfl, rfl, rfl⟩ rfl rfl rfl rfl rfl (by kernel_rfl) Try.func5 (by kernel_rfl)
    (of_decide_eq_true (by kernel_rfl)) (by unfold Func.isWrapper; first | (rw [if_pos (by decide +kernel)]; kernel_rfl) | (rw [if_neg (by decide +kernel)]; exact ⟨rfl, rfl⟩))
    (fun os started H enc _ => lifted os started H enc)

/-- THE STATEMENT -/
theorem proved : Rows.DictOwnsSaid := over
#print axioms proved
end Go.Proofs.Ytjggcidaolnmbaa.dictOwns
