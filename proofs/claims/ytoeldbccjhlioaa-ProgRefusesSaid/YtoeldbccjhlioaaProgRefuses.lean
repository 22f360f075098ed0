/- Proves Rows.ProgRefusesSaid: for every input 'carousellaw21.ProgRefuses' returns true and each argument reads behind the call as it read before. Conditions: none beyond the row's own. -/
import Derived.Test.YtoeldbccjhlioaaR2
import Derived.Test.YtoeldbccjhlioaaPo
import Derived.ChangeMaps5
import Derived.Test.YtoeldbccjhlioaaArg2
namespace Go.Proofs.Ytoeldbccjhlioaa.progRefuses
open Go.RowKit Go.Joins Go.ChangeShapes Go.WideShapes Go.ChangeAt Go.Deep
set_option linter.unusedVariables false
set_option maxRecDepth 100000

theorem walk_any (c : Cfg) (l : List Reg) (A : Option Addr) (n nc : Nat) (t : ByteArray) (B : Option Addr) (m mc : Nat) (zs : List Int) (w : World) (hl : l.length = n) (hn : n ≤ nc) (hnc : nc ≤ 9223372036854775807) (hA : Reads w w.heap.size 2 A n (rows Reg.cells l)) (hB : Reads w w.heap.size 1 B m (ints zs)) :
    Calls Try.prog 3 #[.agg #[.int .i64 c.raw, .int .i64 c.ring, .int .i64 c.writes, .int .i64 c.stamps, .bool c.multi, .int .i64 c.tries, .slice A n nc], .string t, .slice B m mc] w fun e w' => e = .returned (.bool true) ∧ Below w.heap.size w w' := by
  have HF := fun w' h => refuses_any c l A n nc t B m mc w' hl hn hnc h
  by_cases hok : cfgOk c l
  · by_cases hno : 512 < t.size ∨ 4 < m
    · have HN := fun w' h => jnew_arg c l A n nc t B m mc w' hl hn hnc h hok hno
      rw [if_pos hok, if_pos hno] at HF
      clear hok hno
      go_enter Try.func3, Try.ntmps3
      go_wp2_with fail
      refine (HN _ (by exact (hA.alloc (Nat.le_refl _) _).more (by simp))).mono ?_
      rintro e w1 ⟨rfl, hb⟩
      have hB := (Blk.new w 24 #[.int .i64 c.raw, .int .i64 c.ring, .int .i64 c.writes, .int .i64 c.stamps, .bool c.multi, .int .i64 c.tries, .slice A n nc]).below hb (by simp)
      have c0 : w1.cell? ⟨w.heap.size, 0, none⟩ = some (.int .i64 c.raw) := (hB.cell 0).trans rfl
      have c1 : w1.cell? ⟨w.heap.size, 1, none⟩ = some (.int .i64 c.ring) := (hB.cell 1).trans rfl
      have c2 : w1.cell? ⟨w.heap.size, 2, none⟩ = some (.int .i64 c.writes) := (hB.cell 2).trans rfl
      have c3 : w1.cell? ⟨w.heap.size, 3, none⟩ = some (.int .i64 c.stamps) := (hB.cell 3).trans rfl
      have c4 : w1.cell? ⟨w.heap.size, 4, none⟩ = some (.bool c.multi) := (hB.cell 4).trans rfl
      have c5 : w1.cell? ⟨w.heap.size, 5, none⟩ = some (.int .i64 c.tries) := (hB.cell 5).trans rfl
      have c6 : w1.cell? ⟨w.heap.size, 6, none⟩ = some (.slice A n nc) := (hB.cell 6).trans rfl
      have hlt0 := hB.lt
      have hbel1 : Below w.heap.size w w1 := (by refine Below.trans ?_ (hb.mono (by simp)); repeat (first | with_reducible exact Below.refl _ _ | with_reducible refine Below.drew ?_ | with_reducible refine below_drewN ?_ _ | ((with_reducible refine Below.alloc ?_ ?_ _); (rotate_left; focus (first | with_reducible exact Nat.le_refl _ | omega | (simp; done) | (simp; omega) | (simp [World.setCell]; done) | (simp [World.setCell]; omega)))) | ((with_reducible refine Below.setCell ?_ ?_ _); (rotate_left; focus (first | with_reducible exact Nat.le_refl _ | omega | (simp; done) | (simp; omega) | (simp [World.setCell]; done) | (simp [World.setCell]; omega))))))
      clear hb hB HN
      go_wp2_with fail
      refine (HF _ (by exact (hA.below hbel1).more hbel1.size)).mono ?_
      rintro e w2 ⟨rfl, hb2⟩
      go_wp2_with fail
      go_ret
      exact ⟨rfl, hbel1.trans (hb2.mono hbel1.size)⟩
    · have HN := fun w' h h' => jnew_yes c l A n nc t B m mc zs w' hl hn hnc h hok (by omega) (by omega) h'
      rw [if_pos hok, if_neg hno] at HF
      clear hok hno
      go_enter Try.func3, Try.ntmps3
      go_wp2_with fail
      refine (HN _ (by exact (hA.alloc (Nat.le_refl _) _).more (by simp)) (by exact (hB.alloc (Nat.le_refl _) _).more (by simp))).mono ?_
      rintro e w1 ⟨p, rfl, hb⟩
      have hB := (Blk.new w 24 #[.int .i64 c.raw, .int .i64 c.ring, .int .i64 c.writes, .int .i64 c.stamps, .bool c.multi, .int .i64 c.tries, .slice A n nc]).below hb (by simp)
      have c0 : w1.cell? ⟨w.heap.size, 0, none⟩ = some (.int .i64 c.raw) := (hB.cell 0).trans rfl
      have c1 : w1.cell? ⟨w.heap.size, 1, none⟩ = some (.int .i64 c.ring) := (hB.cell 1).trans rfl
      have c2 : w1.cell? ⟨w.heap.size, 2, none⟩ = some (.int .i64 c.writes) := (hB.cell 2).trans rfl
      have c3 : w1.cell? ⟨w.heap.size, 3, none⟩ = some (.int .i64 c.stamps) := (hB.cell 3).trans rfl
      have c4 : w1.cell? ⟨w.heap.size, 4, none⟩ = some (.bool c.multi) := (hB.cell 4).trans rfl
      have c5 : w1.cell? ⟨w.heap.size, 5, none⟩ = some (.int .i64 c.tries) := (hB.cell 5).trans rfl
      have c6 : w1.cell? ⟨w.heap.size, 6, none⟩ = some (.slice A n nc) := (hB.cell 6).trans rfl
      have hlt0 := hB.lt
      have hbel1 : Below w.heap.size w w1 := (by refine Below.trans ?_ (hb.mono (by simp)); repeat (first | with_reducible exact Below.refl _ _ | with_reducible refine Below.drew ?_ | with_reducible refine below_drewN ?_ _ | ((with_reducible refine Below.alloc ?_ ?_ _); (rotate_left; focus (first | with_reducible exact Nat.le_refl _ | omega | (simp; done) | (simp; omega) | (simp [World.setCell]; done) | (simp [World.setCell]; omega)))) | ((with_reducible refine Below.setCell ?_ ?_ _); (rotate_left; focus (first | with_reducible exact Nat.le_refl _ | omega | (simp; done) | (simp; omega) | (simp [World.setCell]; done) | (simp [World.setCell]; omega))))))
      clear hb hB HN
      go_wp2_with fail
      refine (HF _ (by exact (hA.below hbel1).more hbel1.size)).mono ?_
      rintro e w2 ⟨rfl, hb2⟩
      go_wp2_with fail
      go_ret
      exact ⟨rfl, hbel1.trans (hb2.mono hbel1.size)⟩
  · have HN := fun w' h => jnew_no c l A n nc t B m mc w' hl hn hnc h hok
    rw [if_neg hok] at HF
    clear hok
    go_enter Try.func3, Try.ntmps3
    go_wp2_with fail
    refine (HN _ (by exact (hA.alloc (Nat.le_refl _) _).more (by simp))).mono ?_
    rintro e w1 ⟨rfl, hb⟩
    have hB := (Blk.new w 24 #[.int .i64 c.raw, .int .i64 c.ring, .int .i64 c.writes, .int .i64 c.stamps, .bool c.multi, .int .i64 c.tries, .slice A n nc]).below hb (by simp)
    have c0 : w1.cell? ⟨w.heap.size, 0, none⟩ = some (.int .i64 c.raw) := (hB.cell 0).trans rfl
    have c1 : w1.cell? ⟨w.heap.size, 1, none⟩ = some (.int .i64 c.ring) := (hB.cell 1).trans rfl
    have c2 : w1.cell? ⟨w.heap.size, 2, none⟩ = some (.int .i64 c.writes) := (hB.cell 2).trans rfl
    have c3 : w1.cell? ⟨w.heap.size, 3, none⟩ = some (.int .i64 c.stamps) := (hB.cell 3).trans rfl
    have c4 : w1.cell? ⟨w.heap.size, 4, none⟩ = some (.bool c.multi) := (hB.cell 4).trans rfl
    have c5 : w1.cell? ⟨w.heap.size, 5, none⟩ = some (.int .i64 c.tries) := (hB.cell 5).trans rfl
    have c6 : w1.cell? ⟨w.heap.size, 6, none⟩ = some (.slice A n nc) := (hB.cell 6).trans rfl
    have hlt0 := hB.lt
    have hbel1 : Below w.heap.size w w1 := (by refine Below.trans ?_ (hb.mono (by simp)); repeat (first | with_reducible exact Below.refl _ _ | with_reducible refine Below.drew ?_ | with_reducible refine below_drewN ?_ _ | ((with_reducible refine Below.alloc ?_ ?_ _); (rotate_left; focus (first | with_reducible exact Nat.le_refl _ | omega | (simp; done) | (simp; omega) | (simp [World.setCell]; done) | (simp [World.setCell]; omega)))) | ((with_reducible refine Below.setCell ?_ ?_ _); (rotate_left; focus (first | with_reducible exact Nat.le_refl _ | omega | (simp; done) | (simp; omega) | (simp [World.setCell]; done) | (simp [World.setCell]; omega))))))
    clear hb hB HN
    go_wp2_with fail
    refine (HF _ (by exact (hA.below hbel1).more hbel1.size)).mono ?_
    rintro e w2 ⟨rfl, hb2⟩
    go_wp2_with fail
    go_ret
    exact ⟨rfl, hbel1.trans (hb2.mono hbel1.size)⟩

theorem opened {H : Type} (enc : TypeId × Value → H) (W : World) (b0 : Nat) (v0 : Value) (d0 : DataW H) (p0 : List MemPlace) (v1 : Value) (d1 : DataW H) (p1 : List MemPlace) (v2 : Value) (d2 : DataW H) (p2 : List MemPlace)
    (hv0 : Value.okWide Try.prog W .any b0 24 v0) (h0 : DataW.Trod enc Try.prog W 0 (fun _ => true) true 24 v0 d0 p0)
    (hv1 : Value.okWide Try.prog W .any b0 9 v1) (h1 : DataW.Trod enc Try.prog W 0 (fun _ => true) true 9 v1 d1 p1)
    (hv2 : Value.okWide Try.prog W .any b0 25 v2) (h2 : DataW.Trod enc Try.prog W 0 (fun _ => true) true 25 v2 d2 p2)
    (hsz : (DataW.weightsEach Try.prog [24, 9, 25] [d0, d1, d2]).all (· ≤ reachBytes) = true) :
    Calls Try.prog 3 #[v0, v1, v2] W fun e W' => e = .returned (.bool true) ∧ Below W.heap.size W W' := by
  obtain ⟨cs, rfl, hz⟩ := okWide_struct Try.underlying24 hv0
  obtain ⟨fuel, hf⟩ := h0
  have hf' : DataW.trod enc Try.prog W 0 (fun _ => true) true fuel 24 cs.toList = some (d0, p0) := by simpa [Value.cells] using hf
  obtain ⟨c, A, n, nc, regs, ec, hl, hn, hnc, hA⟩ := cfg_cells hf'
  obtain rfl : cs = #[.int .i64 c.raw, .int .i64 c.ring, .int .i64 c.writes, .int .i64 c.stamps, .bool c.multi, .int .i64 c.tries, .slice A n nc] := by
    apply Array.ext'
    exact ec
  obtain ⟨s, rfl, rfl, rfl, ws⟩ := Go.ChangeMaps.open_string Try.underlying9 hv1 h1
  obtain ⟨B, m, mc, zs, rfl, hzl, hm, hmc, hB, wz, hd⟩ := param_ints Try.underlying25 Try.underlying2 (by kernel_rfl) (by kernel_rfl) hv2 h2
  have hmax : maxLen = 9223372036854775807 := rfl
  exact walk_any c regs A n nc s B m mc zs W hl hn (by omega) hA hB

/-! ### The row -/
set_option maxRecDepth 100000 in
theorem lifted (os : Os) (started : os.Started) (H : Type) (enc : TypeId × Value → H) :
    ReturnsInHanded {} Try.checked os 3 .any (Rows.progRefusesSpec.pre6 enc Try.prog Try.f3 Rows.progRefusesRow.domain false) (Rows.progRefusesSpec.post enc Try.prog Try.f3 false true false false) := by
  refine returnsInHanded_of_change_sized (C := Try.checked) own started (by kernel_rfl) Try.func3
    (ChangeSpec.witness6 (enc := enc) (C := Try.checked) false ⟨#[], #[.agg #[.int .i64 0, .int .i64 0, .int .i64 0, .int .i64 0, .bool false, .int .i64 0, .slice none 0 0], .string ByteArray.empty, .slice none 0 0], []⟩ 8 (by kernel_rfl) (by kernel_rfl) (by kernel_rfl) (by kernel_rfl)) ?_
  intro W base args ds gs before hval0 hW hcnd hsz0 hholds
  have hval : ∀ (j : Nat) t v, Try.f3.params[j]? = some t → args[j]? = some v → Value.okWide Try.prog W .any base t v := hval0
  have hsz : (DataW.weightsEach Try.prog (Try.f3.params.toList ++ Rows.progRefusesSpec.plain.varTypes Try.prog) (ds ++ gs)).all (· ≤ reachBytes) = true := hsz0
  have hW' := hW
  obtain ⟨p, q, hA0, hV, rfl, hfz, hnd⟩ := hW
  have hA : DataW.TrodAll enc Try.prog W 0 (fun _ => true) true Try.f3.params.toList args.toList ds p := hA0
  obtain ⟨rfl, rfl⟩ := trodVars_none hV
  have hlt : ∀ x ∈ p, x.block < W.heap.size := fun x hx => hW'.lt x (by simpa using hx)
  rw [Try.params3] at hA hval hsz
  obtain ⟨v0, vs0, d0, ds0, p0, q0, hargs, rfl, rfl, h0, r0⟩ := trodAll_cons hA
  obtain ⟨v1, vs1, d1, ds1, p1, q1, rfl, rfl, rfl, h1, r1⟩ := trodAll_cons r0
  obtain ⟨v2, vs2, d2, ds2, p2, q2, rfl, rfl, rfl, h2, r2⟩ := trodAll_cons r1
  obtain ⟨rfl, rfl, rfl⟩ := trodAll_nil r2
  obtain rfl : args = #[v0, v1, v2] := by cases args; simp_all
  clear hA0 hval0 hsz0
  refine (opened enc W base v0 d0 p0 v1 d1 p1 v2 d2 p2 (hval 0 _ v0 rfl rfl) h0 (hval 1 _ v1 rfl rfl) h1 (hval 2 _ v2 rfl rfl) h2 hsz).mono fun e W' ⟨he, bel⟩ => ?_
  subst he
  exact ⟨_, rfl, _, _, _, [], _, [], hW', trodAll_mk1 (shut_bool Try.underlying4 _), Below.trodAll laidOut (by intro t ht; have ht' : t ∈ [24, 9, 25] := ht; clear ht; simp only [List.mem_cons, List.not_mem_nil, or_false] at ht'; rcases ht' with rfl | rfl | rfl <;> exact ⟨by kernel_rfl, of_decide_eq_true (by kernel_rfl)⟩) hA bel hlt, rfl, bel.frame _, fun h => by cases h⟩

theorem over : Rows.progRefusesRow.holds Try.pinned (OpenSpec.ofChange Rows.progRefusesSpec) :=
  OpenClaim.holds_of_wide 3 Try.f3 rfl rfl rfl rfl rfl rfl rfl ⟨rfl, rfl, rfl, rfl, rfl⟩ rfl rfl rfl rfl rfl (by kernel_rfl) Try.func3 (by kernel_rfl)
    (of_decide_eq_true (by kernel_rfl)) (by unfold Func.isWrapper; first | (rw [if_pos (by decide +kernel)]; kernel_rfl) | (rw [if_neg (by decide +kernel)]; exact ⟨rfl, rfl⟩))
    (fun os started H enc _ => lifted os started H enc)

/-- THE STATEMENT -/
theorem proved : Rows.ProgRefusesSaid := over
#print axioms proved
end Go.Proofs.Ytoeldbccjhlioaa.progRefuses
