/- Proves Rows.PlainPlacesSaid: for every input 'carousellaw20.PlainPlaces' returns true and each argument reads behind the call as it read before. Conditions: none beyond the row's own. -/
import Derived.Test.YtpmpgnhbpneloaaPk
import Derived.Test.YtpmpgnhbpneloaaPo
namespace Go.Proofs.Ytpmpgnhbpneloaa.plainPlaces
open Go.RowKit Go.Joins Go.ChangeShapes Go.WideShapes Go.ChangeAt Go.Deep
set_option linter.unusedVariables false
set_option maxRecDepth 100000

theorem walk_no (c : Cfg) (regs : List Reg) (A : Option Addr) (n nc : Nat) (p v o : Int) (w : World) (hl : regs.length = n) (hn : n ≤ 9223372036854775807) (hA : Reads w w.heap.size 2 A n (rows Reg.cells regs)) (hno : ¬ cfgOk c regs) :
    Calls Try.prog 3 #[.agg #[.int .i64 c.raw, .int .i64 c.ring, .int .i64 c.writes, .int .i64 c.stamps, .bool c.multi, .int .i64 c.tries, .slice A n nc, .int .i64 p, .int .i64 v, .int .i64 o]] w fun e w' => e = .returned (.bool true) ∧ Below w.heap.size w w' := by
  have HNO := Lib.hid hno
  clear hno
  go_enter Try.func3, Try.ntmps3
  go_wp2_with fail
  refine (both_no c regs A n nc _ hl hn (by exact ((hA.alloc (Nat.le_refl _) _).alloc (by simp) _).more (by simp; omega)) HNO.out).mono ?_
  rintro e w1 ⟨rfl, hb⟩
  go_wp2_with fail
  go_ret
  exact ⟨rfl, (by refine Below.trans ?_ (hb.mono (by simp; omega)); repeat (first | with_reducible exact Below.refl _ _ | with_reducible refine Below.drew ?_ | with_reducible refine below_drewN ?_ _ | ((with_reducible refine Below.alloc ?_ ?_ _); (rotate_left; focus (first | with_reducible exact Nat.le_refl _ | omega | (simp; done) | (simp; omega) | (simp [World.setCell]; done) | (simp [World.setCell]; omega)))) | ((with_reducible refine Below.setCell ?_ ?_ _); (rotate_left; focus (first | with_reducible exact Nat.le_refl _ | omega | (simp; done) | (simp; omega) | (simp [World.setCell]; done) | (simp [World.setCell]; omega))))))⟩

theorem uidx_parts (p : Int) (R : Nat) (hR : 1 ≤ R) (hR64 : R ≤ 64) : ∃ U : Nat, IntKind.u64.wrap p = (U : Int) ∧ ((U : Int)).tmod (R : Int) = ((uidx p R : Nat) : Int) ∧ uidx p R < R := by
  refine ⟨(p % 18446744073709551616).toNat, by rw [IntKind.wrap_u64]; omega, ?_, Nat.mod_lt _ (by omega)⟩
  rw [Int.tmod_eq_emod_of_nonneg (by omega)]
  rfl
theorem uidx_small (k R : Nat) (h : k < R) (hR : R ≤ 64) : uidx (k : Int) R = k := by
  unfold uidx
  rw [show ((k : Int) % 18446744073709551616).toNat = k by omega]
  exact Nat.mod_eq_of_lt h

theorem set_ints {w : World} {g : Nat} {t : TypeId} {l : List Int} (h : Blk w g t (ints l).toArray) (n : Nat) (v : Int) : Blk (w.setCell ⟨g, n, none⟩ (.int .i64 v)) g t (ints (l.set n v)).toArray := by
  have := h.set_ n (.int .i64 v)
  rw [show (ints l).toArray.setIfInBounds n (.int .i64 v) = (ints (l.set n v)).toArray by simp [ints, List.map_set]] at this
  exact this

set_option maxHeartbeats 4000000 in
theorem walk_yes (c : Cfg) (regs : List Reg) (A : Option Addr) (n nc R : Nat) (p v o : Int) (w : World) (hl : regs.length = n) (hn : n ≤ 8) (hA : Reads w w.heap.size 2 A n (rows Reg.cells regs)) (hok : cfgOk c regs) (hR : c.raw = (R : Int)) (hR1 : 1 ≤ R) (hR64 : R ≤ 64) :
    Calls Try.prog 3 #[.agg #[.int .i64 c.raw, .int .i64 c.ring, .int .i64 c.writes, .int .i64 c.stamps, .bool c.multi, .int .i64 c.tries, .slice A n nc, .int .i64 p, .int .i64 v, .int .i64 o]] w fun e w' => e = .returned (.bool true) ∧ Below w.heap.size w w' := by
  obtain ⟨U, e1, e2, hI⟩ := uidx_parts p R hR1 hR64
  obtain ⟨U', f1, f2, hM⟩ := uidx_parts o R hR1 hR64
  have g1 : IntKind.u64.wrap (R : Int) = (R : Int) := IntWalk.u64_in _ ⟨by omega, by omega⟩
  have g2 : IntKind.u64.wrap ((uidx p R : Nat) : Int) = ((uidx p R : Nat) : Int) := IntWalk.u64_in _ ⟨by omega, by omega⟩
  have g3 : IntKind.u64.wrap ((uidx o R : Nat) : Int) = ((uidx o R : Nat) : Int) := IntWalk.u64_in _ ⟨by omega, by omega⟩
  have g4 : IntKind.i64.wrap ((uidx p R : Nat) : Int) = ((uidx p R : Nat) : Int) := IntWalk.i64_in _ ⟨by omega, by omega⟩
  have hII := uidx_small (uidx p R) R hI hR64
  obtain ⟨I, hIe⟩ : ∃ I, I = uidx p R := ⟨_, rfl⟩
  obtain ⟨M, hMe⟩ : ∃ M, M = uidx o R := ⟨_, rfl⟩
  rw [← hIe] at e2 hI g2 g4 hII
  rw [← hMe] at f2 hM g3
  have HOK := Lib.hid hok
  have HR := Lib.hid hR
  have HI := Lib.hid hIe
  have HM := Lib.hid hMe
  have HII := Lib.hid hII
  clear hok hR hIe hMe hII
  go_enter Try.func3, Try.ntmps3
  go_wp2_with fail
  refine (both_yes c regs A n nc R _ hl hn (by exact ((hA.alloc (Nat.le_refl _) _).alloc (by simp) _).more (by simp; omega)) HOK.out HR.out hR64).mono ?_
  rintro e w1 ⟨s, g, s', g', tv, tv', l, l', rv, rc, B, rfl, hP, hQ, -, -, hb, -, -, -, -⟩
  have hB := (Blk.new' (w := w.alloc (.cells #[.int .i64 c.raw, .int .i64 c.ring, .int .i64 c.writes, .int .i64 c.stamps, .bool c.multi, .int .i64 c.tries, .slice A n nc, .int .i64 p, .int .i64 v, .int .i64 o] 26)) (t := 24) (cs := #[.int .i64 c.raw, .int .i64 c.ring, .int .i64 c.writes, .int .i64 c.stamps, .bool c.multi, .int .i64 c.tries, .slice A n nc]) (n := w.heap.size + 1) (by simp)).below hb (by simp)
  have hbel1 : Below w.heap.size w w1 := (by refine Below.trans ?_ (hb.mono (by simp; omega)); repeat (first | with_reducible exact Below.refl _ _ | with_reducible refine Below.drew ?_ | with_reducible refine below_drewN ?_ _ | ((with_reducible refine Below.alloc ?_ ?_ _); (rotate_left; focus (first | with_reducible exact Nat.le_refl _ | omega | (simp; done) | (simp; omega) | (simp [World.setCell]; done) | (simp [World.setCell]; omega)))) | ((with_reducible refine Below.setCell ?_ ?_ _); (rotate_left; focus (first | with_reducible exact Nat.le_refl _ | omega | (simp; done) | (simp; omega) | (simp [World.setCell]; done) | (simp [World.setCell]; omega))))))
  have hg0 : w.heap.size + 1 < g := by have := hP.b1; simp at this; omega
  have hsg : s ≠ g := hP.blk.ne_ hP.rawb (by decide)
  have hS := hP.blk
  have hG := hP.rawb
  clear hP hQ hb
  rw [List.length_replicate] at hS
  have s0 : w1.cell? ⟨s, 0, none⟩ = some (.slice (some ⟨g, 0, none⟩) R R) := (hS.cell 0).trans rfl
  go_wp2_with fail
  refine (store_any p v s g R (List.replicate R 0) w1 hR1 hR64 (by simp) s0 hG).mono ?_
  rintro e w2 ⟨rfl, m, rfl⟩
  rw [← HI.out]
  have hB2 : Blk ((w1.drewN m).setCell ⟨g, I, none⟩ (.int .i64 v)) (w.heap.size + 1) 24 _ := (hB.drewN m).far (p := ⟨g, I, none⟩) (by simp; omega) _
  have hS2 : Blk ((w1.drewN m).setCell ⟨g, I, none⟩ (.int .i64 v)) s 68 _ := (hS.drewN m).far (p := ⟨g, I, none⟩) hsg _
  have hG2 : Blk ((w1.drewN m).setCell ⟨g, I, none⟩ (.int .i64 v)) g 2 (ints ((List.replicate R 0).set I v)).toArray := set_ints (hG.drewN m) I v
  have hbel2 : Below w.heap.size w ((w1.drewN m).setCell ⟨g, I, none⟩ (.int .i64 v)) := (below_drewN hbel1 m).setCell (by simp; omega) _
  clear hB hS hG s0 hbel1
  generalize (w1.drewN m).setCell ⟨g, I, none⟩ (.int .i64 v) = w2 at *
  have c0 : w2.cell? ⟨w.heap.size + 1, 0, none⟩ = some (.int .i64 c.raw) := (hB2.cell 0).trans rfl
  have s0 : w2.cell? ⟨s, 0, none⟩ = some (.slice (some ⟨g, 0, none⟩) R R) := (hS2.cell 0).trans rfl
  rw [HR.out] at c0
  go_wp2_with fail
  refine (load_any I s g R ((List.replicate R 0).set I v) w2 hR1 hR64 (by simp) s0 hG2).mono ?_
  rintro e w3 ⟨rfl, m3, rfl⟩
  rw [HII.out, show ((List.replicate R 0).set I v).getD I 0 = v by rw [List.getD_eq_getElem?_getD, List.getElem?_set]; simp [hI]]
  go_wp2_with fail
  refine (load_any o s g R ((List.replicate R 0).set I v) _ hR1 hR64 (by simp) (by exact s0) (by exact hG2.drewN _)).mono ?_
  rintro e w3 ⟨rfl, m4, rfl⟩
  rw [← HM.out]
  obtain ⟨b, hbv⟩ : ∃ b, b = ((List.replicate R 0).set I v).getD M 0 := ⟨_, rfl⟩
  rw [← hbv]
  have HBV := Lib.hid hbv
  clear hbv
  go_wp2_with fail
  refine (raw_any s g R ((List.replicate R 0).set I v) _ hR64 (by simp) (by exact s0) (by exact hG2.drewN _)).mono ?_
  rintro e w3 ⟨rfl, hr, hb3⟩
  have d0 : w3.cell? ⟨w.heap.size + 1, 0, none⟩ = some (.int .i64 (R : Int)) := (hb3.cell (p := ⟨w.heap.size + 1, 0, none⟩) hB2.lt).trans c0
  have d1 : w3.cell? ⟨w2.heap.size, I, none⟩ = some (.int .i64 v) := by
    show w3.cell? ⟨(w2.drewN (m3 + m4)).heap.size, I, none⟩ = _
    rw [hr.cell]
    simp [ints, hI]
  have hlt : w2.heap.size < w3.heap.size := hr.lt
  have hbel3 : Below w.heap.size w w3 := (below_drewN hbel2 (m3 + m4)).trans (hb3.mono hbel2.size)
  clear hr hb3 c0 s0 hB2 hS2 hG2
  by_cases hMI : M = I
  · subst hMI
    have ev : ((List.replicate R 0).set M v).getD M 0 = v := by rw [List.getD_eq_getElem?_getD, List.getElem?_set]; simp [hI]
    obtain rfl : b = v := HBV.out.trans ev
    clear ev
    go_wp2_with fail
    go_ret
    exact ⟨rfl, hbel3⟩
  · have ev : ((List.replicate R 0).set I v).getD M 0 = 0 := by rw [List.getD_eq_getElem?_getD, List.getElem?_set, if_neg (Ne.symm hMI)]; simp [hM]
    obtain rfl : b = 0 := HBV.out.trans ev
    have hne : (((M : Nat) : Int) == (I : Int)) = false := by simp; omega
    clear ev
    go_wp2_with fail
    go_ret
    exact ⟨rfl, hbel3⟩

theorem opened {H : Type} (enc : TypeId × Value → H) (W : World) (b0 : Nat) (v0 : Value) (d0 : DataW H) (p0 : List MemPlace) (hv : Value.okWide Try.prog W .any b0 26 v0)
    (h0 : DataW.Trod enc Try.prog W 0 (fun _ => true) true 26 v0 d0 p0) (hsz : (DataW.weightsEach Try.prog [26] [d0]).all (· ≤ reachBytes) = true) :
    Calls Try.prog 3 #[v0] W fun e W' => e = .returned (.bool true) ∧ Below W.heap.size W W' := by
  obtain ⟨cs, rfl, hz⟩ := okWide_struct Try.underlying26 hv
  obtain ⟨fuel, hf⟩ := h0
  obtain ⟨xs, n', _, hx, hlen, hxl, hff⟩ := DataW.trod_struct Try.underlying26 hf
  have hco : Try.prog.cellsOf 26 = 10 := by kernel_rfl
  obtain ⟨l⟩ := cs
  match l, hz.trans hco with
  | [c0, c1, c2, c3, c4, c5, c6, c7, c8, c9], _ =>
    obtain ⟨y0, _, h0⟩ := field_some hxl hff (i := 0) rfl 0 rfl rfl co_cfg
    obtain ⟨y1, _, h1⟩ := field_some hxl hff (i := 1) rfl 7 rfl rfl co_i64
    obtain ⟨y2, _, h2⟩ := field_some hxl hff (i := 2) rfl 8 rfl rfl co_i64
    obtain ⟨y3, _, h3⟩ := field_some hxl hff (i := 3) rfl 9 rfl rfl co_i64
    simp only [Value.cells, List.drop_zero, List.drop_succ_cons, List.take_succ_cons, List.take_zero] at h0 h1 h2 h3
    obtain ⟨c, A, n, nc, regs, ec, hl, hn, hnc, hA⟩ := cfg_cells h0
    obtain ⟨p, e1, _⟩ := DataW.trod_int Try.underlying2 h1
    obtain ⟨v, e2, _⟩ := DataW.trod_int Try.underlying2 h2
    obtain ⟨o, e3, _⟩ := DataW.trod_int Try.underlying2 h3
    simp only [List.cons.injEq, and_true] at ec
    obtain ⟨q0, q1, q2, q3, q4, q5, q6⟩ := ec
    simp at e1 e2 e3
    subst q0 q1 q2 q3 q4 q5 q6 e1 e2 e3
    have hmax : maxLen = 9223372036854775807 := rfl
    by_cases hok : cfgOk c regs
    · obtain ⟨R, hR⟩ := Int.eq_ofNat_of_zero_le (show 0 ≤ c.raw by have := hok.1; omega)
      have h1 := hok.1
      have h2 := hok.2.1
      have h3 := hok.2.2.2.2.2.2.2.2.2.2.1
      exact walk_yes c regs A n nc R p v o W hl (by omega) hA hok hR (by omega) (by omega)
    · exact walk_no c regs A n nc p v o W hl (by omega) hA hok

/-! ### The row -/
set_option maxRecDepth 100000 in
theorem lifted (os : Os) (started : os.Started) (H : Type) (enc : TypeId × Value → H) :
    ReturnsInHanded {} Try.checked os 3 .any (Rows.plainPlacesSpec.pre6 enc Try.prog Try.f3 Rows.plainPlacesRow.domain false) (Rows.plainPlacesSpec.post enc Try.prog Try.f3 false true false false) := by
  refine returnsInHanded_of_change_sized (C := Try.checked) own started (by kernel_rfl) Try.func3
    (ChangeSpec.witness6 (enc := enc) (C := Try.checked) false ⟨#[], #[.agg #[.int .i64 0, .int .i64 0, .int .i64 0, .int .i64 0, .bool false, .int .i64 0, .slice none 0 0, .int .i64 0, .int .i64 0, .int .i64 0]], []⟩ 8 (by kernel_rfl) (by kernel_rfl) (by kernel_rfl) (by kernel_rfl)) ?_
  intro W base args ds gs before hval0 hW hcnd hsz0 hholds
  have hval : ∀ (j : Nat) t v, Try.f3.params[j]? = some t → args[j]? = some v → Value.okWide Try.prog W .any base t v := hval0
  have hsz : (DataW.weightsEach Try.prog (Try.f3.params.toList ++ Rows.plainPlacesSpec.plain.varTypes Try.prog) (ds ++ gs)).all (· ≤ reachBytes) = true := hsz0
  have hW' := hW
  obtain ⟨p, q, hA0, hV, rfl, hfz, hnd⟩ := hW
  have hA : DataW.TrodAll enc Try.prog W 0 (fun _ => true) true Try.f3.params.toList args.toList ds p := hA0
  obtain ⟨rfl, rfl⟩ := trodVars_none hV
  have hlt : ∀ x ∈ p, x.block < W.heap.size := fun x hx => hW'.lt x (by simpa using hx)
  rw [Try.params3] at hA hval hsz
  obtain ⟨v0, vs0, d0, ds0, p0, q0, hargs, rfl, rfl, h0, r0⟩ := trodAll_cons hA
  obtain ⟨rfl, rfl, rfl⟩ := trodAll_nil r0
  obtain rfl : args = #[v0] := by cases args; simp_all
  clear hA0 hval0 hsz0
  refine (opened enc W base v0 d0 p0 (hval 0 _ v0 rfl rfl) h0 hsz).mono fun e W' ⟨he, bel⟩ => ?_
  subst he
  exact ⟨_, rfl, _, _, _, [], _, [], hW', trodAll_mk1 (shut_bool Try.underlying4 _), Below.trodAll laidOut (by intro t ht; have ht' : t ∈ [26] := ht; clear ht; simp only [List.mem_cons, List.not_mem_nil, or_false] at ht'; rcases ht' with rfl <;> exact ⟨by kernel_rfl, of_decide_eq_true (by kernel_rfl)⟩) hA bel hlt, rfl, bel.frame _, fun h => by cases h⟩

theorem over : Rows.plainPlacesRow.holds Try.pinned (OpenSpec.ofChange Rows.plainPlacesSpec) :=
  OpenClaim.holds_of_wide 3 Try.f3 rfl rfl rfl rfl rfl rfl rfl ⟨rfl, rfl, rfl, rfl, rfl⟩ rfl rfl rfl rfl rfl (by kernel_rfl) Try.func3 (by kernel_rfl)
    (of_decide_eq_true (by kernel_rfl)) (by unfold Func.isWrapper; first | (rw [if_pos (by decide +kernel)]; kernel_rfl) | (rw [if_neg (by decide +kernel)]; exact ⟨rfl, rfl⟩))
    (fun os started H enc _ => lifted os started H enc)

/-- THE STATEMENT -/
theorem proved : Rows.PlainPlacesSaid := over
#print axioms proved
end Go.Proofs.Ytpmpgnhbpneloaa.plainPlaces
