/- Proves Rows.DictEndsSaid: for every input 'carousellaw17.DictEnds' returns true and each argument reads behind the call as it read before. Conditions: none beyond the row's own. -/
import Derived.Test.YtjggcidaolnmbaaDp2
import Derived.Test.YtjggcidaolnmbaaAsked
import Derived.Test.YtjggcidaolnmbaaDmb
import Derived.Test.YtjggcidaolnmbaaDr1
import Derived.Deep.LoopGhost
namespace Go.Proofs.Ytjggcidaolnmbaa.dictEnds
open Go.RowKit Go.Joins Go.ChangeShapes Go.WideShapes Go.ChangeAt Go.Deep
set_option linter.unusedVariables false
set_option maxRecDepth 100000

/-- A machine of a call is through behind as many calls of Next as it has left. -/
def Rel (base most call : Int) (args : List Int) (w : World) (A Wd : Option Addr) (n nc m mc : Nat) (gk : Nat) (i : Value) (wr : World) : Prop :=
  ∃ (k : Nat) (read : List Int) (writes : Int) (last : Want) (s : DS), i = .int .i64 k ∧ (k : Int) + gk = 2 * most + 6 ∧ rank s ≤ gk ∧ 0 < gk ∧ Sim base most call args read writes last s ∧
    MIs wr (w.heap.size + 1) s (fun g => w.heap.size + 1 < g) ∧ Blk wr w.heap.size 26 #[.int .i64 base, .int .i64 most, .int .i64 call, .slice A n nc, .slice Wd m mc] ∧ Below w.heap.size w wr

theorem walk_yes (base most call : Int) (args words : List Int) (A Wd : Option Addr) (n nc m mc : Nat) (w : World) (hn : n ≤ 9223372036854775807) (hm : m ≤ 9223372036854775807)
    (hA : Reads w w.heap.size 1 A n (ints args)) (hR : Reads w w.heap.size 1 Wd m (ints words)) (hok : callOk base most call args) :
    Calls Try.prog 9 #[.agg #[.int .i64 base, .int .i64 most, .int .i64 call, .slice A n nc, .slice Wd m mc]] w fun e w' => e = .returned (.bool true) ∧ Below w.heap.size w w' := by
  have hwl : words.length = m := by have := hR.1; simpa [ints] using this
  have HWL := Lib.hid hwl
  clear hwl
  have b0 := hok.1
  have b1 := hok.2.1
  have m0 := hok.2.2.1
  have m1 := hok.2.2.2.1
  have HOK := Lib.hid hok
  clear hok
  go_enter Try.func9, Try.ntmps9
  go_wp2_with fail
  refine (new_yes base most call args A n nc w.heap.size _ hn (by exact hA.alloc (Nat.le_refl _) _) HOK.out).mono ?_
  rintro e w1 ⟨rfl, hM, hb1⟩
  have hB0 : Blk w1 w.heap.size 26 #[.int .i64 base, .int .i64 most, .int .i64 call, .slice A n nc, .slice Wd m mc] := (Blk.new w _ _).below hb1 (by simp)
  have c0 : w1.cell? ⟨w.heap.size, 0, none⟩ = some (.int .i64 base) := (hB0.cell 0).trans rfl
  have c1 : w1.cell? ⟨w.heap.size, 1, none⟩ = some (.int .i64 most) := (hB0.cell 1).trans rfl
  have c2 : w1.cell? ⟨w.heap.size, 2, none⟩ = some (.int .i64 call) := (hB0.cell 2).trans rfl
  have c3 : w1.cell? ⟨w.heap.size, 3, none⟩ = some (.slice A n nc) := (hB0.cell 3).trans rfl
  go_wp2_with fail
  refine (right_yes base most call args A n nc w.heap.size _ (by exact (hA.alloc (Nat.le_refl _) _).below (hb1.mono (by simp))) HOK.out).mono ?_
  rintro e w2 ⟨rfl, rfl⟩
  go_wp2_with fail
  refine (size_any most _ m0 m1).mono ?_
  rintro e w2 ⟨rfl, rfl⟩
  have hsz1 : w.heap.size + 1 ≤ w1.heap.size := by have := hb1.size; simpa using this
  clear c0 c1 c2 c3
  go_wp2_with fail
  go_loopg [7] (2 * most.toNat + 6) (fun gk i wr => Rel base most call args w A Wd n nc m mc gk i wr)
  case atStart =>
    have hbt : Below w.heap.size w w1 := ((Below.refl _ _).alloc (Nat.le_refl _) _).trans (hb1.mono (B' := w.heap.size) (by simp))
    have hM' : MIs w1 (w.heap.size + 1) (startF base most call args) (fun _ => False) := by simpa using hM
    refine ⟨0, [], 0, ⟨0, 0, 0, 0⟩, startF base most call args, rfl, by omega, ?_, by omega, startF_sim HOK.out, MIs.more hM' (fun _ h => h.elim), hB0, hbt⟩
    rw [startF_rank]
    exact Nat.le_refl _
  case round =>
    obtain ⟨k, read, writes, last, s, rfl, hkg, hrk, hgk, hsim, hMr, hBr, hbel⟩ := hrel
    have HS := Lib.hid hsim
    have HK := Lib.hid hkg
    have HRK := Lib.hid hrk
    have hk5 : (k : Int) ≤ 2 * most + 5 := by omega
    clear hkg hrk hsim
    have c0 : wr.cell? ⟨w.heap.size, 0, none⟩ = some (.int .i64 base) := (hBr.cell 0).trans rfl
    have c1 : wr.cell? ⟨w.heap.size, 1, none⟩ = some (.int .i64 most) := (hBr.cell 1).trans rfl
    have c4 : wr.cell? ⟨w.heap.size, 4, none⟩ = some (.slice Wd m mc) := (hBr.cell 4).trans rfl
    have hlt := hBr.lt
    by_cases hkm : k < m
    · have hRr : Reads wr w.heap.size 1 Wd m (ints words) := hR.below hbel
      obtain ⟨wb, wo, rfl, hwb, hwc⟩ := hRr.flat (by omega)
      have cw : wr.cell? ⟨wb, wo + k, none⟩ = some (.int .i64 (words[k]'(by rw [HWL.out]; exact hkm))) := hwc k _ (ints_at _ _ _)
      clear hwc hRr
      go_wp2_with fail
      refine (next_any (w.heap.size + 1) s (fun g => w.heap.size + 1 < g ∧ g < wr.heap.size) (words[k]'(by rw [HWL.out]; exact hkm)) _ HS.out.ok HS.out.look (fun g hg => hg.2) (by exact hMr.bound)).mono ?_
      rintro e w2 ⟨x, s', hx, rfl, hM2, hg⟩
      have hst := step_sim HOK.out HS.out (words[k]'(by rw [HWL.out]; exact hkm))
      rw [hx] at hst
      clear hx
      have hwok := hst.ok
      have hfin := hst.fin
      have hrk2 : rank s' + 1 ≤ gk ∨ rank s' = 0 := by have h1 := hst.rk; have h2 := HRK.out; simp only at h1; omega
      have HST := Lib.hid hst
      clear hst
      simp only at hwok hfin
      have hmlt := hMr.lt
      have hM3 := Lib.hid (hM2.more (S' := fun g => w.heap.size + 1 < g) (by rintro g (h | h); exact h.1; omega))
      clear hM2
      have hB2 := hBr.grown hg (by intro hh; injection hh with hh; omega)
      have d0 : w2.cell? ⟨w.heap.size, 0, none⟩ = some (.int .i64 base) := (hB2.cell 0).trans rfl
      have hlt2 := hB2.lt
      have hbel2 : Below w.heap.size w w2 := hbel.trans ⟨hg.os, hg.tape, hg.output, hg.size, fun q hq => hg.block q (by omega) (by intro hh; injection hh with hh; omega)⟩
      clear c0 c1 c4 hlt hM hb1 hB0
      by_cases hx6 : x.kind = 6
      · have e6 : (x.kind == 6) = true := by simp [hx6]
        rcases hwok with ⟨_, hc0, hcv⟩ | ⟨h, _⟩
        · have e1 : (x.cell == 0) = true := by simp [hc0]
          by_cases hcode : x.code = 0
          · have e2 : (x.code == 0) = true := by simp [hcode]
            clear hx6 hc0 hcv hcode hfin hrk2
            go_wp2
            go_ret
            exact ⟨rfl, hbel2.alloc hbel2.size _⟩
          · have e2 : (x.code == 0) = false := by simp [hcode]
            have e3 : (x.value == 0) = true := by
              rcases hcv with h | h
              · exact absurd h hcode
              · simp [h]
            clear hx6 hc0 hcv hcode hfin hrk2
            go_wp2
            go_ret
            exact ⟨rfl, hbel2.alloc hbel2.size _⟩
        · omega
      · have e6 : (x.kind == 6) = false := by simp [hx6]
        have hrk3 : 0 < rank s' := by
          rcases Nat.eq_zero_or_pos (rank s') with h | h
          · exact absurd (hfin.2 h) hx6
          · exact h
        have HRK3 := Lib.hid hrk3
        rcases hwok with ⟨h, _⟩ | ⟨hk23, hlo, hhi⟩
        · exact absurd h hx6
        · have e7 : decide (x.cell < base) = false := by simp; omega
          have e8 : decide (base + (3 * most + 1) ≤ x.cell) = false := by simp; omega
          have hgk2 : rank s' + 1 ≤ gk := by omega
          have HG := Lib.hid hgk2
          clear hgk2 hrk2 hrk3 hfin hlo hhi
          by_cases h2 : x.kind = 2
          · have e9 : (x.kind != 2) = false := by simp [h2]
            clear hk23 h2 hx6
            go_wp2
            go_roundg (gk - 1)
            case measure => omega
            case rel =>
              exact ⟨k + 1, _, _, _, s', by go_num, by have := HK.out; omega, by have := HG.out; omega, by have := HRK3.out; have := HG.out; omega, HST.out.sim, hM3.out.alloc _, hB2.alloc _, hbel2.alloc hbel2.size _⟩
          · have e9 : (x.kind != 2) = true := by simp [h2]
            have e10 : (x.kind != 3) = false := by rcases hk23 with h | h; exact absurd h h2; simp [h]
            clear hk23 h2 hx6
            go_wp2
            go_roundg (gk - 1)
            case measure => omega
            case rel =>
              exact ⟨k + 1, _, _, _, s', by go_num, by have := HK.out; omega, by have := HG.out; omega, by have := HRK3.out; have := HG.out; omega, HST.out.sim, hM3.out.alloc _, hB2.alloc _, hbel2.alloc hbel2.size _⟩
    · have gkm : decide ((k : Int) < (m : Int)) = false := by simp; omega
      go_wp2_with fail
      refine (next_any (w.heap.size + 1) s (fun g => w.heap.size + 1 < g ∧ g < wr.heap.size) 0 _ HS.out.ok HS.out.look (fun g hg => hg.2) (by exact hMr.bound)).mono ?_
      rintro e w2 ⟨x, s', hx, rfl, hM2, hg⟩
      have hst := step_sim HOK.out HS.out 0
      rw [hx] at hst
      clear hx
      have hwok := hst.ok
      have hfin := hst.fin
      have hrk2 : rank s' + 1 ≤ gk ∨ rank s' = 0 := by have h1 := hst.rk; have h2 := HRK.out; simp only at h1; omega
      have HST := Lib.hid hst
      clear hst
      simp only at hwok hfin
      have hmlt := hMr.lt
      have hM3 := Lib.hid (hM2.more (S' := fun g => w.heap.size + 1 < g) (by rintro g (h | h); exact h.1; omega))
      clear hM2
      have hB2 := hBr.grown hg (by intro hh; injection hh with hh; omega)
      have d0 : w2.cell? ⟨w.heap.size, 0, none⟩ = some (.int .i64 base) := (hB2.cell 0).trans rfl
      have hlt2 := hB2.lt
      have hbel2 : Below w.heap.size w w2 := hbel.trans ⟨hg.os, hg.tape, hg.output, hg.size, fun q hq => hg.block q (by omega) (by intro hh; injection hh with hh; omega)⟩
      clear c0 c1 c4 hlt hM hb1 hB0
      by_cases hx6 : x.kind = 6
      · have e6 : (x.kind == 6) = true := by simp [hx6]
        rcases hwok with ⟨_, hc0, hcv⟩ | ⟨h, _⟩
        · have e1 : (x.cell == 0) = true := by simp [hc0]
          by_cases hcode : x.code = 0
          · have e2 : (x.code == 0) = true := by simp [hcode]
            clear hx6 hc0 hcv hcode hfin hrk2
            go_wp2
            go_ret
            exact ⟨rfl, hbel2.alloc hbel2.size _⟩
          · have e2 : (x.code == 0) = false := by simp [hcode]
            have e3 : (x.value == 0) = true := by
              rcases hcv with h | h
              · exact absurd h hcode
              · simp [h]
            clear hx6 hc0 hcv hcode hfin hrk2
            go_wp2
            go_ret
            exact ⟨rfl, hbel2.alloc hbel2.size _⟩
        · omega
      · have e6 : (x.kind == 6) = false := by simp [hx6]
        have hrk3 : 0 < rank s' := by
          rcases Nat.eq_zero_or_pos (rank s') with h | h
          · exact absurd (hfin.2 h) hx6
          · exact h
        have HRK3 := Lib.hid hrk3
        rcases hwok with ⟨h, _⟩ | ⟨hk23, hlo, hhi⟩
        · exact absurd h hx6
        · have e7 : decide (x.cell < base) = false := by simp; omega
          have e8 : decide (base + (3 * most + 1) ≤ x.cell) = false := by simp; omega
          have hgk2 : rank s' + 1 ≤ gk := by omega
          have HG := Lib.hid hgk2
          clear hgk2 hrk2 hrk3 hfin hlo hhi
          by_cases h2 : x.kind = 2
          · have e9 : (x.kind != 2) = false := by simp [h2]
            clear hk23 h2 hx6
            go_wp2
            go_roundg (gk - 1)
            case measure => omega
            case rel =>
              exact ⟨k + 1, _, _, _, s', by go_num, by have := HK.out; omega, by have := HG.out; omega, by have := HRK3.out; have := HG.out; omega, HST.out.sim, hM3.out.alloc _, hB2.alloc _, hbel2.alloc hbel2.size _⟩
          · have e9 : (x.kind != 2) = true := by simp [h2]
            have e10 : (x.kind != 3) = false := by rcases hk23 with h | h; exact absurd h h2; simp [h]
            clear hk23 h2 hx6
            go_wp2
            go_roundg (gk - 1)
            case measure => omega
            case rel =>
              exact ⟨k + 1, _, _, _, s', by go_num, by have := HK.out; omega, by have := HG.out; omega, by have := HRK3.out; have := HG.out; omega, HST.out.sim, hM3.out.alloc _, hB2.alloc _, hbel2.alloc hbel2.size _⟩

theorem walk_no (base most call : Int) (args : List Int) (A Wd : Option Addr) (n nc m mc : Nat) (w : World) (hn : n ≤ 9223372036854775807)
    (hA : Reads w w.heap.size 1 A n (ints args)) (hno : ¬ callOk base most call args) :
    Calls Try.prog 9 #[.agg #[.int .i64 base, .int .i64 most, .int .i64 call, .slice A n nc, .slice Wd m mc]] w fun e w' => e = .returned (.bool true) ∧ Below w.heap.size w w' := by
  have HNO := Lib.hid hno
  clear hno
  go_enter Try.func9, Try.ntmps9
  go_wp2_with fail
  refine (new_no base most call args A n nc w.heap.size _ hn (by exact hA.alloc (Nat.le_refl _) _) HNO.out).mono ?_
  rintro e w1 ⟨rfl, rfl⟩
  go_wp2_with fail
  refine (right_no base most call args A n nc w.heap.size _ (by exact hA.alloc (Nat.le_refl _) _) HNO.out).mono ?_
  rintro e w2 ⟨rfl, rfl⟩
  go_wp2_with fail
  go_ret
  exact ⟨rfl, (Below.refl _ _).alloc (Nat.le_refl _) _⟩

theorem opened {H : Type} (enc : TypeId × Value → H) (W : World) (b0 : Nat) (v0 : Value) (d0 : DataW H) (p0 : List MemPlace) (hv : Value.okWide Try.prog W .any b0 26 v0)
    (h0 : DataW.Trod enc Try.prog W 0 (fun _ => true) true 26 v0 d0 p0) (hsz : (DataW.weightsEach Try.prog [26] [d0]).all (· ≤ reachBytes) = true) :
    Calls Try.prog 9 #[v0] W fun e W' => e = .returned (.bool true) ∧ Below W.heap.size W W' := by
  obtain ⟨base, most, call, args, words, A, Wd, n, nc, m, mc, rfl, hn, hnc, hm, hmc, hA, hB, _, _⟩ := asked_open hv h0
  by_cases hok : callOk base most call args
  · exact walk_yes base most call args words A Wd n nc m mc W (by omega) (by omega) hA hB hok
  · exact walk_no base most call args A Wd n nc m mc W (by omega) hA hok

/-! ### The row -/
set_option maxRecDepth 100000 in
theorem lifted (os : Os) (started : os.Started) (H : Type) (enc : TypeId × Value → H) :
    ReturnsInHanded {} Try.checked os 9 .any (Rows.dictEndsSpec.pre6 enc Try.prog Try.f9 Rows.dictEndsRow.domain false) (Rows.dictEndsSpec.post enc Try.prog Try.f9 false true false false) := by
  refine returnsInHanded_of_change_sized (C := Try.checked) own started (by kernel_rfl) Try.func9
    (ChangeSpec.witness6 (enc := enc) (C := Try.checked) false ⟨#[], #[.agg #[.int .i64 0, .int .i64 0, .int .i64 0, .slice none 0 0, .slice none 0 0]], []⟩ 8 (by kernel_rfl) (by kernel_rfl) (by kernel_rfl) (by kernel_rfl)) ?_
  intro W base args ds gs before hval0 hW hcnd hsz0 hholds
  have hval : ∀ (j : Nat) t v, Try.f9.params[j]? = some t → args[j]? = some v → Value.okWide Try.prog W .any base t v := hval0
  have hsz : (DataW.weightsEach Try.prog (Try.f9.params.toList ++ Rows.dictEndsSpec.plain.varTypes Try.prog) (ds ++ gs)).all (· ≤ reachBytes) = true := hsz0
  have hW' := hW
  obtain ⟨p, q, hA0, hV, rfl, hfz, hnd⟩ := hW
  have hA : DataW.TrodAll enc Try.prog W 0 (fun _ => true) true Try.f9.params.toList args.toList ds p := hA0
  obtain ⟨rfl, rfl⟩ := trodVars_none hV
  have hlt : ∀ x ∈ p, x.block < W.heap.size := fun x hx => hW'.lt x (by simpa using hx)
  rw [Try.params9] at hA hval hsz
  obtain ⟨v0, vs0, d0, ds0, p0, q0, hargs, rfl, rfl, h0, r0⟩ := trodAll_cons hA
  obtain ⟨rfl, rfl, rfl⟩ := trodAll_nil r0
  obtain rfl : args = #[v0] := by cases args; simp_all
  clear hA0 hval0 hsz0
  refine (opened enc W base v0 d0 p0 (hval 0 _ v0 rfl rfl) h0 hsz).mono fun e W' ⟨he, bel⟩ => ?_
  subst he
  exact ⟨_, rfl, _, _, _, [], _, [], hW', trodAll_mk1 (shut_bool Try.underlying4 _), Below.trodAll laidOut (by intro t ht; have ht' : t ∈ [26] := ht; clear ht; simp only [List.mem_cons, List.not_mem_nil, or_false] at ht'; rcases ht' with rfl <;> exact ⟨by kernel_rfl, of_decide_eq_true (by kernel_rfl)⟩) hA bel hlt, rfl, bel.frame _, fun h => by cases h⟩

theorem over : Rows.dictEndsRow.holds Try.pinned (OpenSpec.ofChange Rows.dictEndsSpec) :=
  OpenClaim.holds_of_wide 9 Try.f9 rfl rfl rfl rfl rfl rfl rfl ⟨rfl, rfl, rfl, rfl, rfl⟩ rfl rfl rfl rfl rfl (by kernel_rfl) Try.func9 (by kernel_rfl)
    (of_decide_eq_true (by kernel_rfl)) (by unfold Func.isWrapper; first | (rw [if_pos (by decide +kernel)]; kernel_rfl) | (rw [if_neg (by decide +kernel)]; exact ⟨rfl, rfl⟩))
    (fun os started H enc _ => lifted os started H enc)

/-- THE STATEMENT -/
theorem proved : Rows.DictEndsSaid := over
#print axioms proved
end Go.Proofs.Ytjggcidaolnmbaa.dictEnds
