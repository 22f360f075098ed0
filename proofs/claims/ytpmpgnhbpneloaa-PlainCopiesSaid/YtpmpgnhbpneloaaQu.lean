/- The document's counts. -/
import Derived.Test.YtpmpgnhbpneloaaQt
namespace Go.Proofs.Ytpmpgnhbpneloaa
open Go.RowKit Go.Joins Go.ChangeShapes Go.WideShapes Go.Deep
set_option linter.unusedVariables false
set_option maxRecDepth 100000

theorem countF_get {t : TS} (h : TOk t) (hk : t.kind = 1) (i : Nat) (hi : i < t.values.length) : countF t i 0 = (t, t.values.getD i 0, 0) := by
  have hv : t.values.getD i 0 = t.values[i] := by rw [List.getD_eq_getElem?_getD, List.getElem?_eq_getElem hi]; rfl
  have hw : wrap64 (t.values.getD i 0 + 0) = t.values.getD i 0 := by rw [Int.add_zero, hv]; exact h.num hk _ (List.getElem_mem hi)
  unfold countF
  rw [if_pos ⟨by omega, by omega⟩, Int.toNat_natCast, hw]
  congr 1
  have : t.values.set i (t.values.getD i 0) = t.values := by rw [hv]; exact List.set_getElem_self hi
  rw [this]

set_option maxHeartbeats 2000000 in
theorem counts_any (x : TM) (T o base : Nat) (call : Int) (A : Option Addr) (na ca : Nat) (args : List Int) (w : World) (h : Cel w base T (o + 1) (o + 2) x) (hok : TOk x.t) (hk1 : x.t.kind = 1) (hA : Reads w w.heap.size 1 A na (ints args)) (hal : args.length = na) (hc : (call = 1 ∧ na = 2) ∨ (call = 2 ∧ na = 1)) (hsep : ∀ ad, A = some ad → x.vv.ownBlock ≠ some ad.block) :
    Calls Try.prog 28 #[.pointer (some ⟨T, o, none⟩), .int .i64 call, .slice A na ca] w (MPost (countF x.t (args.getD 0 0) (if call = 1 then args.getD 1 0 else 0)) base T (o + 1) (o + 2) x w) := by
  have hn0 : 0 < args.length := by rcases hc with ⟨_, h⟩ | ⟨_, h⟩ <;> omega
  obtain ⟨ab, aoff, rfl, hab, hac⟩ := arg_cell hA 0 hn0
  have ca0 := hac 0 hn0
  have hs := hsep _ rfl
  generalize args.getD 0 0 = i at *
  simp only [Nat.add_zero] at ca0
  have hown := h.th.vs
  obtain ⟨V, vc, hvv, hvc, hV⟩ := own_shapes h.th.vs
  have c2 := h.cv
  rw [hvv] at c2
  have hTl := h.lt
  have hna0 : 0 < na := by omega
  have H := Lib.hid h
  by_cases hin : 0 ≤ i ∧ i < x.t.values.length
  · obtain ⟨i, rfl⟩ := Int.eq_ofNat_of_zero_le hin.1
    have hi : i < x.t.values.length := by omega
    obtain ⟨g, cap, hv, hbg, hgl⟩ := hown.form (by omega)
    rw [hvv] at hv
    injection hv with e1 e2 e3
    subst e1 e3
    have hTg : T ≠ g := fun e => h.nv (by rw [hvv, e]; rfl)
    have hag : ab ≠ g := fun e => hs (by rw [hvv, e]; rfl)
    have hget := countF_get hok hk1 i hi
    obtain ⟨v, hv⟩ : ∃ v, v = x.t.values.getD i 0 := ⟨_, rfl⟩
    have cx : w.cell? ⟨g, i, none⟩ = some (.int .i64 v) := by
      rw [hv, List.getD_eq_getElem?_getD, List.getElem?_eq_getElem hi]
      have := hown.cells (g := g) (by rw [hvv]; rfl) i _ (ints_at _ i hi)
      rw [show ((⟨g, 0, none⟩ : Addr).add i) = ⟨g, i, none⟩ by unfold Addr.add; split <;> simp_all] at this
      exact this
    have fx : w.frozen? ⟨g, i, none⟩ = false := by
      obtain ⟨cs, hc⟩ := own_blk hown (b := g) (by rw [hvv]; rfl)
      exact hc.frozen i
    have HV := Lib.hid hvv
    have e0 : decide ((i : Int) < 0) = false := by simp
    have e1 : decide ((x.t.values.length : Int) ≤ (i : Int)) = false := by simp; omega
    have hii : (i : Int) < (x.t.values.length : Int) := by omega
    rw [← hv] at hget
    rcases hc with ⟨rfl, rfl⟩ | ⟨rfl, rfl⟩
    · have ca1 := hac 1 (by omega)
      simp only [if_true]
      generalize args.getD 1 0 = d at *
      unfold countF
      rw [if_pos ⟨by omega, by omega⟩, Int.toNat_natCast, ← hv]
      obtain ⟨z, hz⟩ : ∃ z, z = wrap64 (v + d) := ⟨_, rfl⟩
      have hzw : IntKind.i64.wrap (v + d) = z := by rw [hz, IntKind.wrap_i64]; unfold wrap64; rfl
      have hzw2 : wrap64 (v + d) = z := hz.symm
      rw [← hz]
      have hn1 : (1 : Int) < 2 := by omega
      clear h hvv hV hown hv hz hac hA hok hk1 hget hsep hs hal hin
      go_enter Try.func28, Try.ntmps28
      go_wp2_with fail
      go_region_law (fail)
      all_goals
        go_wp2_with fail
        go_ret2
        exact ⟨rfl, count_end (n2 := 0) H.out HV.out⟩
    · rw [if_neg (by decide), hget]
      clear h hvv hV hown hv hac hA hok hk1 hget hsep hs hal hin
      go_enter Try.func28, Try.ntmps28
      go_wp2_with fail
      go_ret2
      exact MPost.read H.out (Below.refl _ _) rfl
  · unfold countF
    rw [if_neg hin]
    clear h hvv hV hown hac hA hok hk1 hsep hs hal
    by_cases h0 : i < 0
    · have e0 : decide (i < 0) = true := by simp [h0]
      clear hin hc
      go_enter Try.func28, Try.ntmps28
      go_wp2_with fail
      go_ret2
      exact MPost.read H.out (Below.refl _ _) rfl
    · have e0 : decide (i < 0) = false := by simp; omega
      have e1 : decide ((x.t.values.length : Int) ≤ i) = true := by simp; omega
      clear hin hc
      go_enter Try.func28, Try.ntmps28
      go_wp2_with fail
      go_ret2
      exact MPost.read H.out (Below.refl _ _) rfl
end Go.Proofs.Ytpmpgnhbpneloaa
