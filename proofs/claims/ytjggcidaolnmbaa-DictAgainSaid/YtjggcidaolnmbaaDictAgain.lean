/- Proves Rows.DictAgainSaid: for every input 'carousellaw17.DictAgain' returns true and each argument reads behind the call as it read before. Conditions: none beyond the row's own. -/
import Derived.Test.YtjggcidaolnmbaaDd
import Derived.Test.YtjggcidaolnmbaaDt2
import Derived.Test.YtjggcidaolnmbaaArg2
import Derived.Laws.MakeOwn
namespace Go.Proofs.Ytjggcidaolnmbaa.dictAgain
open Go.RowKit Go.Joins Go.ChangeShapes Go.WideShapes Go.ChangeAt Go.Deep
set_option linter.unusedVariables false
set_option maxRecDepth 100000

theorem info_i64 : ∃ i, Try.prog.info? 2 = some i ∧ i.zero = some (.int .i64 0) ∧ i.size = 1 ∧ i.bytes = 8 := info_parts Go.Proofs.Ytjggcidaolnmbaa.info_i64

theorem run_mk (m : Nat) (hm16 : m ≤ 16) (W : World) : (Instr.makeSlice 24 (.int .i64 (3 * (m : Int) + 1)) (.int .i64 (3 * (m : Int) + 1))).run Try.prog W =
    .ok (.slice (some ⟨W.heap.size, 0, none⟩) (3 * m + 1) (3 * m + 1)) (W.alloc (.cells (madeCells #[.int .i64 0] (3 * m + 1)) 2)) := by
  obtain ⟨i, hi, hz, hs, hb⟩ := info_i64
  have hr := run_make (P := Try.prog) W 24 2 i (.int .i64 0) Try.underlying24 hi hz .i64 .i64 (3 * (m : Int) + 1) (3 * (m : Int) + 1) (by omega) (by omega) (by rw [hb]; omega) (by omega)
  rw [hs] at hr
  have e : (3 * (m : Int) + 1).toNat = 3 * m + 1 := by omega
  rw [e, Nat.mul_one] at hr
  exact hr

def Rel1 (m n : Nat) (w : World) (gk : Nat) (i : Value) (wr : World) : Prop :=
  ∃ (k : Nat) (cs : List Int), i = .int .i64 k ∧ k ≤ n ∧ gk = n - k ∧ NoKey m cs ∧ wr.ownsRow w.heap.size 2 1 (.slice (some ⟨w.heap.size, 0, none⟩) (3 * m + 1) (3 * m + 1)) (3 * m + 1) (ints cs) ∧ Below w.heap.size w wr
def Rel2 (m : Nat) (b : Int) (w : World) (gk : Nat) (i : Value) (wr : World) : Prop :=
  ∃ (k : Nat) (cs : List Int), i = .int .i64 k ∧ k ≤ m + 1 ∧ gk = m + 1 - k ∧ (k ≤ m → Keys m k b cs) ∧ wr.ownsRow w.heap.size 2 1 (.slice (some ⟨w.heap.size, 0, none⟩) (3 * m + 1) (3 * m + 1)) (3 * m + 1) (ints cs) ∧ Below w.heap.size w wr

theorem below_of_only {a w : World} {g B : Nat} (h : a.grownBy w (some g)) (hB : B ≤ g) (hs : B ≤ a.heap.size) : Below B a w :=
  ⟨h.os, h.tape, h.output, h.size, fun q hq => h.block q (by omega) (by intro hh; injection hh with hh; omega)⟩

theorem lit_reads (w : World) (cs : List Int) (n : Nat) (h : cs.length = n) (hn : n ≤ 2) : Reads (w.alloc (.cells (ints cs).toArray 2)) (w.alloc (.cells (ints cs).toArray 2)).heap.size 1 (some ⟨w.heap.size, 0, none⟩) n (ints cs) := by
  have := World.ownsRow_lit (base := 0) (e := 2) (size := 1) w (ints cs).toArray n (Nat.zero_le _) (by unfold maxLen; omega) (by simp [ints, h])
  exact Reads.of_own this

theorem cells_again {w wr : World} {xs : List Int} {b off : Nat} (hbel : Below w.heap.size w wr) (hb : b < w.heap.size) (hc : ∀ (j : Nat) u, (ints xs)[j]? = some u → w.cell? ⟨b, off + j, none⟩ = some u) {k : Nat} (hk : k < xs.length) :
    wr.cell? ⟨b, off + k, none⟩ = some (.int .i64 xs[k]) := (hbel.cell (p := ⟨b, off + k, none⟩) hb).trans (hc k _ (ints_at _ _ hk))

set_option maxHeartbeats 2000000 in
theorem walk_yes (m r : Nat) (keys : List Int) (A : Option Addr) (n nc : Nat) (w : World) (hn : n * 8 ≤ 140737488351232) (hm : 1 ≤ m) (hm16 : m ≤ 16) (hr : r ≤ 40) (hA : Reads w w.heap.size 1 A n (ints keys)) :
    Calls Try.prog 8 #[.int .i64 m, .slice A n nc, .int .i64 r] w fun e w' => e = .returned (.bool true) ∧ Below w.heap.size w w' := by
  have hkl : keys.length = n := by have := hA.1; simpa [ints] using this
  have HKL := Lib.hid hkl
  clear hkl
  have hmk := run_mk m hm16
  have e1 : decide ((m : Int) < 1) = false := by simp; omega
  have e2 : decide (16 < (m : Int)) = false := by simp; omega
  have e3 : decide ((r : Int) < 0) = false := by simp
  have e4 : decide (40 < (r : Int)) = false := by simp; omega
  go_enter Try.func8, Try.ntmps8
  go_wp2_with fail
  clear hmk e1 e2 e3 e4
  go_loopg [8] n (fun gk i wr => Rel1 m n w gk i wr)
  case atStart =>
    refine ⟨0, _, rfl, Nat.zero_le _, rfl, nokey_zero m, ?_, (Below.refl _ _).alloc (Nat.le_refl _) _⟩
    have := World.ownsRow_lit (base := w.heap.size) (e := 2) (size := 1) w (madeCells #[.int .i64 0] (3 * m + 1)) (3 * m + 1) (Nat.le_refl _) (by unfold maxLen; omega) (by rw [← Array.length_toList, toList_madeCells_one]; simp)
    rw [toList_madeCells_one] at this
    simpa [ints] using this
  case round =>
    obtain ⟨k, cs, rfl, hk, hgk, hnk, hown, hbel⟩ := hrel
    have HNK := Lib.hid hnk
    have HG := Lib.hid hgk
    have hsz := hbel.size
    have hwl := (hown.lt w.heap.size rfl).2
    clear hnk hgk
    by_cases hkn : k < n
    · by_cases hk4 : k < 400
      · obtain ⟨b, off, rfl, hb, hc⟩ := hA.flat (by omega)
        have hkl' : k < keys.length := by rw [HKL.out]; exact hkn
        have HC := Lib.hid hc
        obtain ⟨V, hV⟩ : ∃ V, V = keys[k] := ⟨_, rfl⟩
        have cx : wr.cell? ⟨b, off + k, none⟩ = some (.int .i64 V) := by rw [hV]; exact cells_again hbel hb hc hkl'
        have HV := Lib.hid hV
        clear hc hV
        obtain ⟨cs1, cs2, hl1, hr1, hr2, hnk2⟩ := come_go HNK.out hm hm16 V k
        have HR1 := Lib.hid hr1
        have HR2 := Lib.hid hr2
        have HNK2 := Lib.hid hnk2
        have HL1 := Lib.hid hl1
        clear hr1 hr2 hnk2 hl1
        go_wp2_with fail
        refine (drun_any m 3 [V, k] cs _ 2 2 (3 * m + 1) (3 * m + 1) w.heap.size w.heap.size _ (by omega) (by exact lit_reads wr [V, k] 2 rfl (by omega)) ⟨by omega, by omega, by omega, by omega, rfl⟩ (by omega) (by exact hown.alloc _)).mono ?_
        rintro e w1 ⟨v, code, cs', hrun, rfl, hown1, hg1⟩
        rw [Int.toNat_natCast, HR1.out] at hrun
        simp only [Prod.mk.injEq, and_true] at hrun
        obtain ⟨⟨rfl, rfl⟩, rfl⟩ := hrun
        have hbel1 : Below w.heap.size w w1 := (hbel.alloc hbel.size _).trans (below_of_only hg1 (Nat.le_refl _) (by simp; omega))
        have hwl1 := (hown1.lt w.heap.size rfl).2
        have cy : w1.cell? ⟨b, off + k, none⟩ = some (.int .i64 V) := by rw [HV.out]; exact cells_again hbel1 hb HC.out hkl'
        clear hown hbel hsz hwl hg1 cx
        go_wp2_with fail
        refine (drun_any m 4 [V] cs1 _ 1 1 (3 * m + 1) (3 * m + 1) w.heap.size w.heap.size _ (by omega) (by exact lit_reads w1 [V] 1 rfl (by omega)) ⟨by omega, by omega, by omega, by omega, rfl⟩ (by omega) (by exact hown1.alloc _)).mono ?_
        rintro e w2 ⟨v, code, cs', hrun, rfl, hown2, hg2⟩
        rw [Int.toNat_natCast, HR2.out] at hrun
        simp only [Prod.mk.injEq, and_true] at hrun
        obtain ⟨⟨rfl, rfl⟩, rfl⟩ := hrun
        have hbel2 : Below w.heap.size w w2 := (hbel1.alloc hbel1.size _).trans (below_of_only hg2 (Nat.le_refl _) (by simp; omega))
        clear hown1 hbel1 hwl1 hg2 cy
        go_wp2_with fail
        go_roundg (n - (k + 1))
        case measure => have := HG.out; omega
        case rel => exact ⟨k + 1, _, by go_num, by omega, rfl, HNK2.out, hown2, hbel2⟩
      · have e5 : decide ((k : Int) < 400) = false := by simp; omega
        go_wp2_with fail
        clear e5
        go_loopg [12] (m + 1) (fun gk i wr2 => Rel2 m ((r : Int) * 17) w gk i wr2)
        case atStart => exact ⟨0, cs, rfl, Nat.zero_le _, rfl, fun _ => HNK.out.keys _, hown, hbel⟩
        case round =>
          obtain ⟨q, ds, rfl, hq, hgq, hks, hown3, hbel3⟩ := hrel
          have HKS := Lib.hid hks
          have HGQ := Lib.hid hgq
          have hwl3 := (hown3.lt w.heap.size rfl).2
          clear hks hgq hown hbel
          by_cases hqm : q < m
          · obtain ⟨cs1, hr1, hk1⟩ := (HKS.out (by omega)).more hm hm16 hqm 1
            have HR1 := Lib.hid hr1
            have HK1 := Lib.hid hk1
            have e6 : ((q : Int) == (m : Int)) = false := by simp; omega
            clear hr1 hk1
            go_wp2_with fail
            refine (drun_any m 3 [(r : Int) * 17 + q, 1] ds _ 2 2 (3 * m + 1) (3 * m + 1) w.heap.size w.heap.size _ (by omega) (by exact lit_reads _ [(r : Int) * 17 + q, 1] 2 rfl (by omega)) ⟨by omega, by omega, by omega, by omega, rfl⟩ (by omega) (by exact hown3.alloc _)).mono ?_
            rintro e w1 ⟨v, code, cs', hrun, rfl, hown1, hg1⟩
            rw [Int.toNat_natCast, HR1.out] at hrun
            simp only [Prod.mk.injEq, and_true] at hrun
            obtain ⟨⟨rfl, rfl⟩, rfl⟩ := hrun
            have hbel1 : Below w.heap.size w w1 := (hbel3.alloc hbel3.size _).trans (below_of_only hg1 (Nat.le_refl _) (by simp; omega))
            clear hown3 hbel3 hwl3 hg1
            go_wp2_with fail
            go_roundg (m + 1 - (q + 1))
            case measure => have := HGQ.out; omega
            case rel => exact ⟨q + 1, _, by go_num, by omega, rfl, fun _ => HK1.out, hown1, hbel1⟩
          · by_cases hqe : q = m
            · subst hqe
              have hr1 := (HKS.out (by omega)).full hm hm16 1
              have HR1 := Lib.hid hr1
              clear hr1
              go_wp2_with fail
              refine (drun_any q 3 [(r : Int) * 17 + q, 1] ds _ 2 2 (3 * q + 1) (3 * q + 1) w.heap.size w.heap.size _ (by omega) (by exact lit_reads _ [(r : Int) * 17 + q, 1] 2 rfl (by omega)) ⟨by omega, by omega, by omega, by omega, rfl⟩ (by omega) (by exact hown3.alloc _)).mono ?_
              rintro e w1 ⟨v, code, cs', hrun, rfl, hown1, hg1⟩
              rw [Int.toNat_natCast, HR1.out] at hrun
              simp only [Prod.mk.injEq, and_true] at hrun
              obtain ⟨⟨rfl, rfl⟩, rfl⟩ := hrun
              have hbel1 : Below w.heap.size w w1 := (hbel3.alloc hbel3.size _).trans (below_of_only hg1 (Nat.le_refl _) (by simp; omega))
              clear hown3 hbel3 hwl3 hg1
              go_wp2_with fail
              go_roundg 0
              case measure => have := HGQ.out; omega
              case rel => exact ⟨q + 1, _, by go_num, by omega, by omega, fun h => by omega, hown1, hbel1⟩
            · have e7 : decide ((q : Int) ≤ (m : Int)) = false := by simp; omega
              go_wp2_with fail
              go_ret
              exact ⟨rfl, hbel3⟩
    · go_wp2_with fail
      go_loopg [12] (m + 1) (fun gk i wr2 => Rel2 m ((r : Int) * 17) w gk i wr2)
      case atStart => exact ⟨0, cs, rfl, Nat.zero_le _, rfl, fun _ => HNK.out.keys _, hown, hbel⟩
      case round =>
        obtain ⟨q, ds, rfl, hq, hgq, hks, hown3, hbel3⟩ := hrel
        have HKS := Lib.hid hks
        have HGQ := Lib.hid hgq
        have hwl3 := (hown3.lt w.heap.size rfl).2
        clear hks hgq hown hbel
        by_cases hqm : q < m
        · obtain ⟨cs1, hr1, hk1⟩ := (HKS.out (by omega)).more hm hm16 hqm 1
          have HR1 := Lib.hid hr1
          have HK1 := Lib.hid hk1
          have e6 : ((q : Int) == (m : Int)) = false := by simp; omega
          clear hr1 hk1
          go_wp2_with fail
          refine (drun_any m 3 [(r : Int) * 17 + q, 1] ds _ 2 2 (3 * m + 1) (3 * m + 1) w.heap.size w.heap.size _ (by omega) (by exact lit_reads _ [(r : Int) * 17 + q, 1] 2 rfl (by omega)) ⟨by omega, by omega, by omega, by omega, rfl⟩ (by omega) (by exact hown3.alloc _)).mono ?_
          rintro e w1 ⟨v, code, cs', hrun, rfl, hown1, hg1⟩
          rw [Int.toNat_natCast, HR1.out] at hrun
          simp only [Prod.mk.injEq, and_true] at hrun
          obtain ⟨⟨rfl, rfl⟩, rfl⟩ := hrun
          have hbel1 : Below w.heap.size w w1 := (hbel3.alloc hbel3.size _).trans (below_of_only hg1 (Nat.le_refl _) (by simp; omega))
          clear hown3 hbel3 hwl3 hg1
          go_wp2_with fail
          go_roundg (m + 1 - (q + 1))
          case measure => have := HGQ.out; omega
          case rel => exact ⟨q + 1, _, by go_num, by omega, rfl, fun _ => HK1.out, hown1, hbel1⟩
        · by_cases hqe : q = m
          · subst hqe
            have hr1 := (HKS.out (by omega)).full hm hm16 1
            have HR1 := Lib.hid hr1
            clear hr1
            go_wp2_with fail
            refine (drun_any q 3 [(r : Int) * 17 + q, 1] ds _ 2 2 (3 * q + 1) (3 * q + 1) w.heap.size w.heap.size _ (by omega) (by exact lit_reads _ [(r : Int) * 17 + q, 1] 2 rfl (by omega)) ⟨by omega, by omega, by omega, by omega, rfl⟩ (by omega) (by exact hown3.alloc _)).mono ?_
            rintro e w1 ⟨v, code, cs', hrun, rfl, hown1, hg1⟩
            rw [Int.toNat_natCast, HR1.out] at hrun
            simp only [Prod.mk.injEq, and_true] at hrun
            obtain ⟨⟨rfl, rfl⟩, rfl⟩ := hrun
            have hbel1 : Below w.heap.size w w1 := (hbel3.alloc hbel3.size _).trans (below_of_only hg1 (Nat.le_refl _) (by simp; omega))
            clear hown3 hbel3 hwl3 hg1
            go_wp2_with fail
            go_roundg 0
            case measure => have := HGQ.out; omega
            case rel => exact ⟨q + 1, _, by go_num, by omega, by omega, fun h => by omega, hown1, hbel1⟩
          · have e7 : decide ((q : Int) ≤ (m : Int)) = false := by simp; omega
            go_wp2_with fail
            go_ret
            exact ⟨rfl, hbel3⟩

theorem walk_no (a b : Int) (A : Option Addr) (n nc : Nat) (w : World) (hno : a < 1 ∨ 16 < a ∨ b < 0 ∨ 40 < b) :
    Calls Try.prog 8 #[.int .i64 a, .slice A n nc, .int .i64 b] w fun e w' => e = .returned (.bool true) ∧ Below w.heap.size w w' := by
  by_cases h1 : a < 1
  · clear hno
    go_enter Try.func8, Try.ntmps8
    go_wp2_with fail
    go_ret
    exact ⟨rfl, Below.refl _ _⟩
  · have e1 : decide (a < 1) = false := by simpa using h1
    by_cases h2 : 16 < a
    · clear hno
      go_enter Try.func8, Try.ntmps8
      go_wp2_with fail
      go_ret
      exact ⟨rfl, Below.refl _ _⟩
    · have e2 : decide (16 < a) = false := by simpa using h2
      by_cases h3 : b < 0
      · clear hno
        go_enter Try.func8, Try.ntmps8
        go_wp2_with fail
        go_ret
        exact ⟨rfl, Below.refl _ _⟩
      · have e3 : decide (b < 0) = false := by simpa using h3
        have h4 : 40 < b := by omega
        clear hno
        go_enter Try.func8, Try.ntmps8
        go_wp2_with fail
        go_ret
        exact ⟨rfl, Below.refl _ _⟩

theorem opened {H : Type} (enc : TypeId × Value → H) (W : World) (b0 : Nat) (v0 : Value) (d0 : DataW H) (p0 : List MemPlace) (v1 : Value) (d1 : DataW H) (p1 : List MemPlace) (v2 : Value) (d2 : DataW H) (p2 : List MemPlace)
    (hv0 : Value.okWide Try.prog W .any b0 3 v0) (h0 : DataW.Trod enc Try.prog W 0 (fun _ => true) true 3 v0 d0 p0)
    (hv1 : Value.okWide Try.prog W .any b0 24 v1) (h1 : DataW.Trod enc Try.prog W 0 (fun _ => true) true 24 v1 d1 p1)
    (hv2 : Value.okWide Try.prog W .any b0 3 v2) (h2 : DataW.Trod enc Try.prog W 0 (fun _ => true) true 3 v2 d2 p2)
    (hsz : (DataW.weightsEach Try.prog [3, 24, 3] [d0, d1, d2]).all (· ≤ reachBytes) = true) :
    Calls Try.prog 8 #[v0, v1, v2] W fun e W' => e = .returned (.bool true) ∧ Below W.heap.size W W' := by
  obtain ⟨a0, rfl, rfl, rfl, w0⟩ := open_int Try.underlying3 hv0 h0
  obtain ⟨A, n, nc, zs, rfl, hzl, hn, hnc, hA, wz, hd⟩ := param_ints Try.underlying24 Try.underlying2 (by kernel_rfl) (by kernel_rfl) hv1 h1
  obtain ⟨a2, rfl, rfl, rfl, w2⟩ := open_int Try.underlying3 hv2 h2
  have hn8 := hd hsz (j := 1) rfl rfl
  by_cases hyes : 1 ≤ a0 ∧ a0 ≤ 16 ∧ 0 ≤ a2 ∧ a2 ≤ 40
  · obtain ⟨y0, y1, y2, y3⟩ := hyes
    obtain ⟨m, rfl⟩ := Int.eq_ofNat_of_zero_le (show 0 ≤ a0 by omega)
    obtain ⟨r, rfl⟩ := Int.eq_ofNat_of_zero_le y2
    exact walk_yes m r zs A n nc W hn8 (by omega) (by omega) (by omega) hA
  · exact walk_no a0 a2 A n nc W (by omega)

/-! ### The row -/
set_option maxRecDepth 100000 in
theorem lifted (os : Os) (started : os.Started) (H : Type) (enc : TypeId × Value → H) :
    ReturnsInHanded {} Try.checked os 8 .any (Rows.dictAgainSpec.pre6 enc Try.prog Try.f8 Rows.dictAgainRow.domain false) (Rows.dictAgainSpec.post enc Try.prog Try.f8 false true false false) := by
  refine returnsInHanded_of_change_sized (C := Try.checked) own started (by kernel_rfl) Try.func8
    (ChangeSpec.witness6 (enc := enc) (C := Try.checked) false ⟨#[], #[.int .i64 0, .slice none 0 0, .int .i64 0], []⟩ 8 (by kernel_rfl) (by kernel_rfl) (by kernel_rfl) (by kernel_rfl)) ?_
  intro W base args ds gs before hval0 hW hcnd hsz0 hholds
  have hval : ∀ (j : Nat) t v, Try.f8.params[j]? = some t → args[j]? = some v → Value.okWide Try.prog W .any base t v := hval0
  have hsz : (DataW.weightsEach Try.prog (Try.f8.params.toList ++ Rows.dictAgainSpec.plain.varTypes Try.prog) (ds ++ gs)).all (· ≤ reachBytes) = true := hsz0
  have hW' := hW
  obtain ⟨p, q, hA0, hV, rfl, hfz, hnd⟩ := hW
  have hA : DataW.TrodAll enc Try.prog W 0 (fun _ => true) true Try.f8.params.toList args.toList ds p := hA0
  obtain ⟨rfl, rfl⟩ := trodVars_none hV
  have hlt : ∀ x ∈ p, x.block < W.heap.size := fun x hx => hW'.lt x (by simpa using hx)
  rw [Try.params8] at hA hval hsz
  obtain ⟨v0, vs0, d0, ds0, p0, q0, hargs, rfl, rfl, h0, r0⟩ := trodAll_cons hA
  obtain ⟨v1, vs1, d1, ds1, p1, q1, rfl, rfl, rfl, h1, r1⟩ := trodAll_cons r0
  obtain ⟨v2, vs2, d2, ds2, p2, q2, rfl, rfl, rfl, h2, r2⟩ := trodAll_cons r1
  obtain ⟨rfl, rfl, rfl⟩ := trodAll_nil r2
  obtain rfl : args = #[v0, v1, v2] := by cases args; simp_all
  clear hA0 hval0 hsz0
  refine (opened enc W base v0 d0 p0 v1 d1 p1 v2 d2 p2 (hval 0 _ v0 rfl rfl) h0 (hval 1 _ v1 rfl rfl) h1 (hval 2 _ v2 rfl rfl) h2 hsz).mono fun e W' ⟨he, bel⟩ => ?_
  subst he
  exact ⟨_, rfl, _, _, _, [], _, [], hW', trodAll_mk1 (shut_bool Try.underlying4 _), Below.trodAll laidOut (by intro t ht; have ht' : t ∈ [3, 24, 3] := ht; clear ht; simp only [List.mem_cons, List.not_mem_nil, or_false] at ht'; rcases ht' with rfl | rfl | rfl <;> exact ⟨by kernel_rfl, of_decide_eq_true (by kernel_rfl)⟩) hA bel hlt, rfl, bel.frame _, fun h => by cases h⟩

theorem over : Rows.dictAgainRow.holds Try.pinned (OpenSpec.ofChange Rows.dictAgainSpec) :=
  OpenClaim.holds_of_wide 8 Try.f8 rfl rfl rfl rfl rfl rfl rfl ⟨rfl, rfl, rfl, rfl, rfl⟩ rfl rfl rfl rfl rfl (by kernel_rfl) Try.func8 (by kernel_rfl)
    (of_decide_eq_true (by kernel_rfl)) (by unfold Func.isWrapper; first | (rw [if_pos (by decide +kernel)]; kernel_rfl) | (rw [if_neg (by decide +kernel)]; exact ⟨rfl, rfl⟩))
    (fun os started H enc _ => lifted os started H enc)

/-- THE STATEMENT -/
theorem proved : Rows.DictAgainSaid := over
#print axioms proved
end Go.Proofs.Ytjggcidaolnmbaa.dictAgain
