/- The document's Numbers; SameNumbers, SameShape of two that are alike; a copy of pairs. -/
import Derived.Test.YtpmpgnhbpneloaaPk
import Derived.BigQuiet
import Derived.Deep.QuietTactic
import Derived.Deep.LoopGhost
import Derived.Deep.DeepMust
namespace Go.Proofs.Ytpmpgnhbpneloaa
open Go.RowKit Go.Joins Go.ChangeShapes Go.WideShapes Go.Deep
set_option linter.unusedVariables false
set_option maxRecDepth 100000

theorem info_num : (Try.prog.info? 2).map (fun i => (i.zero, i.size, i.bytes)) = some (some (.int .i64 0), 1, 8) := by kernel_rfl
theorem ints_take (l : List Int) (k : Nat) (h : k < l.length) : ints (l.take k) ++ [.int .i64 l[k]] = ints (l.take (k + 1)) := by
  rw [List.take_succ_eq_append_getElem h]
  simp only [ints, List.map_append, List.map_cons, List.map_nil]

set_option maxHeartbeats 1000000 in
theorem numbers_any (A : Option Addr) (n c : Nat) (xs : List Int) (w : World) (hn : n * 8 ≤ 140737488351232) (hA : Reads w w.heap.size 1 A n (ints xs)) :
    Calls Try.prog 15 #[.slice A n c] w fun e w' => ∃ v, e = .returned v ∧ w'.ownsRow w.heap.size 2 1 v n (ints xs) ∧ Below w.heap.size w w' := by
  have hlen : xs.length = n := by have := hA.1; simpa [ints] using this
  have HL := Lib.hid hlen
  clear hlen
  obtain ⟨i0, hi, hz0, hz1, hz2⟩ := info_parts info_num
  go_enter Try.func15, Try.ntmps15
  go_wp2
  go_loopg [3, 4] n (fun gk v i wr => ∃ k : Nat, k ≤ n ∧ gk = n - k ∧ i = .int .i64 k ∧ wr.ownsRow w.heap.size 2 1 v k (ints (xs.take k)) ∧ Below w.heap.size w wr)
  case atStart => exact ⟨0, Nat.zero_le _, rfl, rfl, World.ownsRow_nil _ _ _ _, Below.refl _ _⟩
  case round =>
    obtain ⟨k, hk, hgk, rfl, hown, hbel⟩ := hrel
    have HG := Lib.hid hgk
    clear hgk
    by_cases hkn : k < n
    · obtain ⟨b, off, rfl, hb, hc⟩ := (hA.below hbel).flat (by omega)
      have hkl : k < xs.length := by rw [HL.out]; exact hkn
      obtain ⟨V, hV⟩ : ∃ V, V = xs[k] := ⟨_, rfl⟩
      have cx : wr.cell? ⟨b, off + k, none⟩ = some (.int .i64 V) := by rw [hV]; exact hc k _ (ints_at _ _ hkl)
      have HV := Lib.hid hV
      have hc2 : ∀ u ∈ ([.int .i64 V] : List Value), u.oneCell' = true := (by intro u hu; simp at hu; subst hu; rfl)
      have hc3 : k + 1 ≤ maxLen := (by unfold maxLen; omega)
      have hc4 : (k + 1) * 8 ≤ 140737488355328 := (by omega)
      have hc5 : w.heap.size ≤ (wr.alloc (.cells #[.int .i64 V] 2)).heap.size := (by have := hbel.size; simp; omega)
      clear hc hV
      go_wp2_with (at_builtin; go_must (refine wpList_append_own _ rfl _ _ 34 rfl w.heap.size 2 i0 (.int .i64 0) 1 8 Try.underlying34 hi hz0 hz1 hz2 rfl (by decide) _ _ _ rfl (hown.alloc _) ⟨wr.heap.size, 0, none⟩ 1 1 [.int .i64 V] rfl rfl (cell_one_new _ _ _) hc2 hc3 hc4 hc5 ?_; intro v' w1 hown' hgrow _))
      go_roundg (n - (k + 1))
      case measure => have := HG.out; omega
      case rel =>
        refine ⟨k + 1, by omega, rfl, by go_num, ?_, ?_⟩
        · rw [← ints_take xs k hkl, ← HV.out]
          exact hown'
        · exact (hbel.alloc hbel.size _).grown hgrow (by have := hbel.size; simp; omega) (fun q hq => by have := (hown.alloc (.cells #[.int .i64 V] 2)).lt q hq; omega)
    · obtain rfl : k = n := by omega
      have hown2 : wr.ownsRow w.heap.size 2 1 u3 k (ints xs) := by
        have := hown
        rwa [List.take_of_length_le (by rw [HL.out]; exact Nat.le_refl _)] at this
      clear hown
      go_wp2
      go_ret
      exact ⟨_, rfl, hown2, hbel⟩

/-- Two lists that are alike. -/
theorem same_yes (A B : Option Addr) (n c d : Nat) (xs : List Int) (w : World) (BA BB : Nat) (hn : n ≤ 9223372036854775807) (hA : Reads w BA 1 A n (ints xs)) (hB : Reads w BB 1 B n (ints xs)) :
    Calls Try.prog 17 #[.slice A n c, .slice B n d] w fun e w' => e = .returned (.bool true) ∧ ∃ j, w' = w.drewN j := by
  have hlen : xs.length = n := by have := hA.1; simpa [ints] using this
  have HL := Lib.hid hlen
  clear hlen
  have hnn : ((n : Int) != (n : Int)) = false := by simp
  go_enter Try.func17, Try.ntmps17
  go_wp2
  go_loopg [5] n (fun gk i wr => ∃ k j : Nat, k ≤ n ∧ gk = n - k ∧ i = .int .i64 k ∧ wr = w.drewN j)
  case atStart => exact ⟨0, 0, Nat.zero_le _, rfl, rfl, rfl⟩
  case round =>
    obtain ⟨k, j, hk, hgk, rfl, rfl⟩ := hrel
    have HG := Lib.hid hgk
    clear hgk
    by_cases hkn : k < n
    · obtain ⟨b, off, rfl, hb, hc⟩ := hA.flat (by omega)
      obtain ⟨b', off', rfl, hb', hc'⟩ := hB.flat (by omega)
      have hkl : k < xs.length := by rw [HL.out]; exact hkn
      obtain ⟨V, hV⟩ : ∃ V, V = xs[k] := ⟨_, rfl⟩
      have cx : w.cell? ⟨b, off + k, none⟩ = some (.int .i64 V) := by rw [hV]; exact hc k _ (ints_at _ _ hkl)
      have cy : w.cell? ⟨b', off' + k, none⟩ = some (.int .i64 V) := by rw [hV]; exact hc' k _ (ints_at _ _ hkl)
      have hki : (k : Int) < (n : Int) := by omega
      clear hc hc' hV
      go_wp2_with fail
      go_quiet (fail)
      go_wp2
      go_roundg (n - (k + 1))
      case measure => have := HG.out; omega
      case rel => exact ⟨k + 1, _, by omega, rfl, by go_num, rfl⟩
    · go_wp2
      go_ret
      exact ⟨rfl, j, rfl⟩
theorem Reads.flatN {w : World} {B size n : Nat} {A : Option Addr} {xs : List Value} (h : Reads w B size A n xs) (hn : 0 < n) (hs : 0 < size) :
    ∃ b off, A = some ⟨b, off, none⟩ ∧ b < B ∧ ∀ j u, xs[j]? = some u → w.cell? ⟨b, off + j, none⟩ = some u := by
  obtain ⟨ad, rfl, hb, hc⟩ := h.2 hn
  obtain ⟨b, off, spot⟩ := ad
  have hl : 0 < xs.length := by have := h.1; have := Nat.mul_pos hn hs; omega
  have h0 := hc 0 _ (List.getElem?_eq_getElem hl)
  have hs : spot = none := by simpa [Addr.add] using World.cell?_spot h0
  subst hs
  refine ⟨b, off, rfl, hb, fun j u hu => ?_⟩
  have := hc j u hu
  unfold Addr.add at this
  by_cases hj : j = 0
  · subst hj
    simpa using this
  · rw [if_neg hj] at this
    simpa using this

set_option maxHeartbeats 1000000 in
theorem sameshape_yes (K : Int) (V V2 P Q : Option Addr) (nv vc vd n c d : Nat) (vs : List Int) (xs : List (Int × Int)) (w : World) (hnv : nv ≤ 1000) (hn : n ≤ 1000) (hVA : Reads w w.heap.size 1 V nv (ints vs)) (hVB : Reads w w.heap.size 1 V2 nv (ints vs)) (hA : Reads w w.heap.size 2 P n (prs xs)) (hB : Reads w w.heap.size 2 Q n (prs xs)) :
    Calls Try.prog 72 #[.agg #[.int .i64 K, .slice V nv vc, .slice P n c], .agg #[.int .i64 K, .slice V2 nv vd, .slice Q n d]] w fun e w' => e = .returned (.bool true) ∧ Below w.heap.size w w' := by
  have hlen : xs.length = n := by have := hA.1; rw [prs_length] at this; omega
  have HL := Lib.hid hlen
  clear hlen
  have hnn : ((n : Int) != (n : Int)) = false := by simp
  have hkk : (K != K) = false := by simp
  have hbe := Below.refl w.heap.size w
  go_enter Try.func72, Try.ntmps72
  go_wp2_with fail
  refine (same_yes V V2 nv vc vd vs _ w.heap.size w.heap.size (by omega) (by exact (hVA.alloc (Nat.le_refl _) _).alloc (by simp) _) (by exact (hVB.alloc (Nat.le_refl _) _).alloc (by simp) _)).mono ?_
  rintro e w2 ⟨rfl, j0, rfl⟩
  have hBA : Blk (((w.alloc (.cells #[.int .i64 K, .slice V nv vc, .slice P n c] 52)).alloc (.cells #[.int .i64 K, .slice V2 nv vd, .slice Q n d] 52)).drewN j0) w.heap.size 52 #[.int .i64 K, .slice V nv vc, .slice P n c] := ((Blk.new _ _ _).alloc _).drewN _
  have hBB : Blk (((w.alloc (.cells #[.int .i64 K, .slice V nv vc, .slice P n c] 52)).alloc (.cells #[.int .i64 K, .slice V2 nv vd, .slice Q n d] 52)).drewN j0) (w.heap.size + 1) 52 #[.int .i64 K, .slice V2 nv vd, .slice Q n d] := (Blk.new' (by simp)).drewN _
  have hbW : Below w.heap.size w (((w.alloc (.cells #[.int .i64 K, .slice V nv vc, .slice P n c] 52)).alloc (.cells #[.int .i64 K, .slice V2 nv vd, .slice Q n d] 52)).drewN j0) := by repeat (first | with_reducible exact hbe | with_reducible refine Below.drew ?_ | with_reducible refine below_drewN ?_ _ | ((with_reducible refine Below.alloc ?_ ?_ _); (rotate_left; focus (first | with_reducible exact Nat.le_refl _ | omega | (simp; done) | (simp; omega) | (simp [World.setCell]; done) | (simp [World.setCell]; omega)))) | ((with_reducible refine Below.setCell ?_ ?_ _); (rotate_left; focus (first | with_reducible exact Nat.le_refl _ | omega | (simp; done) | (simp; omega) | (simp [World.setCell]; done) | (simp [World.setCell]; omega)))))
  generalize ((w.alloc (.cells #[.int .i64 K, .slice V nv vc, .slice P n c] 52)).alloc (.cells #[.int .i64 K, .slice V2 nv vd, .slice Q n d] 52)).drewN j0 = W1 at *
  have a0 : W1.cell? ⟨w.heap.size, 0, none⟩ = some (.int .i64 K) := (hBA.cell 0).trans rfl
  have a2 : W1.cell? ⟨w.heap.size, 2, none⟩ = some (.slice P n c) := (hBA.cell 2).trans rfl
  have b0 : W1.cell? ⟨w.heap.size + 1, 0, none⟩ = some (.int .i64 K) := (hBB.cell 0).trans rfl
  have b2 : W1.cell? ⟨w.heap.size + 1, 2, none⟩ = some (.slice Q n d) := (hBB.cell 2).trans rfl
  go_wp2_with fail
  go_loopg [6] n (fun gk i wr => ∃ k j : Nat, k ≤ n ∧ gk = n - k ∧ i = .int .i64 k ∧ wr = W1.drewN j)
  case atStart => exact ⟨0, 0, Nat.zero_le _, rfl, rfl, rfl⟩
  case round =>
    obtain ⟨k, j, hk, hgk, rfl, rfl⟩ := hrel
    have HG := Lib.hid hgk
    clear hgk
    by_cases hkn : k < n
    · obtain ⟨b, off, rfl, hb, hc⟩ := (hA.below hbW).flatN (by omega) (by omega)
      obtain ⟨b', off', rfl, hb', hc'⟩ := (hB.below hbW).flatN (by omega) (by omega)
      have hkl : k < xs.length := by rw [HL.out]; exact hkn
      obtain ⟨X, Y, hXY⟩ : ∃ X Y, (X, Y) = xs[k] := ⟨_, _, rfl⟩
      have px0 := prs_at xs k 0 hkl (by omega)
      have px1 := prs_at xs k 1 hkl (by omega)
      rw [← hXY] at px0 px1
      have cx0 : W1.cell? ⟨b, off + k * 2, none⟩ = some (.int .i64 X) := hc _ _ px0
      have cx1 : W1.cell? ⟨b, off + k * 2 + 1, none⟩ = some (.int .i64 Y) := hc _ _ px1
      have cy0 : W1.cell? ⟨b', off' + k * 2, none⟩ = some (.int .i64 X) := hc' _ _ px0
      have cy1 : W1.cell? ⟨b', off' + k * 2 + 1, none⟩ = some (.int .i64 Y) := hc' _ _ px1
      have hki : (k : Int) < (n : Int) := by omega
      have hkt : decide ((k : Int) < (n : Int)) = true := by simp; omega
      clear hc hc' hXY px0 px1
      go_wp2_with fail
      go_quiet (fail)
      go_wp2_with fail
      go_roundg (n - (k + 1))
      case measure => have := HG.out; omega
      case rel => exact ⟨k + 1, _, by omega, rfl, by go_num, rfl⟩
    · have hkt : decide ((k : Int) < (n : Int)) = false := by simp; omega
      go_wp2_with fail
      go_ret
      exact ⟨rfl, below_drewN hbW _⟩

theorem run_copy_rows {P : Program} (w : World) (dT sT ty elem : TypeId) (size : Nat) (g o dLen dCap : Nat) (a : Addr) (sLen sCap : Nat) (cur : Array Value) (t : TypeId) (cs : List Value)
    (hu : P.underlying dT = some (.slice elem)) (hs : (P.info? elem).map (·.size) = some size) (hg : w.heap[g]? = some (.cells cur t (0, 0))) (hn : cs.length = Nat.min sLen dLen * size)
    (hsrc : ∀ j v, cs[j]? = some v → w.cell? (a.add j) = some v) (hfit : o + cs.length ≤ cur.size) (h1 : ∀ v ∈ cs, v.oneCell' = true) :
    (Builtin.copy_ #[dT, sT] ty #[.slice (some ⟨g, o, none⟩) dLen dCap, .slice (some a) sLen sCap]).run P w =
      .ok (goInt (Nat.min sLen dLen)) (w.setRow g (cur.toList.take o ++ cs ++ cur.toList.drop (o + cs.length)).toArray) := by
  have hl := run_loadCells_list (P := P) w a cs hsrc
  have hst := run_storeCells_at P g o t cs 0 cur w hg (by simpa using hfit) h1
  cases hq : P.info? elem with
  | none => simp [hq] at hs
  | some i =>
    have hi : i.size = size := by simpa [hq] using hs
    simp [Builtin.copy_, run_underlying hu, Builtin.lenOf, Builtin.firstCells, sizeOf, typeInfo, hq, hi, ← hn, hl, hst]
theorem run_copy_none2 {P : Program} (w : World) (dT sT ty elem : TypeId) (d a : Option Addr) (dLen dCap sLen sCap : Nat) (i : TypeInfo) (hu : P.underlying dT = some (.slice elem)) (hq : P.info? elem = some i) (hn : Nat.min sLen dLen = 0) :
    (Builtin.copy_ #[dT, sT] ty #[.slice d dLen dCap, .slice a sLen sCap]).run P w = .ok (goInt 0) w := by
  have hl : ∀ (x : Addr), (loadCells x 0).run P w = .ok #[] w := fun x => by simpa using run_loadCells_list (P := P) w x [] (by simp)
  cases d <;> cases a <;> simp [Builtin.copy_, run_underlying hu, Builtin.lenOf, Builtin.firstCells, sizeOf, typeInfo, hq, hn, storeCells, hl]
theorem info_prd0 : (Try.prog.info? 54).map (fun i => (i.zero, i.size, i.bytes)) = some (some (.agg #[.int .i64 0, .int .i64 0]), 2, 16) := by kernel_rfl
theorem copiedp_any (A : Option Addr) (n nc B : Nat) (zs : List (Int × Int)) (w : World) (hn : n ≤ 1024) (hB : B ≤ w.heap.size) (hA : Reads w B 2 A n (prs zs)) :
    Calls Try.prog 26 #[.slice A n nc] w fun e w' => e = .returned (.slice (some ⟨w.heap.size, 0, none⟩) n n) ∧ Blk w' w.heap.size 54 (prs zs).toArray ∧ Below w.heap.size w w' := by
  have hl : (prs zs).length = n * 2 := hA.1
  obtain ⟨i, hi, hz, hs, hb⟩ := info_parts info_prd0
  obtain ⟨M, hM⟩ : ∃ M, M = madeCells (Value.agg #[.int .i64 0, .int .i64 0]).cells (n * 2) := ⟨_, rfl⟩
  have hMs : M.size = n * 2 := by rw [hM]; simp [size_madeCells, madeCells]
  have hmk : (Instr.makeSlice 50 (.int .i64 (n : Int)) (.int .i64 (n : Int))).run Try.prog w = .ok (.slice (some ⟨w.heap.size, 0, none⟩) n n) (w.alloc (.cells M 54)) := by
    have hr := run_make (P := Try.prog) w 50 54 i _ Try.underlying50 hi hz .i64 .i64 (n : Int) (n : Int) (by omega) (by omega) (by rw [hb]; omega) (by omega)
    rw [hs, Int.toNat_natCast] at hr
    rw [hM]
    exact hr
  have hcp : ∃ w2, (∀ ty, (Builtin.copy_ #[50, 50] ty #[.slice (some ⟨w.heap.size, 0, none⟩) n n, .slice A n nc]).run Try.prog (w.alloc (.cells M 54)) = .ok (goInt n) w2) ∧ Blk w2 w.heap.size 54 (prs zs).toArray ∧ Below w.heap.size w w2 := by
    by_cases h0 : n = 0
    · subst h0
      have hzs : prs zs = [] := List.eq_nil_of_length_eq_zero (by omega)
      refine ⟨_, fun ty => run_copy_none2 _ _ _ ty 54 _ _ _ _ _ _ i Try.underlying50 hi (by simp), ?_, below_new⟩
      rw [hzs]
      have : M = #[] := Array.eq_empty_of_size_eq_zero (by omega)
      rw [this]
      exact Blk.new _ _ _
    · obtain ⟨ad, rfl, hb, hcell⟩ := hA.2 (by omega)
      refine ⟨(w.alloc (.cells M 54)).setRow w.heap.size (prs zs).toArray, fun ty => ?_, ?_, ?_⟩
      · have h := run_copy_rows (P := Try.prog) (w.alloc (.cells M 54)) 50 50 ty 54 2 w.heap.size 0 n n ad n nc _ _ (prs zs) Try.underlying50 (by rw [hi, Option.map_some, hs]) (Blk.new w _ _) (by rw [hl]; simp) (fun j v hj => by
          rw [World.cell?_alloc_lt w _ _ (by rw [block_of_add]; omega)]; exact hcell j v hj) (by rw [hMs, hl]; omega) (by intro v hv; simp [prs, rows, prc] at hv; obtain ⟨a, b, _, h⟩ := hv; rcases h with rfl | rfl <;> rfl)
        rw [h]
        congr 2
        · simp
        · simp [hMs, hl]
      · exact setRow_heap (w.alloc (.cells M 54)) w.heap.size _ (prs zs).toArray _ _ (Blk.new w 54 M)
      · refine ⟨rfl, rfl, rfl, by simp [World.setRow], fun q hq => ?_⟩
        have : ((w.alloc (.cells M 54)).setRow w.heap.size (prs zs).toArray).heap[q]? = (w.alloc (.cells M 54)).heap[q]? := by
          simp only [World.setRow, Array.getElem?_modify]
          rw [if_neg (by omega)]
        exact this.trans (Below.heap_alloc w _ q hq)
  obtain ⟨w2, hcp, hb2, hbel⟩ := hcp
  have HB := Lib.hid hb2
  have HBEL := Lib.hid hbel
  clear hA hb2 hbel hM hMs hl
  go_enter Try.func26, Try.ntmps26
  go_wp2_with fail
  go_ret
  exact ⟨rfl, HB.out, HBEL.out⟩
end Go.Proofs.Ytpmpgnhbpneloaa
