/- Beginnings of a history; what an order of it tells of stamps. -/
import Derived.Test.YtffjcojehiblnaaDoorPt
import Derived.Test.YtffjcojehiblnaaDoorPj
import Derived.Deep.CutRange
import Derived.BigGuardPart
import Derived.Laws.OwnMore
import Derived.Laws.MakeOwn
namespace Go.Proofs.YtffjcojehiblnaaDoor
open Go.RowKit Go.Joins Go.ChangeShapes Go.WideShapes Go.Deep
set_option linter.unusedVariables false
set_option linter.unusedSimpArgs false
set_option maxRecDepth 100000

theorem read_bound : ∀ (l : List Ev) (b : Book) (i k : Nat), readF b i l = .error k → i ≤ k ∧ k < i + l.length
  | [], b, i, k, h => by cases h
  | e :: r, b, i, k, h => by
    unfold readF at h
    cases hn : nextF b e with
    | none =>
      rw [hn] at h
      injection h with h
      subst h
      exact ⟨Nat.le_refl _, by simp⟩
    | some b1 =>
      rw [hn] at h
      have := read_bound r b1 (i + 1) k h
      simp only [List.length_cons]
      omega
theorem readF_app : ∀ (x : List Ev) (b : Book) (i : Nat) (y : List Ev), readF b i (x ++ y) = match readF b i x with
    | .ok b' => readF b' (i + x.length) y
    | .error k => .error k
  | [], b, i, y => by simp [readF]
  | e :: r, b, i, y => by
    rw [List.cons_append]
    have e1 : ∀ z, readF b i (e :: z) = match nextF b e with
      | none => .error i
      | some b' => readF b' (i + 1) z := fun _ => rfl
    rw [e1, e1]
    cases hn : nextF b e with
    | none => rfl
    | some b1 =>
      simp only
      rw [readF_app r b1 (i + 1) y, List.length_cons, show i + 1 + r.length = i + (r.length + 1) by omega]
/-- How far a list of events is a history. -/
structure Whole (l : List Ev) (q : Nat) : Prop where
  le : q ≤ l.length
  good : ∀ j, j ≤ q → ∃ b, readF book0 0 (l.take j) = .ok b
  bad : ∀ j, q < j → j ≤ l.length → readF book0 0 (l.take j) = .error q
theorem whole_ok {l : List Ev} {b : Book} (h : readF book0 0 l = .ok b) : Whole l l.length := by
  refine ⟨Nat.le_refl _, fun j hj => ?_, fun j h1 h2 => absurd h1 (by omega)⟩
  have := readF_app (l.take j) book0 0 (l.drop j)
  rw [List.take_append_drop, h] at this
  cases hx : readF book0 0 (l.take j) with
  | ok b' => exact ⟨b', rfl⟩
  | error k => rw [hx] at this; cases this
theorem whole_bad {l : List Ev} {k : Nat} (h : readF book0 0 l = .error k) : Whole l k := by
  have hb := read_bound l book0 0 k h
  have key : ∀ j, j ≤ l.length → (∃ b, readF book0 0 (l.take j) = .ok b ∧ j ≤ k) ∨ (readF book0 0 (l.take j) = .error k ∧ k < j) := by
    intro j hj
    have := readF_app (l.take j) book0 0 (l.drop j)
    rw [List.take_append_drop, h] at this
    cases hx : readF book0 0 (l.take j) with
    | ok b' =>
      rw [hx] at this
      have h2 := read_bound _ _ _ _ this.symm
      rw [List.length_take] at h2
      exact .inl ⟨b', rfl, by omega⟩
    | error k' =>
      rw [hx] at this
      injection this with this
      subst this
      have h2 := read_bound _ _ _ _ hx
      rw [List.length_take] at h2
      exact .inr ⟨rfl, by omega⟩
  refine ⟨by omega, fun j hj => ?_, fun j h1 h2 => ?_⟩
  · rcases key j (by omega) with ⟨b, h1, _⟩ | ⟨_, h2⟩
    · exact ⟨b, h1⟩
    · omega
  · rcases key j h2 with ⟨b, _, h3⟩ | ⟨h3, _⟩
    · omega
    · exact h3
theorem reads_take {w : World} {B n j : Nat} {A : Option Addr} {l : List Ev} (h : Reads w B 19 A n (evs l)) (hl : l.length = n) (hj : j ≤ n) : Reads w B 19 A j (evs (l.take j)) := by
  refine ⟨by rw [evs_length, List.length_take]; omega, fun h0 => ?_⟩
  obtain ⟨ad, h1, h2, h3⟩ := h.2 (by omega)
  refine ⟨ad, h1, h2, fun i u hu => h3 i u ?_⟩
  have e : evs l = evs (l.take j) ++ evs (l.drop j) := by
    have := List.flatMap_append (xs := l.take j) (ys := l.drop j) (f := Ev.cells)
    rw [List.take_append_drop] at this
    exact this
  rw [e, List.getElem?_append_left (List.getElem?_eq_some_iff.1 hu).1]
  exact hu
/-- The stamp that came last among the first ones of an order. -/
def LastOK (ts : List TxP) (L : List Nat) (i : Nat) (last : Int) : Prop := last = 0 ∨ ∃ j, ∃ h : j < L.length, j < i ∧ (ts.getD L[j] t00).stamp = last ∧ last ≠ 0
theorem last_step {b : Book} {L : List Nat} (I : StInv b) (hp : L.Pairwise (Lx (ltc (ordF b.l)))) (hm : L.Perm (List.range b.l.length)) {i : Nat} (hi : i < L.length) {last : Int} (h : LastOK b.l L i last) (hs : (b.l.getD L[i] t00).stamp ≠ 0) : last < (b.l.getD L[i] t00).stamp := by
  have hlt : ∀ j (hj : j < L.length), L[j] < b.l.length := fun j hj => by
    have := hm.subset (List.getElem_mem hj)
    rwa [List.mem_range] at this
  have hg : ∀ j (hj : j < L.length), b.l.getD L[j] t00 = b.l[L[j]]'(hlt j hj) := fun j hj => by
    rw [List.getD_eq_getElem?_getD, List.getElem?_eq_getElem (hlt j hj)]; rfl
  have r1 := I.rng _ (List.getElem_mem (hlt i hi))
  rw [← hg i hi] at r1
  rcases h with h | ⟨j, hj, hji, h1, h2⟩
  · omega
  · have hx := List.pairwise_iff_getElem.1 hp j i hj hi hji
    have hnd : L.Nodup := hm.nodup_iff.2 List.nodup_range
    have hne : L[j] ≠ L[i] := List.pairwise_iff_getElem.1 hnd j i hj hi hji
    have hst : (b.l.getD L[j] t00).stamp ≠ (b.l.getD L[i] t00).stamp := by
      rw [hg j hj, hg i hi]
      have a1 : (b.l[L[j]]'(hlt j hj)).stamp ≠ 0 := by rw [← hg j hj]; omega
      have a2 : (b.l[L[i]]'(hlt i hi)).stamp ≠ 0 := by rw [← hg i hi]; exact hs
      rcases Nat.lt_or_gt_of_ne hne with h | h
      · have := List.pairwise_iff_getElem.1 I.ne _ _ (hlt j hj) (hlt i hi) h
        omega
      · have := List.pairwise_iff_getElem.1 I.ne _ _ (hlt i hi) (hlt j hj) h
        omega
    have p1 : ∀ x y : TxP, x.stamp ≠ 0 → y.stamp ≠ 0 → (placesF x y < 0 ↔ x.stamp < y.stamp) := by
      intro x y hx hy
      rw [places_lt]
      unfold place1 place2
      rw [if_neg hx, if_neg hy, if_neg hx, if_neg hy]
      omega
    have s1 : (b.l.getD L[j] t00).stamp ≠ 0 := by omega
    rcases hx with hx | ⟨hx, _⟩
    · have : (b.l.getD L[j] t00).stamp < (b.l.getD L[i] t00).stamp := (p1 _ _ s1 hs).1 hx
      omega
    · have : ¬ (b.l.getD L[i] t00).stamp < (b.l.getD L[j] t00).stamp := fun hh => hx ((p1 _ _ hs s1).2 hh)
      omega
theorem last_next {ts : List TxP} {L : List Nat} {i : Nat} (hi : i < L.length) {last : Int} (h : LastOK ts L i last) : LastOK ts L (i + 1) (if (ts.getD L[i] t00).stamp = 0 then last else (ts.getD L[i] t00).stamp) := by
  split
  · rcases h with h | ⟨j, hj, hji, h1, h2⟩
    · exact .inl h
    · exact .inr ⟨j, hj, by omega, h1, h2⟩
  · next hs => exact .inr ⟨i, hi, by omega, rfl, hs⟩
end Go.Proofs.YtffjcojehiblnaaDoor

/- The law of HistorySteps, behind shown. -/
namespace Go.Proofs.YtffjcojehiblnaaDoor
open Go.RowKit Go.Joins Go.ChangeShapes Go.WideShapes Go.Deep
set_option linter.unusedVariables false
set_option linter.unusedSimpArgs false
set_option maxRecDepth 100000

theorem wpList_slice_g {P : Program} {ops : Array Oper} {rest : List Oper} {o : Oper} {a : Act} {Q : Exit → Act → World → Prop} {w : World} {u v : Value} {lv hv : Option Value} (hgd : o.guard = none) (t : TypeId) (x : Operand) (lo hi : Option Operand)
    (ho : o.op = .slice t x lo hi none) (hx : a.eval x = u) (hlo : lo.map a.eval = lv) (hhi : hi.map a.eval = hv) (hrun : ∀ w, (Instr.sliceAt t u lv hv none).run P w = .ok v w)
    (h : wpList P ops Q rest (a.put o.dst v) w) : wpList P ops Q (o :: rest) a w := by
  refine wpList_plain hgd fun K hK => ?_
  unfold Oper.wp
  simp only [execOp, ho, hx, hlo, hhi, Option.map_none, Sem.run_bind, hrun, Sem.run_pure, Result.andThen_ok]
  exact hK _ _ h
theorem info_bool : (Tryd.prog.info? 4).map (fun i => (i.zero, i.size, i.bytes)) = some (some (.bool false), 1, 1) := by kernel_rfl
theorem slice_evs (A : Option Addr) (n nc j : Nat) (h1 : j ≤ nc) (W : World) : (Instr.sliceAt 22 (.slice A n nc) none (some (.int .i64 j)) none).run Tryd.prog W = .ok (.slice A j nc) W := by
  have e1 : (0 : Int) ≤ (j : Int) := by omega
  have e2 : (j : Int) ≤ (nc : Int) := by omega
  cases A with
  | none => go_simp
  | some a =>
    go_simp
theorem made_bools (n x : Nat) (h : x < n) : (madeCells #[.bool false] n)[x]? = some (.bool false) := by
  rw [← Array.getElem?_toList, toList_madeCells_one, List.getElem?_replicate, if_pos h]
theorem made_size (n : Nat) : (madeCells #[.bool false] n).size = n := by rw [← Array.length_toList, toList_madeCells_one, List.length_replicate]
/-- Which numbers have come. -/
def SeenOK (w : World) (sb m i : Nat) (L : List Nat) : Prop := ∃ cs, Blk w sb 4 cs ∧ cs.size = m ∧ ∀ x, x < m → cs[x]? = some (.bool (decide (x ∈ L.take i)))
theorem SeenOK.set {w : World} {sb m i : Nat} {L : List Nat} (h : SeenOK w sb m i L) (hi : i < L.length) (hv : L[i] < m) : SeenOK (w.setCell ⟨sb, L[i], none⟩ (.bool true)) sb m (i + 1) L := by
  obtain ⟨cs, hb, hs, hc⟩ := h
  refine ⟨_, hb.set_ _ _, by simpa using hs, fun x hx => ?_⟩
  have hm : x ∈ L.take (i + 1) ↔ x ∈ L.take i ∨ x = L[i] := by
    rw [List.take_succ_eq_append_getElem hi]
    simp only [List.mem_append, List.mem_singleton]
  rw [Array.getElem?_setIfInBounds]
  by_cases h1 : L[i] = x
  · rw [if_pos h1, if_pos (by omega), decide_eq_true (hm.2 (.inr h1.symm))]
  · rw [if_neg h1, hc x hx]
    congr 2
    exact decide_eq_decide.2 ⟨fun h => hm.2 (.inl h), fun h => (hm.1 h).resolve_right fun e => h1 e.symm⟩

set_option maxHeartbeats 3000000 in
theorem law_steps (A : Option Addr) (n nc : Nat) (l : List Ev) (p : Addr) (w : World) (hl : l.length = n) (hn : n * 152 ≤ 140737488351232) (hnc : n ≤ nc) (hR : Reads w w.heap.size 19 A n (evs l)) (hE : LaidAt w p) (hsh : ∀ W, LaidAt W p → Calls Tryd.prog 5 #[] W (SaysTrue W)) :
    Calls Tryd.prog 4 #[.slice A n nc] w (SaysTrue w) := by
  have hn8 : n ≤ 925904528640 := by omega
  have HSH := Lib.hid (hsh w hE)
  have h2 := hE.lt
  have HRD : ∀ W, Below w.heap.size w W → Reads W W.heap.size 19 A n (evs l) := fun W hW => (hR.below hW).more hW.size
  have HLD : ∀ W, Below w.heap.size w W → LaidAt W p := fun W hW => hE.below hW (by omega)
  obtain ⟨q, e0, at0, hwh, hcase, HT0⟩ : ∃ (q : Nat) (e0 at0 : Int), Whole l q ∧ (e0 = 0 ∧ q = n ∨ e0 = 14 ∧ at0 = q) ∧ Hid (∀ W, Below w.heap.size w W → Calls Tryd.prog 6 #[.slice A n nc] W fun r w' => ∃ ov, r = .returned (.tuple #[ov, .int .i64 e0, .int .i64 at0]) ∧ Below W.heap.size W w') := by
    cases hrd : readF book0 0 l with
    | ok b => exact ⟨n, 0, 0, hl ▸ whole_ok hrd, .inl ⟨rfl, rfl⟩, Lib.hid fun W hW => (txs_good A n nc l p b W hl hn (HRD W hW) (HLD W hW) hrd (by have := (read_small0 hrd).1.l; omega)).mono fun r w' ⟨ov, hr, _, hb⟩ => ⟨ov, hr, hb⟩⟩
    | error k => exact ⟨k, 14, k, whole_bad hrd, .inr ⟨rfl, rfl⟩, Lib.hid fun W hW => (txs_bad A n nc l p k W hl hn (HRD W hW) (HLD W hW) hrd).mono fun r w' ⟨hr, hb⟩ => ⟨_, hr, hb⟩⟩
  have hqn : q ≤ n := by have := hwh.le; omega
  have htl : ∀ j, j ≤ n → (l.take j).length = j := fun j hj => by rw [List.length_take]; omega
  have HG : Hid (∀ (W : World) (j : Nat), Below w.heap.size w W → j ≤ q → ∃ b, StInv b ∧ b.l.length ≤ n ∧ (Calls Tryd.prog 6 #[.slice A j nc] W fun r w' => ∃ ov, r = .returned (.tuple #[ov, .int .i64 0, .int .i64 0]) ∧ w'.ownsRow W.heap.size 42 6 ov b.l.length (txzs (b.l.map TxP.z)) ∧ Below W.heap.size W w') ∧
      ∀ W', Below w.heap.size w W' → Calls Tryd.prog 9 #[.slice A j nc] W' (OrderPost W' b)) := Lib.hid fun W j hW hj => by
    obtain ⟨b, hb⟩ := hwh.good j hj
    have hbl : b.l.length ≤ j := by have := (read_small0 hb).1.l; rwa [htl j (by omega)] at this
    exact ⟨b, st_read0 hb, by omega, txs_good A j nc (l.take j) p b W (htl j (by omega)) (by omega) (reads_take (HRD W hW) hl (by omega)) (HLD W hW) hb hbl, fun W' hW' => order_good A j nc (l.take j) p b W' (htl j (by omega)) (by omega) (reads_take (HRD W' hW') hl (by omega)) (HLD W' hW') hb hbl⟩
  have HBAD : Hid (∀ (W : World) (j : Nat), Below w.heap.size w W → q < j → j ≤ n → Calls Tryd.prog 6 #[.slice A j nc] W fun r w' => r = .returned (.tuple #[.slice none 0 0, .int .i64 14, .int .i64 q]) ∧ Below W.heap.size W w') := Lib.hid fun W j hW hj hjn =>
    txs_bad A j nc (l.take j) p q W (htl j hjn) (by omega) (reads_take (HRD W hW) hl hjn) (HLD W hW) (hwh.bad j hj (by omega))
  have HSL : Hid (∀ (j : Nat), j ≤ n → ∀ W : World, (Instr.sliceAt 22 (.slice A n nc) none (some (.int .i64 j)) none).run Tryd.prog W = .ok (.slice A j nc) W) := Lib.hid fun j hj W => slice_evs A n nc j (by omega) W
  have HCASE := Lib.hid hcase
  clear hR hE hsh HRD HLD hwh htl hl hn hcase
  go_enter Tryd.func4, Tryd.ntmps4
  go_upto_if 28 with (first
    | (go_at_call 5; refine HSH.out.mono ?_; rintro r w1 ⟨hr, hb1⟩; subst hr)
    | (go_at_call 6; refine (HT0.out _ hb1).mono ?_; rintro r w2 ⟨ov0, hr, hb2⟩; subst hr; (have hb12 := hb1.trans (hb2.mono hb1.size))))
  go_cut [7] from 28 to 29 (fun v wc => v = .int .i64 q ∧ wc = w2)
  case first =>
    rcases HCASE.out with ⟨h1, h3⟩ | ⟨h1, h3⟩
    · subst h1
      go_wp2_with fail
      go_meet
      case rel => exact ⟨by rw [h3], rfl⟩
    · subst h1
      have HK := Lib.hid h3
      clear h3
      go_wp2_with fail
      go_meet
      case rel => exact ⟨by rw [HK.out], rfl⟩
  case rest =>
    obtain ⟨rfl, rfl⟩ := hcut
    have HB12 := Lib.hid hb12
    clear hb12 hb2 hb1
    have d1 : decide ((q : Int) < 0) = false := decide_eq_false (by omega)
    have d2 : decide ((n : Int) < (q : Int)) = false := decide_eq_false (by omega)
    have d3 : decide (n < q) = false := decide_eq_false (by omega)
    go_wp2_with fail
    go_loopg [8] (n + 1) (fun gk jv wr => ∃ j : Nat, jv = .int .i64 j ∧ j ≤ n + 1 ∧ gk = n + 1 - j ∧ Below w.heap.size w wr)
    case atStart => exact ⟨0, rfl, Nat.zero_le _, rfl, HB12.out⟩
    case round =>
      clear HB12 d1 d2 d3
      obtain ⟨wo, rfl⟩ : ∃ wo, wo = wr := ⟨_, rfl⟩
      obtain ⟨j, rfl, hjn, hgk, hbel⟩ := hrel
      have HGK := Lib.hid hgk
      have HBE := Lib.hid hbel
      clear hgk hbel
      have hj8 : (j : Int) + 1 ≤ 9223372036854775807 := by omega
      by_cases hj : j ≤ n
      · have c1 : decide ((j : Int) ≤ (n : Int)) = true := decide_eq_true (by omega)
        have HSLJ := Lib.hid (HSL.out j hj)
        by_cases hjq : j ≤ q
        · have c2 : decide ((j : Int) ≤ (q : Int)) = true := decide_eq_true (by omega)
          have c3 : decide ((q : Int) < (j : Int)) = false := decide_eq_false (by omega)
          have c3n : decide (q < j) = false := decide_eq_false (by omega)
          have c2n : decide (j ≤ q) = true := decide_eq_true hjq
          obtain ⟨b, hst, hbl, hT, hO⟩ := HG.out wo j HBE.out hjq
          have HT := Lib.hid hT
          have HO := Lib.hid hO
          have HST := Lib.hid hst
          clear hT hO hst
          by_cases hje : j = q
          · subst hje
            have c4 : ((j : Int) != (j : Int)) = false := by simp
            obtain ⟨m, hm⟩ : ∃ m, m = b.l.length := ⟨_, rfl⟩
            have hm8 : m ≤ 925904528640 := by omega
            have HM := Lib.hid hm
            rw [← hm] at HT
            have c6 : ((m : Int) != (m : Int)) = false := by simp
            obtain ⟨i0, hi0, hz0, hz1, hz2⟩ := info_parts info_bool
            have HMK : Hid (∀ W : World, (Instr.makeSlice 40 (.int .i64 (m : Int)) (.int .i64 (m : Int))).run Tryd.prog W = .ok (.slice (some ⟨W.heap.size, 0, none⟩) m m) (W.alloc (.cells (madeCells #[.bool false] m) 4))) := Lib.hid fun W => by
              have := run_make (P := Tryd.prog) W 40 4 i0 _ Tryd.underlying40 hi0 hz0 .i64 .i64 m m (by omega) (Int.le_refl _) (by rw [hz2]; omega) (by omega)
              rw [hz1, Int.toNat_natCast, Nat.mul_one] at this
              exact this
            clear hm hi0 hz0 hz1 hz2 hbl
            clear i0
            go_upto_region 11 with fail
            go_wp2_with (refine wpList_slice_g rfl 22 (.tmp 45) none (some (.tmp 46)) rfl rfl rfl rfl HSLJ.out ?_)
            refine HT.out.mono ?_
            rintro r w3 ⟨ov, hr, hown3, hb3⟩
            subst hr
            obtain ⟨R3, c3', hv3, _, hR3⟩ := own_shapes hown3
            subst hv3
            have hb13 := HBE.out.trans (hb3.mono HBE.out.size)
            have HR3 := Lib.hid hR3
            have HB13 := Lib.hid hb13
            clear hown3 hR3 hb3 hb13
            go_upto_region 15 with fail
            go_wp2_with (refine wpList_slice_g rfl 22 (.tmp 82) none (some (.tmp 83)) rfl rfl rfl rfl HSLJ.out ?_)
            refine (HO.out _ HB13.out).mono ?_
            rintro r w4 ⟨R4, c4', L, hr, q1, q2, hR4, hb4⟩
            subst hr
            rw [← HM.out] at hR4 ⊢
            have HR4 := Lib.hid hR4
            have HB4 := Lib.hid hb4
            have HQ1 := Lib.hid q1
            have HQ2 := Lib.hid q2
            clear hR4 hb4 q1 q2
            go_upto_region 18 with fail
            go_wp2_with (refine wpList_make_wide rfl 40 (.tmp 98) (.tmp 98) rfl rfl rfl (HMK.out _) ?_)
            have hlen : L.length = m := by have := HQ2.out.length_eq; rw [HM.out]; simpa using this
            have hLm : ∀ x (hx : x < L.length), L[x] < m := fun x hx => by
              have := HQ2.out.subset (List.getElem_mem hx)
              rw [List.mem_range] at this
              rw [HM.out]
              exact this
            have hSE : SeenOK (w4.alloc (.cells (madeCells #[.bool false] m) 4)) w4.heap.size m 0 L := ⟨_, Blk.new w4 _ _, made_size m, fun x hx => by rw [made_bools m x hx]; simp⟩
            have hbA : Below w4.heap.size w4 (w4.alloc (.cells (madeCells #[.bool false] m) 4)) := Below.alloc (Below.refl _ _) (Nat.le_refl _) _
            have HLEN := Lib.hid hlen
            have HLM := Lib.hid hLm
            have HSE := Lib.hid hSE
            have HBA := Lib.hid hbA
            have hw3 : w.heap.size ≤ w3.heap.size := HB13.out.size
            have hw4 : w3.heap.size ≤ w4.heap.size := HB4.out.size
            clear hlen hLm hSE hbA HT HO HMK HSLJ HG HBAD HSL
            obtain ⟨sb, hsb⟩ : ∃ sb, sb = w4.heap.size := ⟨_, rfl⟩
            rw [← hsb] at HSE HBA ⊢
            have HSB := Lib.hid hsb
            clear hsb
            generalize w4.alloc (.cells (madeCells #[.bool false] m) 4) = W4 at *
            go_loopg [15, 16] m (fun gk lv iv wy => ∃ (i : Nat) (last : Int), lv = .int .i64 last ∧ iv = .int .i64 i ∧ i ≤ m ∧ gk = m - i ∧ LastOK b.l L i last ∧ SeenOK wy sb m i L ∧ Below sb w4 wy)
            case atStart => exact ⟨0, 0, rfl, rfl, Nat.zero_le _, rfl, .inl rfl, HSE.out, HBA.out⟩
            case round =>
              obtain ⟨i, last, rfl, rfl, him, hgi, hla, hse, hby⟩ := hrel
              have HGI := Lib.hid hgi
              have HLA := Lib.hid hla
              have HSY := Lib.hid hse
              have HBY := Lib.hid hby
              have hi8 : (i : Int) + 1 ≤ 9223372036854775807 := by omega
              clear hgi hla hse hby HSE HBA
              by_cases hi : i < m
              · have hiL : i < L.length := by rw [HLEN.out]; exact hi
                obtain ⟨v, hv⟩ : ∃ v, v = L[i] := ⟨_, rfl⟩
                have hvm : v < m := by rw [hv]; exact HLM.out i hiL
                have hvb : v < b.l.length := by have := HM.out; omega
                obtain ⟨tb, to_, rfl, htb, htc⟩ := reads_flat HR3.out (by omega) (by decide)
                obtain ⟨ob, oo, rfl, hob, hoc⟩ := reads_flat HR4.out (by omega) (by decide)
                have hsb := HSB.out
                have hoc' : wr.cell? ⟨ob, oo + i, none⟩ = some (.int .i64 v) := (HBY.out.cell (p := ⟨ob, oo + i, none⟩) (by show ob < sb; omega)).trans (by rw [hoc i _ (natV_at L hiL), hv])
                obtain ⟨s, hs⟩ : ∃ s, s = (b.l[v]).stamp := ⟨_, rfl⟩
                have h34 : w4.cell? ⟨tb, to_ + v * 6 + 3, none⟩ = some (.int .i64 s) := (HB4.out.cell (p := ⟨tb, to_ + v * 6 + 3, none⟩) htb).trans (by
                  have := txz_at htc (k := v) (by simpa using hvb) 3 (.int .i64 s) (by simp [TxZ.cells, TxP.z, hs])
                  exact this)
                have htc' : wr.cell? ⟨tb, to_ + v * 6 + 3, none⟩ = some (.int .i64 s) := (HBY.out.cell (p := ⟨tb, to_ + v * 6 + 3, none⟩) (by show tb < sb; omega)).trans h34
                have hnd : L.Nodup := HQ2.out.nodup_iff.2 List.nodup_range
                have hvn : v ∉ L.take i := by
                  rw [hv]
                  intro hh
                  obtain ⟨x, hx, hxe⟩ := List.getElem_of_mem hh
                  rw [List.getElem_take] at hxe
                  rw [List.length_take] at hx
                  exact List.pairwise_iff_getElem.1 hnd x i (by omega) hiL (by omega) hxe
                obtain ⟨cs, hcb, hcsz, hcc⟩ := HSY.out
                have hsc : wr.cell? ⟨sb, v, none⟩ = some (.bool false) := (hcb.cell v).trans (by rw [hcc v hvm, decide_eq_false hvn])
                have hsf := hcb.frozen v
                have hsl := hcb.lt
                have hst2 : s = (b.l.getD L[i] t00).stamp := by rw [hs, ← hv, List.getD_eq_getElem?_getD, List.getElem?_eq_getElem hvb]; rfl
                have hlast : s ≠ 0 → last < s := fun h => by rw [hst2] at h ⊢; exact last_step HST.out HQ1.out HQ2.out hiL HLA.out h
                have hnext := last_next (ts := b.l) hiL HLA.out
                rw [← hst2] at hnext
                have hseen := SeenOK.set (w := wr) HSY.out hiL (hv ▸ hvm)
                rw [← hv] at hseen
                have d1 : decide ((i : Int) < (m : Int)) = true := decide_eq_true (by omega)
                have d2 : decide ((v : Int) < 0) = false := decide_eq_false (by omega)
                have d3 : decide ((m : Int) ≤ (v : Int)) = false := decide_eq_false (by omega)
                have d4 : decide (m ≤ v) = false := decide_eq_false (by omega)
                have d5 : (v : Int) < (m : Int) := by omega
                have d6 : (i : Int) < (m : Int) := by omega
                have HNX := Lib.hid hnext
                have HSN := Lib.hid hseen
                have HLS := Lib.hid hlast
                have hne1 : ob ≠ sb := by omega
                have hne2 : tb ≠ sb := by omega
                clear htc hoc h34 hnd hvn hcb hcsz hcc hst2 hnext hseen hlast hs hv hsb
                by_cases h0 : s = 0
                · subst h0
                  go_wp2_with fail
                  go_roundg (m - (i + 1))
                  case measure => have := HGI.out; omega
                  case rel => exact ⟨i + 1, last, rfl, by go_num, by omega, rfl, by simpa using HNX.out, HSN.out, Below.setCell HBY.out (Nat.le_refl _) _⟩
                · have e1 : (s != 0) = true := by simp [h0]
                  have e2 : decide (s ≤ last) = false := decide_eq_false (by have := HLS.out h0; omega)
                  go_wp2_with fail
                  go_roundg (m - (i + 1))
                  case measure => have := HGI.out; omega
                  case rel => exact ⟨i + 1, s, rfl, by go_num, by omega, rfl, by have := HNX.out; rwa [if_neg h0] at this, HSN.out, Below.setCell HBY.out (Nat.le_refl _) _⟩
              · have d1 : decide ((i : Int) < (m : Int)) = false := decide_eq_false (by omega)
                go_wp2_with fail
                go_roundg (n + 1 - (j + 1))
                case measure => have := HGK.out; omega
                case rel => exact ⟨j + 1, by go_num, by omega, rfl, (HB13.out.trans (HB4.out.mono hw3)).trans (HBY.out.mono (by have := HSB.out; omega))⟩
          · have c4 : ((j : Int) != (q : Int)) = true := by simp; omega
            go_upto_region 11 with fail
            go_upto_region 12 with (first
              | (refine wpList_slice_g rfl 22 (.tmp 45) none (some (.tmp 46)) rfl rfl rfl rfl HSLJ.out ?_)
              | (go_at_call 6; refine HT.out.mono ?_; rintro r w3 ⟨ov, hr, _, hb3⟩; subst hr))
            go_wp2_with fail
            go_roundg (n + 1 - (j + 1))
            case measure => have := HGK.out; omega
            case rel => exact ⟨j + 1, by go_num, by omega, rfl, HBE.out.trans (hb3.mono HBE.out.size)⟩
        · have c2 : decide ((j : Int) ≤ (q : Int)) = false := decide_eq_false (by omega)
          have c3 : decide ((q : Int) < (j : Int)) = true := decide_eq_true (by omega)
          have c3n : decide (q < j) = true := decide_eq_true (by omega)
          have c2n : decide (j ≤ q) = false := decide_eq_false hjq
          have c4 : ((j : Int) != (q : Int)) = true := by simp; omega
          have c5 : ((q : Int) != (q : Int)) = false := by simp
          have HT := Lib.hid (HBAD.out wo j HBE.out (by omega) hj)
          go_wp2_with (first
            | (refine wpList_slice_g rfl 22 (.tmp 45) none (some (.tmp 46)) rfl rfl rfl rfl HSLJ.out ?_)
            | (go_at_call 6; refine HT.out.mono ?_; rintro r w3 ⟨hr, hb3⟩; subst hr))
          go_roundg (n + 1 - (j + 1))
          case measure => have := HGK.out; omega
          case rel => exact ⟨j + 1, by go_num, by omega, rfl, HBE.out.trans (hb3.mono HBE.out.size)⟩
      · have c1 : decide ((j : Int) ≤ (n : Int)) = false := decide_eq_false (by omega)
        go_wp2_with fail
        go_ret
        exact ⟨rfl, HBE.out⟩
end Go.Proofs.YtffjcojehiblnaaDoor
