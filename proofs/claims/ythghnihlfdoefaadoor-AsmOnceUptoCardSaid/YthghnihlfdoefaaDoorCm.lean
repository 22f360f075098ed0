/- carousellaw14.AsmBack and AsmOnce, walked. -/
import Derived.Test.YthghnihlfdoefaaDoorCl
import Derived.Test.YthghnihlfdoefaaDoorCg
import Derived.Test.YthghnihlfdoefaaDoorAn
namespace Go.Proofs.YthghnihlfdoefaaDoor
open Go.RowKit Go.Joins Go.ChangeShapes Go.WideShapes Go.Deep
set_option linter.unusedVariables false
set_option linter.unusedSimpArgs false
set_option maxRecDepth 100000

theorem print_len {L : List AOp} (hL : Enc L) (hs : sizeF L ≤ 512) (hn : L.length ≤ 512) : (printF L).length ≤ 100000 := by
  have h1 := lines_len L L.length (fun o ho => (hL o ho).2.2) hs
  have h2 : (labF L (sizeF L)).length ≤ 40 := by
    unfold labF
    split
    · have := itoa_len (sizeF L : Int) ⟨by omega, by omega⟩
      simp [labelB]
      omega
    · simp
  unfold printF
  rw [List.length_append]
  omega
theorem toNat_map_inj {a b : List UInt8} (h : a.map UInt8.toNat = b.map UInt8.toNat) : a = b := by
  induction a generalizing b with
  | nil => cases b with
    | nil => rfl
    | cons x r => cases h
  | cons x r ih =>
    cases b with
    | nil => cases h
    | cons y t =>
      simp only [List.map_cons, List.cons.injEq] at h
      rw [UInt8.toNat_inj.1 h.1, ih h.2]
theorem dec_back {s : ByteArray} {L : List AOp} (h : Dec (bytesL s) L s.size) (h5 : s.size ≤ 512) : Enc L ∧ sizeF L = s.size ∧ bytesOf L = s.data.toList ∧ L.length ≤ 512 := by
  have hg := h.good
  have hi := dec_i64 h
  refine ⟨fun o ho => ⟨(hg o ho).1, (hg o ho).2, hi o ho⟩, h.size.symm, ?_, by have := h.le; omega⟩
  have hb := h.bytes (fun b hb => by
    obtain ⟨c, _, rfl⟩ := List.mem_map.1 hb
    have := c.toNat_lt
    omega)
  rw [List.take_of_length_le (by rw [bytesL_length]; exact Nat.le_refl _)] at hb
  exact toNat_map_inj hb
/-- What Print and Decode tell of a program's bytes. -/
theorem print_cases (s : ByteArray) : (∃ n : Int, (n = 2 ∨ n = 10) ∧ (∀ {w w' : World} {e : Ending}, PrintPost s w e w' → e = .returned (.tuple #[.string ⟨#[]⟩, .int .i64 n])) ∧ (∀ {w w' : World} {e : Ending}, DecPost s w e w' → ∃ v p, e = .returned (.tuple #[v, .int .i64 n, .int .i64 p]))) ∨
    (∃ L, s.size ≤ 512 ∧ Dec (bytesL s) L s.size ∧ (∀ {w w' : World} {e : Ending}, PrintPost s w e w' → e = .returned (.tuple #[.string ⟨(printF L).toArray⟩, .int .i64 0])) ∧ (∀ {w w' : World} {e : Ending}, DecPost s w e w' → ∃ v p, e = .returned (.tuple #[v, .int .i64 0, .int .i64 p]))) := by
  have hl := bytesL_length s
  by_cases h5 : 512 < s.size
  · left
    refine ⟨2, .inl rfl, fun h => ?_, fun h => ?_⟩
    · rcases h.2 with ⟨_, h⟩ | ⟨h, _⟩ | ⟨h, _⟩
      · exact h
      · omega
      · omega
    · rcases h.2 with ⟨_, h⟩ | ⟨h, _⟩ | ⟨h, _⟩
      · exact ⟨_, _, h⟩
      · omega
      · omega
  · by_cases hL : ∃ L, Dec (bytesL s) L s.size
    · obtain ⟨L, hL⟩ := hL
      right
      refine ⟨L, by omega, hL, fun h => ?_, fun h => ?_⟩
      · rcases h.2 with ⟨h, _⟩ | ⟨_, L', p, d1, d2, d3, _⟩ | ⟨_, L', d1, h⟩
        · omega
        · obtain ⟨_, e⟩ := d1.det hL (.inr d3) (.inl (by omega))
          omega
        · obtain ⟨rfl, _⟩ := d1.det hL (.inl (by omega)) (.inl (by omega))
          exact h
      · rcases h.2 with ⟨h, _⟩ | ⟨_, L', p, d1, d2, d3, _⟩ | ⟨_, L', v, d1, _, h⟩
        · omega
        · obtain ⟨_, e⟩ := d1.det hL (.inr d3) (.inl (by omega))
          omega
        · exact ⟨_, _, h⟩
    · left
      refine ⟨10, .inr rfl, fun h => ?_, fun h => ?_⟩
      · rcases h.2 with ⟨h, _⟩ | ⟨_, L', p, d1, d2, d3, h⟩ | ⟨_, L', d1, h⟩
        · omega
        · exact h
        · exact absurd ⟨L', d1⟩ hL
      · rcases h.2 with ⟨h, _⟩ | ⟨_, L', p, d1, d2, d3, h⟩ | ⟨_, L', v, d1, _, h⟩
        · omega
        · exact ⟨_, _, h⟩
        · exact absurd ⟨L', d1⟩ hL
set_option maxHeartbeats 2000000 in
theorem law_back {B : Nat} (s : ByteArray) (w : World) (hE : EnvP B w) (hs : s.size ≤ 4611686018427387904) : Calls Tryd.prog 7 #[.string s] w fun e w' => e = .returned (.bool true) ∧ Below w.heap.size w w' := by
  have hP := print_any s w hE.env hs
  have hD : ∀ W, Below w.heap.size w W → Calls Tryd.prog 13 #[.string s] W (DecPost s W) := fun W hW => rdecode_any s W (hE.below (hW.mono hE.size)).env.here.shapes hs
  rcases print_cases s with ⟨n, hn, c1, c2⟩ | ⟨L, h5, hL, c1, c2⟩
  · have HP : Hid (Calls Tryd.prog 9 #[.string s] w fun e w' => e = .returned (.tuple #[.string ⟨#[]⟩, .int .i64 n]) ∧ Below w.heap.size w w') := Lib.hid (hP.mono fun e w' h => ⟨c1 h, h.1⟩)
    have HD : Hid (∀ W, Below w.heap.size w W → Calls Tryd.prog 13 #[.string s] W fun e w' => (∃ v p, e = .returned (.tuple #[v, .int .i64 n, .int .i64 p])) ∧ Below W.heap.size W w') := Lib.hid (fun W hW => (hD W hW).mono fun e w' h => ⟨c2 h, h.1⟩)
    have q1 : (n != 0) = true := by rcases hn with rfl | rfl <;> rfl
    have q2 : (n == n) = true := by simp
    clear hP hD c1 c2 hE hn
    go_enter Tryd.func7, Tryd.ntmps7
    go_wp2_with (first | (go_at_call 9; refine HP.out.mono ?_; rintro e w1 ⟨rfl, hb1⟩) | (go_at_call 13; refine (HD.out _ hb1).mono ?_; rintro e w2 ⟨⟨v, p, rfl⟩, hb2⟩))
    go_ret
    exact ⟨rfl, hb1.trans (hb2.mono hb1.size)⟩
  · obtain ⟨g1, g2, g3, g4⟩ := dec_back hL h5
    have hpl := print_len g1 (by omega) g4
    obtain ⟨t, ht⟩ : ∃ t : ByteArray, t = ⟨(printF L).toArray⟩ := ⟨_, rfl⟩
    have htl : t.data.toList = printF L := by rw [ht]
    have htz : t.size ≤ 100000 := by
      have e1 : t.size = t.data.toList.length := Array.length_toList.symm
      rw [e1, htl]; exact hpl
    have hpp := parse_print g1 (by omega)
    have hq : pOut (parseF t.data.toList) = s ∧ pErr (parseF t.data.toList) = 0 ∧ pPos (parseF t.data.toList) = 0 := by
      rw [htl, hpp]
      exact ⟨bytes_inj (by show (bytesOf L).toArray.toList = _; rw [g3, List.toList_toArray]), rfl, rfl⟩
    have HP : Hid (Calls Tryd.prog 9 #[.string s] w fun e w' => e = .returned (.tuple #[.string t, .int .i64 0]) ∧ Below w.heap.size w w') := Lib.hid (hP.mono fun e w' h => ⟨by rw [ht]; exact c1 h, h.1⟩)
    have HD : Hid (∀ W, Below w.heap.size w W → Calls Tryd.prog 13 #[.string s] W fun e w' => (∃ v p, e = .returned (.tuple #[v, .int .i64 0, .int .i64 p])) ∧ Below W.heap.size W w') := Lib.hid (fun W hW => (hD W hW).mono fun e w' h => ⟨c2 h, h.1⟩)
    have HA : Hid (∀ W, Below w.heap.size w W → Calls Tryd.prog 11 #[.string t] W fun e w' => e = .returned (.tuple #[.string s, .int .i64 0, .int .i64 0]) ∧ Below W.heap.size W w') := Lib.hid (fun W hW => by
      have := parse_at (hE.below (hW.mono hE.size)) t (by omega)
      rwa [hq.1, hq.2.1, hq.2.2] at this)
    clear hP hD c1 c2 hE hq hpp htl ht hpl g1 g2 g3 g4 hL
    go_enter Tryd.func7, Tryd.ntmps7
    go_wp2_with (first | (go_at_call 9; refine HP.out.mono ?_; rintro e w1 ⟨rfl, hb1⟩) | (go_at_call 13; refine (HD.out _ hb1).mono ?_; rintro e w2 ⟨⟨v, p, rfl⟩, hb2⟩; have hb12 := hb1.trans (hb2.mono hb1.size)) | (go_at_call 11; refine (HA.out _ hb12).mono ?_; rintro e w3 ⟨rfl, hb3⟩))
    go_ret
    exact ⟨rfl, hb12.trans (hb3.mono hb12.size)⟩
def GoodI (r : RSt) : Prop := ∀ x ∈ r.ins, i64ok0 x.operand
theorem GoodI.endL {r r' : RSt} {t nm : Tok} {c : Nat} {o : Int} {rest : List Tok} (hr : GoodI r) (h : endL r t c o nm rest = .ok r') (ho : i64ok0 o) : GoodI r' := by
  cases rest with
  | cons x l => cases h
  | nil =>
    unfold Proofs.YthghnihlfdoefaaDoor.endL at h
    simp only at h
    split at h
    · cases h
    · injection h with h
      subst h
      intro x hx
      rcases List.mem_append.1 hx with hx | hx
      · exact hr x hx
      · obtain rfl := List.mem_singleton.1 hx
        exact ho
theorem i64_zero : i64ok0 0 := by unfold i64ok0; omega
theorem GoodI.insL {r r' : RSt} {t : Tok} {rest : List Tok} (hr : GoodI r) (h : insL r t rest = .ok r') : GoodI r' := by
  unfold Proofs.YthghnihlfdoefaaDoor.insL at h
  split at h
  · cases h
  · split at h
    · split at h
      · cases h
      · split at h
        · cases h
        · rename_i o nm ho
          refine hr.endL h ?_
          unfold oprL at ho
          split at ho
          · rename_i v hv
            split at ho
            · injection ho with ho
              injection ho with h1 h2
              subst h1
              exact (numF_some.1 hv).1
            · cases ho
          · split at ho
            · injection ho with ho
              injection ho with h1 h2
              subst h1
              exact i64_zero
            · cases ho
    · exact hr.endL h i64_zero
theorem GoodI.lineL {r r' : RSt} {l : List Tok} (hr : GoodI r) (h : lineL r l = .ok r') : GoodI r' := by
  unfold Proofs.YthghnihlfdoefaaDoor.lineL at h
  split at h
  · injection h with h; subst h; exact hr
  · rename_i t rest
    have hlab : GoodI ⟨r.labels ++ [(t.s.dropLast, r.size)], r.ins⟩ := hr
    split at h
    · split at h
      · cases h
      · split at h
        · cases h
        · split at h
          · injection h with h; subst h; exact hlab
          · exact hlab.insL h
    · exact hr.insL h
theorem GoodI.linesL : ∀ {ls : List (List Tok)} {r r' : RSt}, GoodI r → linesL r ls = .ok r' → GoodI r'
  | [], r, r', hr, h => by injection h with h; subst h; exact hr
  | l :: ls, r, r', hr, h => by
    rw [linesL_cons] at h
    cases hx : Proofs.YthghnihlfdoefaaDoor.lineL r l with
    | error e => rw [hx] at h; cases h
    | ok r1 =>
      rw [hx] at h
      exact GoodI.linesL (hr.lineL hx) h
theorem GoodI.start : GoodI ⟨[], []⟩ := fun x hx => (by cases hx)
theorem resOne_i64 {r : RSt} (hr : Good r) (hi : GoodI r) {x : Ins} (hx : x ∈ r.ins) {o : AOp} (h : resOne r.labels x = .ok o) : i64ok0 o.operand := by
  unfold resOne at h
  split at h
  · injection h with h
    subst h
    exact hi x hx
  · split at h
    · cases h
    · rename_i k hk
      have hk5 := labF2_le hr hk
      have hp := (hr.ins x hx).2.1
      injection h with h
      subst h
      simp only
      unfold i64ok0
      split <;> omega
theorem resL_i64 {r : RSt} (hr : Good r) (hi : GoodI r) : ∀ (l : List Ins) (L : List AOp), (∀ x ∈ l, x ∈ r.ins) → resL r.labels l = .ok L → ∀ o ∈ L, i64ok0 o.operand
  | [], L, hm, h => by
    injection h with h
    subst h
    exact fun o ho => (by cases ho)
  | x :: l, L, hm, h => by
    simp only [resL] at h
    cases hx : resOne r.labels x with
    | error e => rw [hx] at h; cases h
    | ok o =>
      rw [hx] at h
      simp only at h
      cases hl : resL r.labels l with
      | error e => rw [hl] at h; cases h
      | ok L1 =>
        rw [hl] at h
        injection h with h
        subst h
        intro o' ho
        rcases List.mem_cons.1 ho with rfl | ho
        · exact resOne_i64 hr hi (hm x (List.mem_cons_self ..)) hx
        · exact resL_i64 hr hi l L1 (fun y hy => hm y (List.mem_cons_of_mem _ hy)) hl o' ho
/-- What a text's program is. -/
theorem parse_enc {t : List UInt8} {L : List AOp} (h : parseF t = .ok L) : Enc L ∧ (bytesOf L).length ≤ 512 ∧ L.length ≤ 512 := by
  unfold parseF at h
  cases hr : linesL ⟨[], []⟩ (lineToks t) with
  | error e => rw [hr] at h; cases h
  | ok r =>
    rw [hr] at h
    have hG := Good.start.linesL hr
    have h1 := resL_good hG r.ins L (fun _ hx => hx) h
    have h2 := resL_i64 hG (GoodI.start.linesL hr) r.ins L (fun _ hx => hx) h
    have h3 := resL_size hG h
    refine ⟨fun o ho => ⟨(h1.1 o ho).1, (h1.1 o ho).2, h2 o ho⟩, by rw [h3]; exact hG.size, ?_⟩
    have h4 := bytesOf_size L
    have h5 : L.length ≤ sizeF L := by
      unfold sizeF
      have : ∀ l : List AOp, l.length ≤ (l.map fun o => 1 + widthF (shapeF o.code)).sum := by
        intro l
        induction l with
        | nil => exact Nat.le_refl _
        | cons x l ih => rw [List.map_cons, List.sum_cons, List.length_cons]; omega
      exact this L
    have := hG.size
    omega
theorem print_ok {s : ByteArray} {L : List AOp} (h5 : s.size ≤ 512) (hL : Dec (bytesL s) L s.size) {w w' : World} {e : Ending} (h : PrintPost s w e w') : e = .returned (.tuple #[.string ⟨(printF L).toArray⟩, .int .i64 0]) := by
  have hl := bytesL_length s
  rcases h.2 with ⟨h, _⟩ | ⟨_, L', p, d1, d2, d3, _⟩ | ⟨_, L', d1, h⟩
  · omega
  · obtain ⟨_, e⟩ := d1.det hL (.inr d3) (.inl (by omega))
    omega
  · obtain ⟨rfl, _⟩ := d1.det hL (.inl (by omega)) (.inl (by omega))
    exact h
theorem linesL_err : ∀ {ls : List (List Tok)} {r : RSt} {y : Nat × Nat}, linesL r ls = .error y → y.1 ≠ 0
  | [], r, y, h => by cases h
  | l :: ls, r, y, h => by
    rw [linesL_cons] at h
    cases hx : lineL r l with
    | error e =>
      rw [hx] at h
      injection h with h
      subst h
      rcases lineL_err hx with h | h | h | h <;> omega
    | ok r' =>
      rw [hx] at h
      exact linesL_err h
theorem resL_err {ls : List (List UInt8 × Nat)} : ∀ {l : List Ins} {y : Nat × Nat}, resL ls l = .error y → y.1 = 11
  | [], y, h => by cases h
  | x :: l, y, h => by
    simp only [resL] at h
    cases hx : resOne ls x with
    | error e =>
      rw [hx] at h
      injection h with h
      subst h
      unfold resOne at hx
      split at hx
      · cases hx
      · split at hx
        · injection hx with hx; subst hx; rfl
        · cases hx
    | ok o =>
      rw [hx] at h
      simp only at h
      cases hl : resL ls l with
      | error e =>
        rw [hl] at h
        injection h with h
        subst h
        exact resL_err hl
      | ok L => rw [hl] at h; cases h
theorem parseF_err {t : List UInt8} {y : Nat × Nat} (h : parseF t = .error y) : y.1 ≠ 0 := by
  unfold parseF at h
  cases hr : linesL ⟨[], []⟩ (lineToks t) with
  | error e =>
    rw [hr] at h
    injection h with h
    subst h
    exact linesL_err hr
  | ok r =>
    rw [hr] at h
    have := resL_err h
    omega
set_option maxHeartbeats 2000000 in
theorem law_once {B : Nat} (s : ByteArray) (w : World) (hE : EnvP B w) (hs : s.size ≤ 67108864) : Calls Tryd.prog 8 #[.string s] w fun e w' => e = .returned (.bool true) ∧ Below w.heap.size w w' := by
  have hA := parse_at hE s hs
  have hR := fun W => rparse_at s hs W
  cases hx : parseF s.data.toList with
  | error y =>
    rw [hx] at hA hR
    have HA : Hid (Calls Tryd.prog 11 #[.string s] w fun e w' => e = .returned (.tuple #[.string ⟨#[]⟩, .int .i64 y.1, .int .i64 y.2]) ∧ Below w.heap.size w w') := Lib.hid hA
    have HR : Hid (∀ W, Calls Tryd.prog 12 #[.string s] W fun e w' => e = .returned (.tuple #[.string ⟨#[]⟩, .int .i64 y.1, .int .i64 y.2]) ∧ Below W.heap.size W w') := Lib.hid hR
    have q0 := parseF_err hx
    have q1 : ((y.1 : Int) != 0) = true := by rw [bne_iff_ne]; omega
    have q2 : ((y.1 : Int) == (y.1 : Int)) = true := by simp
    clear hA hR hx hE q0
    go_enter Tryd.func8, Tryd.ntmps8
    go_wp2_with (first | (go_at_call 11; refine HA.out.mono ?_; rintro e w1 ⟨rfl, hb1⟩) | (go_at_call 12; refine (HR.out _).mono ?_; rintro e w2 ⟨rfl, hb2⟩))
    go_ret
    exact ⟨rfl, hb1.trans (hb2.mono hb1.size)⟩
  | ok L =>
    rw [hx] at hA hR
    obtain ⟨g1, g2, g3⟩ := parse_enc hx
    obtain ⟨q, hq⟩ : ∃ q : ByteArray, q = ⟨(bytesOf L).toArray⟩ := ⟨_, rfl⟩
    have hql : q.data.toList = bytesOf L := by rw [hq]
    have hqz : q.size = (bytesOf L).length := by
      have e1 : q.size = q.data.toList.length := Array.length_toList.symm
      rw [e1, hql]
    have hdec : Dec (bytesL q) L q.size := by
      unfold bytesL
      rw [hql, hqz]
      exact dec_all L g1
    have hsz : sizeF L ≤ 512 := by rw [← bytesOf_size]; exact g2
    have hpl := print_len g1 hsz g3
    obtain ⟨t, ht⟩ : ∃ t : ByteArray, t = ⟨(printF L).toArray⟩ := ⟨_, rfl⟩
    have htl : t.data.toList = printF L := by rw [ht]
    have htz : t.size ≤ 100000 := by
      have e1 : t.size = t.data.toList.length := Array.length_toList.symm
      rw [e1, htl]; exact hpl
    have hpp := parse_print g1 hsz
    have HA : Hid (Calls Tryd.prog 11 #[.string s] w fun e w' => e = .returned (.tuple #[.string q, .int .i64 0, .int .i64 0]) ∧ Below w.heap.size w w') := Lib.hid (by rw [hq]; exact hA)
    have HR : Hid (∀ W, Calls Tryd.prog 12 #[.string s] W fun e w' => e = .returned (.tuple #[.string q, .int .i64 0, .int .i64 0]) ∧ Below W.heap.size W w') := Lib.hid (by rw [hq]; exact hR)
    have HP : Hid (∀ W, Below w.heap.size w W → Calls Tryd.prog 9 #[.string q] W fun e w' => e = .returned (.tuple #[.string t, .int .i64 0]) ∧ Below W.heap.size W w') := Lib.hid (fun W hW => (print_any q W (hE.below (hW.mono hE.size)).env (by omega)).mono fun e w' h => ⟨by rw [ht]; exact print_ok (by omega) hdec h, h.1⟩)
    have HB : Hid (∀ W, Below w.heap.size w W → Calls Tryd.prog 11 #[.string t] W fun e w' => e = .returned (.tuple #[.string q, .int .i64 0, .int .i64 0]) ∧ Below W.heap.size W w') := Lib.hid (fun W hW => by
      have := parse_at (hE.below (hW.mono hE.size)) t (by omega)
      rw [htl, hpp] at this
      rw [hq]
      exact this)
    clear hA hR hx hE hq hql hqz hdec hsz hpl ht htl htz hpp g1 g2 g3
    go_enter Tryd.func8, Tryd.ntmps8
    go_upto_region 5 with (first | (go_at_call 11; refine HA.out.mono ?_; rintro e w1 ⟨rfl, hb1⟩) | (go_at_call 12; refine (HR.out _).mono ?_; rintro e w2 ⟨rfl, hb2⟩))
    have hb12 := hb1.trans (hb2.mono hb1.size)
    clear hb1 hb2
    go_upto_region 6 with (go_at_call 9; refine (HP.out _ hb12).mono ?_; rintro e w3 ⟨rfl, hb3⟩)
    have hb13 := hb12.trans (hb3.mono hb12.size)
    clear hb12 hb3
    go_upto_region 7 with (go_at_call 11; refine (HB.out _ hb13).mono ?_; rintro e w4 ⟨rfl, hb4⟩)
    have hb14 := hb13.trans (hb4.mono hb13.size)
    clear hb13 hb4
    go_upto_region 8 with (go_at_call 9; refine (HP.out _ hb14).mono ?_; rintro e w5 ⟨rfl, hb5⟩)
    have hb15 := hb14.trans (hb5.mono hb14.size)
    clear hb14 hb5
    go_wp2_with fail
    go_ret
    exact ⟨rfl, hb15⟩
end Go.Proofs.YthghnihlfdoefaaDoor
