/- asm.Parse's door: how it leaves, with its deferred closure, in both modes. -/
import Derived.Test.YthghnihlfdoefaaDoorBo
import Derived.Test.YthghnihlfdoefaaDoorPl
import Derived.Test.YthghnihlfdoefaaDoorPh
namespace Go.Proofs.YthghnihlfdoefaaDoor
open Go.RowKit Go.Joins Go.ChangeShapes Go.WideShapes Go.Deep
set_option linter.unusedVariables false
set_option linter.unusedSimpArgs false
set_option maxRecDepth 100000

theorem invoke_door (a b c : Value) (w : World) : (invoke (.fn (.func 28) #[a, b, c]) #[]).run Tryd.prog w = .ok (.enter 28 #[a, b, c]) w := by
  simp [invoke, callFunc, go_sem]
  first | rfl | kernel_rfl
theorem door_idle {tmps : Array Value} {R : Ending → World → Prop} {ob : Nat} {w : World} {v0 : ByteArray} {v1 v2 : Int}
    (h2 : tmps[2]? = some (.pointer (some ⟨ob, 0, none⟩))) (h3 : tmps[3]? = some (.pointer (some ⟨ob + 1, 0, none⟩))) (h4 : tmps[4]? = some (.pointer (some ⟨ob + 1 + 1, 0, none⟩)))
    (c0 : w.cell? ⟨ob, 0, none⟩ = some (.string v0)) (c1 : w.cell? ⟨ob + 1, 0, none⟩ = some (.int .i64 v1)) (c2 : w.cell? ⟨ob + 1 + 1, 0, none⟩ = some (.int .i64 v2))
    (hR : R (.returned (.tuple #[.string v0, .int .i64 v1, .int .i64 v2])) w) :
    Leaves Tryd.prog Tryd.f11 tmps R [{ target := .fn (.func 28) #[.pointer (some ⟨ob, 0, none⟩), .pointer (some ⟨ob + 1, 0, none⟩), .pointer (some ⟨ob + 1 + 1, 0, none⟩)], args := #[] }] .returning w := by
  refine leaves_cons (by simp) (invoke_door _ _ _ w) ((catch_idle ob (ob + 1) (ob + 1 + 1) w).mono ?_)
  rintro e u' w' ⟨rfl, rfl, rfl⟩
  simp [Leaves, settle, results, Tryd.results11, go_sem, h2, h3, h4, c0, c1, c2]
  exact hR
theorem door_fault {tmps : Array Value} {R : Ending → World → Prop} {ob : Nat} {w : World} {v0 : ByteArray} {v1 v2 x y : Int}
    (h2 : tmps[2]? = some (.pointer (some ⟨ob, 0, none⟩))) (h3 : tmps[3]? = some (.pointer (some ⟨ob + 1, 0, none⟩))) (h4 : tmps[4]? = some (.pointer (some ⟨ob + 1 + 1, 0, none⟩)))
    (b0 : Blk w ob 9 #[.string v0]) (b1 : Blk w (ob + 1) 22 #[.int .i64 v1]) (b2 : Blk w (ob + 1 + 1) 3 #[.int .i64 v2])
    (hR : ∀ w', Frm w w' (fun q => q = ob ∨ q = ob + 1 ∨ q = ob + 1 + 1) → R (.returned (.tuple #[.string ⟨#[]⟩, .int .i64 x, .int .i64 y])) w') :
    Leaves Tryd.prog Tryd.f11 tmps R [{ target := .fn (.func 28) #[.pointer (some ⟨ob, 0, none⟩), .pointer (some ⟨ob + 1, 0, none⟩), .pointer (some ⟨ob + 1 + 1, 0, none⟩)], args := #[] }] (.panicking [{ v := faultV x y, recovered := false }]) w := by
  refine leaves_cons (by simp) (invoke_door _ _ _ w) ((catch_fault ob (ob + 1) (ob + 1 + 1) x y [] w v0 v1 v2 ((b0.cell 0).trans rfl) ((b1.cell 0).trans rfl) ((b2.cell 0).trans rfl) (b0.frozen 0) (b1.frozen 0) (b2.frozen 0) b0.lt b1.lt b2.lt (by omega) (by omega) (by omega)).mono ?_)
  rintro e u' w' ⟨rfl, rfl, hF, c0, c1, c2⟩
  simp [Leaves, settle, results, Tryd.results11, go_sem, h2, h3, h4, c0, c1, c2]
  exact hR w' hF
end Go.Proofs.YthghnihlfdoefaaDoor

/- What was read is in order; the names put in; plain. -/
namespace Go.Proofs.YthghnihlfdoefaaDoor
open Go Go.Lib
set_option linter.unusedVariables false
set_option linter.unusedSimpArgs false

def GoodIns (x : Ins) : Prop := x.code < 41 ∧ x.pos ≤ 512 ∧ (x.name.s = [] → fitsF (shapeF x.code) x.operand = true) ∧ (x.name.s ≠ [] → leadsF x.code = true) ∧ x.name.s.length ≤ 16
structure Good (r : RSt) : Prop where
  labs : ∀ p ∈ r.labels, p.2 ≤ 512
  ins : ∀ x ∈ r.ins, GoodIns x
  size : r.size ≤ 512
theorem codeF_lt0 {s : List UInt8} {c : Nat} (h : codeF s = some c) : c < 41 := by
  unfold codeF at h
  exact List.mem_range.1 (List.mem_of_find?_eq_some h)
theorem nameF_ne {s : List UInt8} (h : nameF s = true) : s ≠ [] := by
  rintro rfl
  simp [nameF] at h
theorem nameF_le {s : List UInt8} (h : nameF s = true) : s.length ≤ 16 := by
  unfold nameF at h
  simp only [Bool.and_eq_true, decide_eq_true_eq] at h
  exact h.1.2
theorem fits_zero0 {sh : Nat} (h : widthF sh = 0) : fitsF sh 0 = true := by
  unfold widthF at h
  unfold fitsF
  split at h
  · omega
  · split at h
    · omega
    · split at h
      · omega
      · rename_i h1 h2 h3
        simp only [not_or] at h1 h2
        simp [h1, h2, h3]
theorem Good.endL {r r' : RSt} {t nm : Tok} {c : Nat} {o : Int} {rest : List Tok} (hr : Good r) (h : endL r t c o nm rest = .ok r') (hc : c < 41) (h1 : nm.s = [] → fitsF (shapeF c) o = true) (h2 : nm.s ≠ [] → leadsF c = true) (h3 : nm.s.length ≤ 16) : Good r' := by
  cases rest with
  | cons x l => cases h
  | nil =>
    unfold Proofs.YthghnihlfdoefaaDoor.endL at h
    simp only at h
    split at h
    · cases h
    · rename_i hs
      injection h with h
      subst h
      refine ⟨hr.labs, fun x hx => ?_, ?_⟩
      · rcases List.mem_append.1 hx with hx | hx
        · exact hr.ins x hx
        · obtain rfl := List.mem_singleton.1 hx
          exact ⟨hc, hr.size, h1, h2, h3⟩
      · show sizeF ((r.ins ++ [_]).map Ins.op) ≤ 512
        rw [List.map_append, List.map_cons, List.map_nil, sizeF_snoc]
        unfold RSt.size at hs
        simp only [Ins.op]
        omega
theorem Good.insL {r r' : RSt} {t : Tok} {rest : List Tok} (hr : Good r) (h : insL r t rest = .ok r') : Good r' := by
  unfold Proofs.YthghnihlfdoefaaDoor.insL at h
  split at h
  · cases h
  · rename_i c hc
    have hc41 := codeF_lt0 hc
    split at h
    · split at h
      · cases h
      · rename_i u rest' 
        split at h
        · cases h
        · rename_i o nm ho
          refine hr.endL h hc41 ?_ ?_ ?_
          · intro hn
            unfold oprL at ho
            split at ho
            · split at ho
              · rename_i hf
                injection ho with ho
                injection ho with h1 h2
                subst h1
                exact hf
              · cases ho
            · split at ho
              · rename_i hl
                injection ho with ho
                injection ho with h1 h2
                subst h2
                rw [Bool.and_eq_true] at hl
                exact absurd hn (nameF_ne hl.2)
              · cases ho
          · intro hn
            unfold oprL at ho
            split at ho
            · split at ho
              · injection ho with ho
                injection ho with h1 h2
                subst h2
                exact absurd rfl hn
              · cases ho
            · split at ho
              · rename_i hl
                rw [Bool.and_eq_true] at hl
                exact hl.1
              · cases ho
          · unfold oprL at ho
            split at ho
            · split at ho
              · injection ho with ho
                injection ho with h1 h2
                subst h2
                exact Nat.zero_le _
              · cases ho
            · split at ho
              · rename_i hl
                injection ho with ho
                injection ho with h1 h2
                subst h2
                rw [Bool.and_eq_true] at hl
                exact nameF_le hl.2
              · cases ho
    · rename_i hw
      exact hr.endL h hc41 (fun _ => fits_zero0 (by omega)) (fun hn => absurd rfl hn) (Nat.zero_le _)
theorem Good.lineL {r r' : RSt} {l : List Tok} (hr : Good r) (h : lineL r l = .ok r') : Good r' := by
  unfold Proofs.YthghnihlfdoefaaDoor.lineL at h
  split at h
  · injection h with h; subst h; exact hr
  · rename_i t rest
    have hlab : Good ⟨r.labels ++ [(t.s.dropLast, r.size)], r.ins⟩ := ⟨fun p hp => by
      rcases List.mem_append.1 hp with hp | hp
      · exact hr.labs p hp
      · obtain rfl := List.mem_singleton.1 hp
        exact hr.size, hr.ins, hr.size⟩
    split at h
    · split at h
      · cases h
      · split at h
        · cases h
        · split at h
          · injection h with h; subst h; exact hlab
          · exact hlab.insL h
    · exact hr.insL h
theorem Good.linesL : ∀ {ls : List (List Tok)} {r r' : RSt}, Good r → linesL r ls = .ok r' → Good r'
  | [], r, r', hr, h => by injection h with h; subst h; exact hr
  | l :: ls, r, r', hr, h => by
    rw [linesL_cons] at h
    cases hx : Proofs.YthghnihlfdoefaaDoor.lineL r l with
    | error e => rw [hx] at h; cases h
    | ok r1 =>
      rw [hx] at h
      exact Good.linesL (hr.lineL hx) h
theorem Good.start : Good ⟨[], []⟩ := ⟨fun p hp => (by cases hp), fun x hx => (by cases hx), Nat.zero_le _⟩
theorem labF2_le {r : RSt} (hr : Good r) {n : List UInt8} {k : Nat} (h : labF2 r.labels n = some k) : k ≤ 512 := by
  unfold labF2 at h
  cases hf : r.labels.find? (fun p => p.1 == n) with
  | none => rw [hf] at h; cases h
  | some p =>
    rw [hf] at h
    injection h with h
    subst h
    exact hr.labs p (List.mem_of_find?_eq_some hf)
theorem toksFrom_len : ∀ (LS : List (List UInt8)) (a : Nat), (toksFrom a LS).length ≤ LS.length
  | [], _ => Nat.le_refl _
  | l :: r, a => by
    have := toksFrom_len r (a + l.length + 1)
    simp only [toksFrom, List.length_cons]
    omega
theorem linesL_fail {r0 r : RSt} {ls : List (List Tok)} {l : List Tok} {j : Nat} {e : Nat × Nat} (h1 : linesL r0 (ls.take j) = .ok r) (h2 : ls[j]? = some l) (h3 : lineL r l = .error e) : linesL r0 ls = .error e := by
  have hs : ls = ls.take j ++ l :: ls.drop (j + 1) := by
    obtain ⟨hj, rfl⟩ := List.getElem?_eq_some_iff.1 h2
    rw [← List.drop_eq_getElem_cons hj, List.take_append_drop]
  rw [hs, linesL_app, h1]
  show linesL r (l :: ls.drop (j + 1)) = _
  rw [linesL_cons, h3]
/-! ### the names put in -/
theorem resL_snoc (ls : List (List UInt8 × Nat)) : ∀ (l : List Ins) (x : Ins), resL ls (l ++ [x]) = match resL ls l with | .error e => .error e | .ok L => (match resOne ls x with | .error e => .error e | .ok o => .ok (L ++ [o]))
  | [], x => by
    simp only [List.nil_append, resL]
    cases resOne ls x <;> rfl
  | y :: l, x => by
    rw [List.cons_append]
    simp only [resL]
    cases resOne ls y with
    | error e => rfl
    | ok o =>
      simp only
      rw [resL_snoc ls l x]
      cases resL ls l with
      | error e => rfl
      | ok L =>
        simp only
        cases resOne ls x <;> rfl
theorem resL_take (ls : List (List UInt8 × Nat)) (l : List Ins) (i : Nat) (h : i < l.length) : resL ls (l.take (i + 1)) = match resL ls (l.take i) with | .error e => .error e | .ok L => (match resOne ls l[i] with | .error e => .error e | .ok o => .ok (L ++ [o])) := by
  rw [List.take_succ_eq_append_getElem h]
  exact resL_snoc ls _ _
theorem resL_app_err (ls : List (List UInt8 × Nat)) : ∀ (l l2 : List Ins) (e : Nat × Nat), resL ls l = .error e → resL ls (l ++ l2) = .error e
  | [], l2, e, h => by cases h
  | y :: l, l2, e, h => by
    rw [List.cons_append]
    simp only [resL] at h ⊢
    cases hy : resOne ls y with
    | error e' => rw [hy] at h; exact h
    | ok o =>
      rw [hy] at h
      simp only at h ⊢
      cases hl : resL ls l with
      | error e' =>
        rw [hl] at h
        rw [resL_app_err ls l l2 e' hl]
        exact h
      | ok L => rw [hl] at h; cases h
theorem resL_fail (ls : List (List UInt8 × Nat)) (l : List Ins) (i : Nat) (h : i < l.length) {L : List AOp} {e : Nat × Nat} (h1 : resL ls (l.take i) = .ok L) (h2 : resOne ls l[i] = .error e) : resL ls l = .error e := by
  have h3 := resL_take ls l i h
  rw [h1, h2] at h3
  have := resL_app_err ls _ (l.drop (i + 1)) e h3
  rwa [List.take_append_drop] at this
theorem resOne_good {r : RSt} (hr : Good r) {x : Ins} (hx : x ∈ r.ins) {o : AOp} (h : resOne r.labels x = .ok o) : o.code = x.code ∧ o.code < 41 ∧ fitsF (shapeF o.code) o.operand = true := by
  obtain ⟨g1, g2, g3, g4, _⟩ := hr.ins x hx
  unfold resOne at h
  split at h
  · rename_i hn
    injection h with h
    subst h
    exact ⟨rfl, g1, g3 hn⟩
  · rename_i hn
    have hl := g4 hn
    split at h
    · cases h
    · rename_i k hk
      have hk5 := labF2_le hr hk
      injection h with h
      subst h
      refine ⟨rfl, g1, ?_⟩
      simp only
      unfold leadsF at hl
      simp only [Bool.or_eq_true, beq_iff_eq] at hl
      rcases hl with (h24 | h25) | h26
      · rw [h24]
        show decide _ = true
        rw [if_neg (by omega)]
        exact decide_eq_true ⟨by omega, by omega⟩
      · rw [h25]
        show decide _ = true
        rw [if_neg (by omega)]
        exact decide_eq_true ⟨by omega, by omega⟩
      · rw [h26]
        show decide _ = true
        rw [if_pos rfl]
        exact decide_eq_true ⟨by omega, by omega⟩
theorem resL_good {r : RSt} (hr : Good r) : ∀ (l : List Ins) (L : List AOp), (∀ x ∈ l, x ∈ r.ins) → resL r.labels l = .ok L → (∀ o ∈ L, o.code < 41 ∧ fitsF (shapeF o.code) o.operand = true) ∧ L.map AOp.code = l.map Ins.code
  | [], L, hm, h => by
    injection h with h
    subst h
    exact ⟨fun o ho => (by cases ho), rfl⟩
  | x :: l, L, hm, h => by
    simp only [resL] at h
    cases hx : resOne r.labels x with
    | error e => rw [hx] at h; cases h
    | ok o =>
      rw [hx] at h
      simp only at h
      cases hl : resL r.labels l with
      | error e => rw [hl] at h; cases h
      | ok L1 =>
        rw [hl] at h
        injection h with h
        subst h
        obtain ⟨h1, h2⟩ := resL_good hr l L1 (fun y hy => hm y (List.mem_cons_of_mem _ hy)) hl
        obtain ⟨e1, e2, e3⟩ := resOne_good hr (hm x (List.mem_cons_self ..)) hx
        refine ⟨fun o' ho => ?_, by rw [List.map_cons, List.map_cons, h2, e1]⟩
        rcases List.mem_cons.1 ho with rfl | ho
        · exact ⟨e2, e3⟩
        · exact h1 o' ho
theorem sizeF_codes (L : List AOp) : sizeF L = ((L.map AOp.code).map fun c => 1 + widthF (shapeF c)).sum := by
  unfold sizeF
  rw [List.map_map]
  rfl
theorem bytesOf_size (L : List AOp) : (bytesOf L).length = sizeF L := by
  unfold bytesOf sizeF
  rw [List.length_flatMap]
  congr 1
  exact List.map_congr_left fun o _ => encB_length o
theorem resL_size {r : RSt} (hr : Good r) {L : List AOp} (h : resL r.labels r.ins = .ok L) : (bytesOf L).length = r.size := by
  rw [bytesOf_size, sizeF_codes, (resL_good hr r.ins L (fun _ hx => hx) h).2]
  unfold RSt.size
  rw [sizeF_codes, List.map_map, List.map_map, List.map_map]
  rfl
theorem resL_len {ls : List (List UInt8 × Nat)} : ∀ {l : List Ins} {L : List AOp}, resL ls l = .ok L → L.length = l.length
  | [], L, h => by injection h with h; subst h; rfl
  | x :: l, L, h => by
    simp only [resL] at h
    cases hx : resOne ls x with
    | error e => rw [hx] at h; cases h
    | ok o =>
      rw [hx] at h
      simp only at h
      cases hl : resL ls l with
      | error e => rw [hl] at h; cases h
      | ok L1 =>
        rw [hl] at h
        injection h with h
        subst h
        rw [List.length_cons, List.length_cons, resL_len hl]
end Go.Proofs.YthghnihlfdoefaaDoor
