/- Gaps, remarks and empty lines change nothing of what Parse gives; plain. -/
import Derived.Test.YthghnihlfdoefaaDoorPb
namespace Go.Proofs.YthghnihlfdoefaaDoor
open Go Go.Lib
set_option linter.unusedVariables false
set_option linter.unusedSimpArgs false

def strs (l : List Tok) : List (List UInt8) := l.map (·.s)
theorem strs_len {l l' : List Tok} (h : strs l = strs l') : l.length = l'.length := by
  have := congrArg List.length h
  simpa [strs] using this
def insAbs (x : Ins) : Nat × Int × Nat × List UInt8 := (x.code, x.operand, x.pos, x.name.s)
def RRel (r r' : RSt) : Prop := r.labels = r'.labels ∧ r.ins.map insAbs = r'.ins.map insAbs
theorem RRel.size {r r' : RSt} (h : RRel r r') : r.size = r'.size := by
  unfold RSt.size
  have e : ∀ l : List Ins, l.map Ins.op = (l.map insAbs).map fun y => (⟨y.1, y.2.1⟩ : AOp) := by
    intro l
    rw [List.map_map]
    rfl
  rw [e, e, h.2]
def ERel (x x' : Except (Nat × Nat) RSt) : Prop := match x, x' with
  | .error e, .error e' => e.1 = e'.1
  | .ok r, .ok r' => RRel r r'
  | _, _ => False
theorem endL_rel {r r' : RSt} (h : RRel r r') {t t' nm nm' : Tok} {c : Nat} {o : Int} {rest rest' : List Tok} (hr : strs rest = strs rest') (hn : nm.s = nm'.s) : ERel (endL r t c o nm rest) (endL r' t' c o nm' rest') := by
  cases rest with
  | nil =>
    cases rest' with
    | cons a b => cases hr
    | nil =>
      unfold endL
      simp only
      rw [← h.size]
      split
      · rfl
      · refine ⟨h.1, ?_⟩
        simp only [List.map_append, List.map_cons, List.map_nil, h.2, insAbs, hn]
  | cons a b =>
    cases rest' with
    | nil => cases hr
    | cons a' b' => rfl
theorem insL_rel {r r' : RSt} (h : RRel r r') {t t' : Tok} {rest rest' : List Tok} (ht : t.s = t'.s) (hr : strs rest = strs rest') : ERel (insL r t rest) (insL r' t' rest') := by
  unfold insL
  rw [← ht]
  cases codeF t.s with
  | none => rfl
  | some c =>
    simp only
    split
    · cases rest with
      | nil =>
        cases rest' with
        | cons a b => cases hr
        | nil => rfl
      | cons u rs =>
        cases rest' with
        | nil => cases hr
        | cons u' rs' =>
          simp only [strs, List.map_cons, List.cons.injEq] at hr
          obtain ⟨hu, hrs⟩ := hr
          simp only
          unfold oprL
          rw [← hu]
          cases numF u.s with
          | some n =>
            simp only
            by_cases hf : fitsF (shapeF c) n = true
            · rw [if_pos hf]
              exact endL_rel h hrs rfl
            · rw [if_neg hf]
              rfl
          | none =>
            simp only
            by_cases hf : (leadsF c && nameF u.s) = true
            · rw [if_pos hf, if_pos hf]
              exact endL_rel h hrs hu
            · rw [if_neg hf, if_neg hf]
              rfl
    · exact endL_rel h hr rfl
theorem lineL_rel {r r' : RSt} (h : RRel r r') {l l' : List Tok} (hl : strs l = strs l') : ERel (lineL r l) (lineL r' l') := by
  cases l with
  | nil =>
    cases l' with
    | cons a b => cases hl
    | nil => exact h
  | cons t rest =>
    cases l' with
    | nil => cases hl
    | cons t' rest' =>
      simp only [strs, List.map_cons, List.cons.injEq] at hl
      obtain ⟨ht, hr⟩ := hl
      unfold lineL
      simp only
      rw [← ht, ← h.1]
      split
      · split
        · rfl
        · split
          · rfl
          · cases rest with
            | nil =>
              cases rest' with
              | cons a b => cases hr
              | nil => exact ⟨by rw [h.size], h.2⟩
            | cons u rs =>
              cases rest' with
              | nil => cases hr
              | cons u' rs' =>
                simp only [List.map_cons, List.cons.injEq] at hr
                exact insL_rel (r := ⟨r.labels ++ [(t.s.dropLast, r.size)], r.ins⟩) (r' := ⟨r.labels ++ [(t.s.dropLast, r'.size)], r'.ins⟩) ⟨by rw [h.size], h.2⟩ hr.1 hr.2
      · exact insL_rel h ht hr
theorem linesL_rel : ∀ {ls ls' : List (List Tok)} {r r' : RSt}, RRel r r' → ls.map strs = ls'.map strs → ERel (linesL r ls) (linesL r' ls')
  | [], [], r, r', h, _ => h
  | [], _ :: _, _, _, _, h => by cases h
  | _ :: _, [], _, _, _, h => by cases h
  | l :: ls, l' :: ls', r, r', h, hm => by
    simp only [List.map_cons, List.cons.injEq] at hm
    have h1 := lineL_rel h hm.1
    rw [linesL_cons, linesL_cons]
    cases hx : lineL r l with
    | error e =>
      cases hy : lineL r' l' with
      | error e' => rw [hx, hy] at h1; exact h1
      | ok s => rw [hx, hy] at h1; exact h1.elim
    | ok s =>
      cases hy : lineL r' l' with
      | error e' => rw [hx, hy] at h1; exact h1.elim
      | ok s' => rw [hx, hy] at h1; exact linesL_rel h1 hm.2
/-- Lines without tokens change nothing. -/
def full (ls : List (List Tok)) : List (List Tok) := ls.filter fun l => !l.isEmpty
theorem linesL_full : ∀ (ls : List (List Tok)) (r : RSt), linesL r ls = linesL r (full ls)
  | [], r => rfl
  | l :: ls, r => by
    unfold full
    cases l with
    | nil =>
      rw [linesL_cons]
      show linesL r ls = _
      rw [linesL_full ls r]
      rfl
    | cons t rest =>
      rw [List.filter_cons, if_pos (by rfl), linesL_cons, linesL_cons]
      cases lineL r (t :: rest) with
      | error e => rfl
      | ok r' => exact linesL_full ls r'
def FS (ls : List (List (List UInt8))) : List (List (List UInt8)) := ls.filter fun l => !l.isEmpty
theorem full_strs (ls : List (List Tok)) : (full ls).map strs = FS (ls.map strs) := by
  unfold full FS
  induction ls with
  | nil => rfl
  | cons l ls ih =>
    rw [List.map_cons, List.filter_cons, List.filter_cons]
    have : (strs l).isEmpty = l.isEmpty := by cases l <;> rfl
    rw [this]
    split
    · rw [List.map_cons, ih]
    · exact ih
def PEq {α : Type} (x x' : Except (Nat × Nat) α) : Prop := match x, x' with
  | .error e, .error e' => e.1 = e'.1
  | .ok a, .ok a' => a = a'
  | _, _ => False
theorem resOne_rel (ls : List (List UInt8 × Nat)) {x x' : Ins} (h : insAbs x = insAbs x') : PEq (resOne ls x) (resOne ls x') := by
  obtain ⟨c, o, p, ⟨n, q⟩⟩ := x
  obtain ⟨c', o', p', ⟨n', q'⟩⟩ := x'
  simp only [insAbs, Prod.mk.injEq] at h
  obtain ⟨rfl, rfl, rfl, rfl⟩ := h
  unfold resOne
  by_cases hn : n = []
  · rw [if_pos hn, if_pos hn]
    rfl
  · rw [if_neg hn, if_neg hn]
    simp only
    cases labF2 ls n with
    | none => rfl
    | some k => rfl
theorem resL_rel (ls : List (List UInt8 × Nat)) : ∀ {l l' : List Ins}, l.map insAbs = l'.map insAbs → PEq (resL ls l) (resL ls l')
  | [], [], _ => rfl
  | [], _ :: _, h => by cases h
  | _ :: _, [], h => by cases h
  | x :: l, x' :: l', h => by
    simp only [List.map_cons, List.cons.injEq] at h
    have h1 := resOne_rel ls h.1
    have h2 := resL_rel ls h.2
    simp only [resL]
    cases hx : resOne ls x with
    | error e =>
      cases hy : resOne ls x' with
      | error e' => rw [hx, hy] at h1; exact h1
      | ok o => rw [hx, hy] at h1; exact h1.elim
    | ok o =>
      cases hy : resOne ls x' with
      | error e' => rw [hx, hy] at h1; exact h1.elim
      | ok o' =>
        rw [hx, hy] at h1
        have h1 : o = o' := h1
        subst h1
        simp only
        cases hz : resL ls l with
        | error e =>
          cases hw : resL ls l' with
          | error e' => rw [hz, hw] at h2; exact h2
          | ok L => rw [hz, hw] at h2; exact h2.elim
        | ok L =>
          cases hw : resL ls l' with
          | error e' => rw [hz, hw] at h2; exact h2.elim
          | ok L' =>
            rw [hz, hw] at h2
            have h2 : L = L' := h2
            subst h2
            rfl
/-- Parse looks at the tokens' texts alone, line by line. -/
theorem parse_rel {t u : List UInt8} (h : FS ((lineToks t).map strs) = FS ((lineToks u).map strs)) : PEq (parseF t) (parseF u) := by
  unfold parseF
  rw [linesL_full (lineToks t), linesL_full (lineToks u)]
  have h1 := linesL_rel (r := ⟨[], []⟩) (r' := ⟨[], []⟩) ⟨rfl, rfl⟩ (show (full (lineToks t)).map strs = (full (lineToks u)).map strs by rw [full_strs, full_strs, h])
  cases hx : linesL ⟨[], []⟩ (full (lineToks t)) with
  | error e =>
    cases hy : linesL ⟨[], []⟩ (full (lineToks u)) with
    | error e' => rw [hx, hy] at h1; exact h1
    | ok o => rw [hx, hy] at h1; exact h1.elim
  | ok r =>
    cases hy : linesL ⟨[], []⟩ (full (lineToks u)) with
    | error e' => rw [hx, hy] at h1; exact h1.elim
    | ok r' =>
      rw [hx, hy] at h1
      obtain ⟨e1, e2⟩ := h1
      simp only
      rw [← e1]
      exact resL_rel r.labels e2
/-! ### bytes, one by one -/
structure ASt where
  done : List (List (List UInt8))
  line : List (List UInt8)
  inn : Bool
  rem : Bool
def growS (l : List (List UInt8)) (c : UInt8) : List (List UInt8) := match l.getLast? with
  | none => l
  | some x => l.dropLast ++ [x ++ [c]]
def doneS (d : List (List (List UInt8))) (l : List (List UInt8)) : List (List (List UInt8)) := if l.isEmpty then d else d ++ [l]
def astep (x : ASt) (c : UInt8) : ASt :=
  if c = 10 then ⟨doneS x.done x.line, [], false, false⟩
  else if (x.rem || c == 35) || isGap c then ⟨x.done, x.line, false, x.rem || c == 35⟩
  else if x.inn then ⟨x.done, growS x.line c, true, x.rem⟩
  else ⟨x.done, x.line ++ [[c]], true, x.rem⟩
def absD (D : DSt) : ASt := ⟨FS (D.done.map strs), strs D.line, D.inn, D.rem⟩
theorem FS_snoc (d : List (List (List UInt8))) (l : List (List UInt8)) : FS (d ++ [l]) = doneS (FS d) l := by
  unfold FS doneS
  rw [List.filter_append]
  cases l <;> simp
theorem strs_grow (l : List Tok) (c : UInt8) : strs (grow1 l c) = growS (strs l) c := by
  rcases List.eq_nil_or_concat l with rfl | ⟨i, x, rfl⟩
  · rfl
  · rw [List.concat_eq_append]
    unfold grow1 growS strs
    simp
theorem absD_step (D : DSt) (i : Nat) (c : UInt8) : absD (dstep D i c) = astep (absD D) c := by
  unfold dstep astep absD
  simp only
  split
  · simp only [List.map_append, List.map_cons, List.map_nil, FS_snoc]
    rfl
  · split
    · rfl
    · split
      · simp only [strs_grow]
      · simp only [strs, List.map_append, List.map_cons, List.map_nil]
def aRun (t : List UInt8) : ASt := t.foldl astep ⟨[], [], false, false⟩
theorem absD_run (t : List UInt8) : absD (docD t) = aRun t := by
  induction t using snoc_ind' with
  | h0 => rfl
  | h1 l c ih =>
    rw [docD_step, absD_step, ih]
    unfold aRun
    rw [List.foldl_append]
    rfl
theorem FS_lines (t : List UInt8) : FS ((lineToks t).map strs) = doneS (aRun t).done (aRun t).line := by
  rw [← absD_run t]
  show FS (((docD t).done ++ [(docD t).line]).map strs) = _
  rw [List.map_append, List.map_cons, List.map_nil, FS_snoc]
  rfl
/-! ### what AsmGaps puts in -/
def gapF (c : UInt8) : List UInt8 := if c = 10 then [32, 35, 32, 100, 117, 112, 32, 97, 58, 32, 53, 10, 32, 9, 10, 10] else if c = 32 then [9, 32, 32] else [c]
def gapT (t : List UInt8) : List UInt8 := [32, 9, 10, 35, 32, 110, 111, 116, 104, 105, 110, 103, 10, 9] ++ t.flatMap gapF ++ [9, 35, 32, 112, 117, 115, 104, 56, 10]
theorem astep_rem (x : ASt) (c : UInt8) (h : x.rem = true) (h10 : c ≠ 10) : astep x c = ⟨x.done, x.line, false, true⟩ := by
  unfold astep
  rw [if_neg h10, h]
  simp
theorem gap_step (x : ASt) (c : UInt8) : (gapF c).foldl astep x = astep x c := by
  unfold gapF
  split
  · rename_i h
    subst h
    obtain ⟨d, l, i, r⟩ := x
    simp [List.foldl_cons, List.foldl_nil, astep, isGap, doneS]
  · split
    · rename_i h
      subst h
      obtain ⟨d, l, i, r⟩ := x
      simp [List.foldl_cons, List.foldl_nil, astep, isGap]
    · rfl
theorem gap_steps (t : List UInt8) : ∀ x, (t.flatMap gapF).foldl astep x = t.foldl astep x := by
  induction t with
  | nil => intro x; rfl
  | cons c t ih =>
    intro x
    rw [List.flatMap_cons, List.foldl_append, gap_step, List.foldl_cons, ih]
theorem gap_same (t : List UInt8) : FS ((lineToks (gapT t)).map strs) = FS ((lineToks t).map strs) := by
  rw [FS_lines, FS_lines]
  have e : aRun (gapT t) = ⟨doneS (aRun t).done (aRun t).line, [], false, false⟩ := by
    unfold gapT aRun
    rw [List.foldl_append, List.foldl_append, gap_steps]
    have e0 : List.foldl astep ⟨[], [], false, false⟩ [32, 9, 10, 35, 32, 110, 111, 116, 104, 105, 110, 103, 10, 9] = ⟨[], [], false, false⟩ := by
      simp [List.foldl_cons, List.foldl_nil, astep, isGap, doneS]
    rw [e0]
    generalize t.foldl astep ⟨[], [], false, false⟩ = x
    obtain ⟨d, l, i, r⟩ := x
    simp [List.foldl_cons, List.foldl_nil, astep, isGap, doneS]
  rw [e]
  rfl
theorem parse_gaps (t : List UInt8) : PEq (parseF (gapT t)) (parseF t) := parse_rel (gap_same t)
theorem gap_len (t : List UInt8) : (gapT t).length ≤ 16 * t.length + 23 := by
  have : ∀ t : List UInt8, (t.flatMap gapF).length ≤ 16 * t.length := by
    intro t
    induction t with
    | nil => exact Nat.le_refl _
    | cons c t ih =>
      rw [List.flatMap_cons, List.length_append, List.length_cons]
      have : (gapF c).length ≤ 16 := by unfold gapF; split <;> (try split) <;> simp
      omega
  unfold gapT
  rw [List.length_append, List.length_append]
  have := this t
  simp only [List.length_cons, List.length_nil]
  omega
end Go.Proofs.YthghnihlfdoefaaDoor
