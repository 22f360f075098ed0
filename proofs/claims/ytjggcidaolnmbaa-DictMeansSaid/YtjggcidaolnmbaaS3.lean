/- What a dict's cells say, as a plain function; the plain law: keys that are found stand once, so a sorted list is one. No program in sight. -/
import Derived.Test.YtjggcidaolnmbaaS1
import Derived.Test.YtjggcidaolnmbaaRw
namespace Go.Proofs.Ytjggcidaolnmbaa
open Go.RowKit Go.Joins Go.ChangeShapes Go.WideShapes Go.Deep
set_option linter.unusedVariables false

theorem fnd_inj (m : Nat) (cs : List Int) (key : Int) (s s' F : Nat) : ∀ (f k : Nat), fnd m cs key s F f k = true → fnd m cs key s' F f k = true → s = s'
  | 0, _, h, _ => by cases h
  | f + 1, k, h, h' => by
    rw [fnd_succ] at h h'
    by_cases h0 : st cs ((F + k) % m) = 0
    · rw [if_pos h0] at h; cases h
    · rw [if_neg h0] at h h'
      by_cases h1 : st cs ((F + k) % m) = 1 ∧ ky cs ((F + k) % m) = key
      · rw [if_pos h1] at h h'
        have a := of_decide_eq_true h
        have b := of_decide_eq_true h'
        exact a.symm.trans b
      · rw [if_neg h1] at h h'
        exact fnd_inj m cs key s s' F f (k + 1) h h'
theorem reach_inj (m : Nat) (cs : List Int) (s s' : Nat) (h : reachF m cs s = true) (h' : reachF m cs s' = true) (hk : ky cs s = ky cs s') : s = s' := by
  unfold reachF at h h'
  rw [← hk] at h'
  exact fnd_inj m cs _ s s' _ m 0 h h'

def accF (m : Nat) (cs : List Int) : Nat → Option (List (Int × Int))
  | 0 => some []
  | i + 1 => match accF m cs i with
    | none => none
    | some l => if st cs i = 1 then (if reachF m cs i = true then some (l ++ [(ky cs i, vl cs i)]) else none) else if st cs i = 0 ∨ st cs i = 2 then some l else none
def insP (p : Int × Int) (l : List (Int × Int)) : List (Int × Int) := l.takeWhile (fun q => decide (q.1 < p.1)) ++ p :: l.dropWhile (fun q => decide (q.1 < p.1))
def sortI (l : List (Int × Int)) : List (Int × Int) := l.foldl (fun a p => insP p a) []

theorem accF_none {m : Nat} {cs : List Int} {i : Nat} (h : accF m cs i = none) : ∀ j, i ≤ j → accF m cs j = none := by
  intro j hj
  induction j with
  | zero => obtain rfl : i = 0 := by omega
            exact h
  | succ j ih =>
    by_cases he : i = j + 1
    · subst he; exact h
    · simp only [accF, ih (by omega)]
theorem insP_perm (p : Int × Int) (l : List (Int × Int)) : (insP p l).Perm (p :: l) := by
  unfold insP
  refine List.perm_middle.trans ?_
  rw [List.takeWhile_append_dropWhile]
theorem insP_sorted (p : Int × Int) (l : List (Int × Int)) (h : l.Pairwise (fun a b => a.1 ≤ b.1)) : (insP p l).Pairwise (fun a b => a.1 ≤ b.1) := by
  induction l with
  | nil => simp [insP]
  | cons x l ih =>
    by_cases hx : x.1 < p.1
    · have e : insP p (x :: l) = x :: insP p l := by simp [insP, hx]
      rw [e, List.pairwise_cons]
      rw [List.pairwise_cons] at h
      refine ⟨fun y hy => ?_, ih h.2⟩
      rw [(insP_perm p l).mem_iff, List.mem_cons] at hy
      rcases hy with rfl | hy
      · omega
      · exact h.1 y hy
    · have e : insP p (x :: l) = p :: x :: l := by simp [insP, hx]
      rw [e, List.pairwise_cons]
      refine ⟨fun y hy => ?_, h⟩
      rw [List.pairwise_cons] at h
      rw [List.mem_cons] at hy
      rcases hy with rfl | hy
      · omega
      · have := h.1 y hy
        omega
theorem sortI_snoc (l : List (Int × Int)) (p : Int × Int) : sortI (l ++ [p]) = insP p (sortI l) := by simp [sortI]
theorem sortI_both (l : List (Int × Int)) : (sortI l).Perm l ∧ (sortI l).Pairwise (fun a b => a.1 ≤ b.1) := by
  suffices h : ∀ (l a : List (Int × Int)), a.Pairwise (fun a b => a.1 ≤ b.1) → (l.foldl (fun a p => insP p a) a).Perm (a ++ l) ∧ (l.foldl (fun a p => insP p a) a).Pairwise (fun a b => a.1 ≤ b.1) by
    have := h l [] .nil
    rw [List.nil_append] at this
    exact this
  intro l
  induction l with
  | nil => intro a ha; simpa using ha
  | cons p l ih =>
    intro a ha
    rw [List.foldl_cons]
    obtain ⟨h1, h2⟩ := ih (insP p a) (insP_sorted p a ha)
    refine ⟨h1.trans ?_, h2⟩
    refine ((insP_perm p a).append_right l).trans ?_
    exact List.perm_middle.symm
theorem sortI_length (l : List (Int × Int)) : (sortI l).length = l.length := (sortI_both l).1.length_eq

theorem accF_keys (m : Nat) (cs : List Int) : ∀ (i : Nat) (l : List (Int × Int)), accF m cs i = some l → l.length ≤ i ∧ (l.map (·.1)).Nodup ∧ ∀ p ∈ l, ∃ j, j < i ∧ reachF m cs j = true ∧ ky cs j = p.1
  | 0, l, h => by
    simp only [accF, Option.some.injEq] at h
    subst h
    simp
  | i + 1, l, h => by
    unfold accF at h
    cases hl : accF m cs i with
    | none => rw [hl] at h; cases h
    | some l0 =>
      rw [hl] at h
      obtain ⟨h0, h1, h2⟩ := accF_keys m cs i l0 hl
      simp only at h
      by_cases hs : st cs i = 1
      · rw [if_pos hs] at h
        by_cases hr : reachF m cs i = true
        · rw [if_pos hr] at h
          injection h with h
          subst h
          refine ⟨by simp; omega, ?_, ?_⟩
          · rw [List.map_append, List.nodup_append]
            refine ⟨h1, by simp, ?_⟩
            intro a ha b hb e
            simp at hb
            subst hb
            rw [List.mem_map] at ha
            obtain ⟨p, hp, rfl⟩ := ha
            obtain ⟨j, hj, hrj, hkj⟩ := h2 p hp
            have := reach_inj m cs j i hrj hr (hkj.trans e)
            omega
          · intro p hp
            rw [List.mem_append] at hp
            rcases hp with hp | hp
            · obtain ⟨j, hj, hrj, hkj⟩ := h2 p hp
              exact ⟨j, by omega, hrj, hkj⟩
            · simp at hp
              subst hp
              exact ⟨i, by omega, hr, rfl⟩
        · rw [if_neg hr] at h; cases h
      · rw [if_neg hs] at h
        by_cases hs2 : st cs i = 0 ∨ st cs i = 2
        · rw [if_pos hs2] at h
          injection h with h
          subst h
          exact ⟨by omega, h1, fun p hp => by obtain ⟨j, hj, hrj, hkj⟩ := h2 p hp; exact ⟨j, by omega, hrj, hkj⟩⟩
        · rw [if_neg hs2] at h; cases h

theorem nodup_inj {l : List (Int × Int)} (h : (l.map (·.1)).Nodup) {a b : Int × Int} (ha : a ∈ l) (hb : b ∈ l) (he : a.1 = b.1) : a = b := by
  induction l with
  | nil => cases ha
  | cons x l ih =>
    rw [List.map_cons, List.nodup_cons] at h
    rw [List.mem_cons] at ha hb
    rcases ha with rfl | ha
    · rcases hb with rfl | hb
      · rfl
      · exact absurd (List.mem_map.2 ⟨b, hb, he.symm⟩) h.1
    · rcases hb with rfl | hb
      · exact absurd (List.mem_map.2 ⟨a, ha, he⟩) h.1
      · exact ih h.2 ha hb
theorem sorted_one {m : Nat} {cs : List Int} {i : Nat} {l l' : List (Int × Int)} (h : accF m cs i = some l) (hp : l'.Perm l) (hs : l'.Pairwise (fun a b => a.1 ≤ b.1)) : l' = sortI l := by
  obtain ⟨-, hn, -⟩ := accF_keys m cs i l h
  obtain ⟨h1, h2⟩ := sortI_both l
  refine List.Perm.eq_of_pairwise (le := fun a b : Int × Int => a.1 ≤ b.1) (fun a b ha hb hab hba => ?_) hs h2 (hp.trans h1.symm)
  exact nodup_inj hn (hp.mem_iff.1 ha) (h1.mem_iff.1 hb) (by omega)

/-- What cells say: the kind, why not, the pairs. -/
def shapeR (most : Int) (cs : List Int) : Int × Int × List (Int × Int) :=
  if 0 ≤ most ∧ most ≤ 16 ∧ (cs.length : Int) = 3 * most + 1 then
    (match accF most.toNat cs most.toNat with
      | none => (0, 12, [])
      | some l => if cnt cs = (l.length : Int) then (3, 0, sortI l) else (0, 12, []))
  else (0, 1, [])
end Go.Proofs.Ytjggcidaolnmbaa
