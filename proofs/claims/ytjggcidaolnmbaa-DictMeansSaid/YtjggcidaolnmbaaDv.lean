/- The plain law of DictMeans: over cells that say a dict the calls do what they do to a list of pairs. No program in sight. -/
import Derived.Test.YtjggcidaolnmbaaDu
import Derived.Test.YtjggcidaolnmbaaS4
namespace Go.Proofs.Ytjggcidaolnmbaa
open Go.RowKit Go.Joins Go.ChangeShapes Go.WideShapes Go.Deep
set_option linter.unusedVariables false

/-- Cells say these pairs. -/
structure MInv (m : Nat) (cs : List Int) (l : List (Int × Int)) : Prop where
  len : cs.length = 3 * m + 1
  le : m ≤ 16
  st3 : ∀ q, q < m → st cs q = 0 ∨ st cs q = 1 ∨ st cs q = 2
  reach : ∀ q, q < m → st cs q = 1 → reachF m cs q = true
  cnt : cnt cs = l.length
  num : there m cs = l.length
  nodup : (l.map (·.1)).Nodup
  mem : ∀ k v, (k, v) ∈ l ↔ ∃ q, q < m ∧ st cs q = 1 ∧ ky cs q = k ∧ vl cs q = v

theorem MInv.tab {m : Nat} {cs : List Int} {l : List (Int × Int)} (h : MInv m cs l) : Tab m cs := ⟨h.len, h.le, h.reach⟩
theorem there_le (m : Nat) (cs : List Int) : there m cs ≤ m := by
  have := List.countP_le_length (p := fun q => st cs q == 1) (l := List.range m)
  rw [List.length_range] at this
  exact this
theorem MInv.few {m : Nat} {cs : List Int} {l : List (Int × Int)} (h : MInv m cs l) : l.length ≤ m := by have := h.num; have := there_le m cs; omega
theorem MInv.perm {m : Nat} {cs : List Int} {l l' : List (Int × Int)} (h : MInv m cs l) (hp : l'.Perm l) : MInv m cs l' :=
  ⟨h.len, h.le, h.st3, h.reach, by rw [hp.length_eq]; exact h.cnt, by rw [hp.length_eq]; exact h.num, (hp.map (·.1)).nodup_iff.2 h.nodup, fun k v => (hp.mem_iff).trans (h.mem k v)⟩

theorem there_succ (i : Nat) (cs : List Int) : there (i + 1) cs = there i cs + if st cs i = 1 then 1 else 0 := by
  unfold there
  rw [List.range_succ, List.countP_append, List.countP_singleton]
  by_cases h : st cs i = 1 <;> simp [h]
theorem accF_all (m : Nat) (cs : List Int) : ∀ (i : Nat) (l : List (Int × Int)), accF m cs i = some l → (∀ q, q < i → st cs q = 0 ∨ st cs q = 1 ∨ st cs q = 2) ∧ (∀ q, q < i → st cs q = 1 → reachF m cs q = true) ∧ there i cs = l.length ∧
    (∀ k v, (k, v) ∈ l ↔ ∃ q, q < i ∧ st cs q = 1 ∧ ky cs q = k ∧ vl cs q = v)
  | 0, l, h => by
    simp only [accF, Option.some.injEq] at h
    subst h
    exact ⟨fun q hq => by omega, fun q hq => by omega, rfl, fun k v => ⟨fun h => by simp at h, fun ⟨q, hq, _⟩ => by omega⟩⟩
  | i + 1, l, h => by
    unfold accF at h
    cases hl : accF m cs i with
    | none => rw [hl] at h; cases h
    | some l0 =>
      rw [hl] at h
      obtain ⟨h1, h2, h3, h4⟩ := accF_all m cs i l0 hl
      simp only at h
      by_cases hs : st cs i = 1
      · rw [if_pos hs] at h
        by_cases hr : reachF m cs i = true
        · rw [if_pos hr] at h
          injection h with h
          subst h
          refine ⟨fun q hq => ?_, fun q hq hq1 => ?_, ?_, fun k v => ?_⟩
          · by_cases e : q = i
            · subst e; exact .inr (.inl hs)
            · exact h1 q (by omega)
          · by_cases e : q = i
            · subst e; exact hr
            · exact h2 q (by omega) hq1
          · rw [there_succ, if_pos hs, h3]; simp
          · rw [List.mem_append, h4, List.mem_singleton]
            constructor
            · rintro (⟨q, a, b, c, d⟩ | e)
              · exact ⟨q, by omega, b, c, d⟩
              · injection e with e1 e2
                exact ⟨i, by omega, hs, e1.symm, e2.symm⟩
            · rintro ⟨q, a, b, c, d⟩
              by_cases e : q = i
              · subst e; exact .inr (by rw [c, d])
              · exact .inl ⟨q, by omega, b, c, d⟩
        · rw [if_neg hr] at h; cases h
      · rw [if_neg hs] at h
        by_cases hs2 : st cs i = 0 ∨ st cs i = 2
        · rw [if_pos hs2] at h
          injection h with h
          subst h
          refine ⟨fun q hq => ?_, fun q hq hq1 => ?_, ?_, fun k v => ?_⟩
          · by_cases e : q = i
            · subst e; omega
            · exact h1 q (by omega)
          · by_cases e : q = i
            · subst e; omega
            · exact h2 q (by omega) hq1
          · rw [there_succ, if_neg hs, h3]; rfl
          · rw [h4]
            constructor
            · rintro ⟨q, a, b, c, d⟩
              exact ⟨q, by omega, b, c, d⟩
            · rintro ⟨q, a, b, c, d⟩
              by_cases e : q = i
              · subst e; omega
              · exact ⟨q, by omega, b, c, d⟩
        · rw [if_neg hs2] at h; cases h
theorem accF_is (m : Nat) (cs : List Int) : ∀ (i : Nat), (∀ q, q < i → st cs q = 0 ∨ st cs q = 1 ∨ st cs q = 2) → (∀ q, q < i → st cs q = 1 → reachF m cs q = true) → ∃ l, accF m cs i = some l
  | 0, _, _ => ⟨[], rfl⟩
  | i + 1, h1, h2 => by
    obtain ⟨l, hl⟩ := accF_is m cs i (fun q hq => h1 q (by omega)) (fun q hq => h2 q (by omega))
    unfold accF
    rw [hl]
    simp only
    by_cases hs : st cs i = 1
    · rw [if_pos hs, if_pos (h2 i (by omega) hs)]
      exact ⟨_, rfl⟩
    · rw [if_neg hs, if_pos (by have := h1 i (by omega); omega)]
      exact ⟨_, rfl⟩

theorem nodup_keys {l : List (Int × Int)} (h : (l.map (·.1)).Nodup) : l.Nodup := (List.pairwise_map.1 h).imp fun hab e => hab (by rw [e])
/-- What Shape says is so. -/
theorem shape_inv {m : Nat} {cs : List Int} {K : Int} {L : List (Int × Int)} (hm : m ≤ 16) (hl : cs.length = 3 * m + 1) (h : shapeR m cs = (K, 0, L)) : MInv m cs L := by
  unfold shapeR at h
  rw [if_pos (by omega)] at h
  rw [Int.toNat_natCast] at h
  cases ha : accF m cs m with
  | none => rw [ha] at h; simp at h
  | some l =>
    rw [ha] at h
    simp only at h
    by_cases hc : cnt cs = (l.length : Int)
    · rw [if_pos hc] at h
      simp only [Prod.mk.injEq] at h
      obtain ⟨_, _, rfl⟩ := h
      obtain ⟨h1, h2, h3, h4⟩ := accF_all m cs m l ha
      exact MInv.perm ⟨hl, hm, h1, h2, hc, h3, (accF_keys m cs m l ha).2.1, h4⟩ (sortI_both l).1
    · rw [if_neg hc] at h
      simp at h
/-- What is so Shape says: the pairs, by rising keys. -/
theorem inv_shape {m : Nat} {cs : List Int} {l : List (Int × Int)} (h : MInv m cs l) : ∃ L, shapeR m cs = (3, 0, L) ∧ L.Perm l ∧ L.Pairwise (fun a b => a.1 < b.1) := by
  obtain ⟨l0, ha⟩ := accF_is m cs m h.st3 h.reach
  obtain ⟨h1, h2, h3, h4⟩ := accF_all m cs m l0 ha
  have hn := (accF_keys m cs m l0 ha).2.1
  have hlen : l0.length = l.length := by rw [← h3, h.num]
  have hp : l0.Perm l := by
    have n0 : l0.Nodup := nodup_keys hn
    have n1 : l.Nodup := nodup_keys h.nodup
    exact (List.perm_ext_iff_of_nodup n0 n1).2 (fun ⟨k, v⟩ => (h4 k v).trans (h.mem k v).symm)
  obtain ⟨p1, p2⟩ := sortI_both l0
  refine ⟨sortI l0, ?_, p1.trans hp, ?_⟩
  · rw [shapeR_some h.le h.len ha, if_pos (by rw [h.cnt, hlen])]
  · have hn' : ((sortI l0).map (·.1)).Nodup := (p1.map (·.1)).nodup_iff.2 hn
    rw [List.nodup_iff_pairwise_ne, List.pairwise_map] at hn'
    exact (p2.and hn').imp fun ⟨a, b⟩ => by omega

/-! ### What a call does to a list of pairs -/
/-- Where a key stands (the length: nowhere). -/
def placeN (l : List (Int × Int)) (k : Int) : Nat := l.findIdx (fun p => p.1 == k)
def meansF (l : List (Int × Int)) (m : Nat) (call : Int) (args : List Int) : List (Int × Int) × Int × Int :=
  if call = 5 then (l, l.length, 0)
  else
    let i := placeN l (args.getD 0 0)
    if h : i < l.length then
      (if call = 3 then (l.set i (l[i].1, args.getD 1 0), 0, 0)
       else if call = 2 then (l, l[i].2, 0)
       else ((l.set i (l[l.length - 1]'(by omega))).dropLast, 0, 0))
    else if call = 3 then (if m ≤ l.length then (l, 0, 2) else (l ++ [(args.getD 0 0, args.getD 1 0)], 0, 0))
    else (l, 0, 1)

theorem place_split (l : List (Int × Int)) (k : Int) (h : placeN l k < l.length) : ∃ l1 v l2, l = l1 ++ (k, v) :: l2 ∧ l1.length = placeN l k ∧ ∀ p ∈ l1, p.1 ≠ k := by
  have hk := List.findIdx_getElem (w := h)
  refine ⟨l.take (placeN l k), (l[placeN l k]).2, l.drop (placeN l k + 1), ?_, by rw [List.length_take]; omega, ?_⟩
  · have e : l[placeN l k] = (k, (l[placeN l k]).2) := by
      have : (l[placeN l k]).1 = k := by unfold placeN; simpa using hk
      exact Prod.ext this rfl
    rw [← e, List.getElem_cons_drop, List.take_append_drop]
  · intro p hp
    obtain ⟨j, hj, rfl⟩ := List.mem_take_iff_getElem.1 hp
    have := List.not_of_lt_findIdx (p := fun p : Int × Int => p.1 == k) (xs := l) (i := j) (by unfold placeN at hj; omega)
    simpa using this
theorem place_none (l : List (Int × Int)) (k : Int) (h : ¬ placeN l k < l.length) : ∀ p ∈ l, p.1 ≠ k := by
  have e : placeN l k = l.length := by have := List.findIdx_le_length (p := fun p : Int × Int => p.1 == k) (xs := l); unfold placeN at *; omega
  have := List.findIdx_eq_length.1 e
  intro p hp
  have := this p hp
  simpa using this

theorem drop_split (l1 l2 : List (Int × Int)) (x : Int × Int) : (((l1 ++ x :: l2).set l1.length ((l1 ++ x :: l2)[(l1 ++ x :: l2).length - 1]'(by simp))).dropLast).Perm (l1 ++ l2) := by
  rcases List.eq_nil_or_concat l2 with rfl | ⟨l3, z, rfl⟩
  · simp
  · have e : (l1 ++ x :: (l3.concat z))[(l1 ++ x :: (l3.concat z)).length - 1]'(by simp) = z := by
      rw [← List.getLast_eq_getElem (by simp)]
      simp [List.getLast_cons]
    rw [e]
    have e2 : (l1 ++ x :: (l3.concat z)).set l1.length z = l1 ++ z :: (l3.concat z) := by simp
    rw [e2]
    have e3 : (l1 ++ z :: (l3.concat z)).dropLast = l1 ++ z :: l3 := by
      rw [show l1 ++ z :: (l3.concat z) = (l1 ++ z :: l3) ++ [z] by simp, List.dropLast_concat]
    rw [e3]
    simp only [List.concat_eq_append]
    refine List.Perm.append_left l1 ?_
    exact (List.perm_append_comm (l₁ := [z]) (l₂ := l3))

/-! ### Each call -/
theorem MInv.uniq {m : Nat} {cs : List Int} {l : List (Int × Int)} (h : MInv m cs l) {q q' : Nat} (hq : q < m) (hq' : q' < m) (h1 : st cs q = 1) (h1' : st cs q' = 1) (hk : ky cs q = ky cs q') : q = q' :=
  reach_inj m cs q q' (h.reach q hq h1) (h.reach q' hq' h1') hk
theorem reach_mono {m : Nat} {cs cs' : List Int} {p : Nat} (hp : p < m) (h : reachF m cs p = true) (hst : st cs' p = 1) (hky : ky cs' p = ky cs p) (hpass : ∀ q, q < m → Pass cs q (ky cs p) → Pass cs' q (ky cs p)) : reachF m cs' p = true := by
  obtain ⟨t, h1, h2, h3, h4⟩ := (reach_iff m cs p).1 h
  rw [reach_iff, hky]
  exact ⟨t, h1, h2, hst, fun u hu => hpass _ (Nat.mod_lt _ (by omega)) (h4 u hu)⟩
theorem there_congr {m : Nat} {cs cs' : List Int} (h : ∀ q, q < m → st cs' q = st cs q) : there m cs' = there m cs := by
  unfold there
  refine List.countP_congr fun q hq => ?_
  rw [List.mem_range] at hq
  rw [h q hq]

/-- Another value for a key. -/
theorem MInv.valued {m : Nat} {cs : List Int} {l1 l2 : List (Int × Int)} {k v0 : Int} (h : MInv m cs (l1 ++ (k, v0) :: l2)) {q : Nat} (hq : q < m) (h1 : st cs q = 1) (hk : ky cs q = k) (v : Int) :
    MInv m (cs.set (1 + 3 * q + 2) v) (l1 ++ (k, v) :: l2) := by
  have hl := h.len
  have hst : ∀ j, st (cs.set (1 + 3 * q + 2) v) j = st cs j := fun j => by unfold st; rw [getD_set, if_neg (by omega)]
  have hky : ∀ j, ky (cs.set (1 + 3 * q + 2) v) j = ky cs j := fun j => by unfold ky; rw [getD_set, if_neg (by omega)]
  have hvl : ∀ j, vl (cs.set (1 + 3 * q + 2) v) j = if j = q then v else vl cs j := fun j => by
    unfold vl
    rw [getD_set]
    by_cases e : j = q
    · subst e; rw [if_pos ⟨rfl, by omega⟩, if_pos rfl]
    · rw [if_neg (by omega), if_neg e]
  have hnd := h.nodup
  rw [List.map_append, List.map_cons] at hnd
  have hn1 : ∀ p ∈ l1, p.1 ≠ k := fun p hp e => by
    have := (List.nodup_append.1 hnd).2.2 p.1 (List.mem_map.2 ⟨p, hp, rfl⟩) k (by simp)
    exact this e
  have hn2 : ∀ p ∈ l2, p.1 ≠ k := fun p hp e => by
    have := (List.nodup_cons.1 (List.nodup_append.1 hnd).2.1).1
    exact this (List.mem_map.2 ⟨p, hp, e⟩)
  refine ⟨by rw [List.length_set, hl], h.le, fun j hj => by rw [hst]; exact h.st3 j hj, fun j hj hj1 => ?_, ?_, ?_, ?_, ?_⟩
  · rw [hst] at hj1
    refine reach_mono hj (h.reach j hj hj1) (by rw [hst, hj1]) (hky j) fun x hx hp => ?_
    unfold Pass
    rw [hst, hky]
    exact hp
  · have := h.cnt
    unfold Go.Proofs.Ytjggcidaolnmbaa.cnt at this ⊢
    rw [getD_set, if_neg (by omega), this]
    simp
  · rw [there_congr (fun j _ => hst j), h.num]
    simp
  · rw [List.map_append, List.map_cons]
    exact hnd
  · intro k' v'
    have hm := h.mem k' v'
    simp only [List.mem_append, List.mem_cons] at hm ⊢
    simp only [hst, hky, hvl]
    by_cases e : k' = k
    · subst e
      constructor
      · rintro (hh | hh | hh)
        · exact absurd rfl (hn1 _ hh)
        · injection hh with _ hh
          exact ⟨q, hq, h1, hk, by rw [if_pos rfl, hh]⟩
        · exact absurd rfl (hn2 _ hh)
      · rintro ⟨j, a, b, c, d⟩
        have e := h.uniq a hq b h1 (c.trans hk.symm)
        subst e
        rw [if_pos rfl] at d
        exact .inr (.inl (by rw [d]))
    · constructor
      · intro hh
        have hh' : (k', v') ∈ l1 ∨ (k', v') = (k, v0) ∨ (k', v') ∈ l2 := by
          rcases hh with hh | hh | hh
          · exact .inl hh
          · injection hh with hh _
            exact absurd hh e
          · exact .inr (.inr hh)
        obtain ⟨j, a, b, c, d⟩ := hm.1 hh'
        exact ⟨j, a, b, c, by rw [if_neg (fun ej => e (by rw [← c, ej, hk]))]; exact d⟩
      · rintro ⟨j, a, b, c, d⟩
        rw [if_neg (fun ej => e (by rw [← c, ej, hk]))] at d
        rcases hm.2 ⟨j, a, b, c, d⟩ with hh | hh | hh
        · exact .inl hh
        · injection hh with hh _
          exact absurd hh e
        · exact .inr (.inr hh)

theorem put3_vl (cs : List Int) (q j : Nat) {kk vv : Int} (m : Nat) (hl : cs.length = 3 * m + 1) (hq : q < m) : vl (put3 cs q kk vv) j = if j = q then vv else vl cs j := by
  unfold put3 vl
  simp only [getD_set, List.length_set]
  repeat (first | (split; (try omega)) | rfl | omega)
theorem del2_ky (cs : List Int) (q j : Nat) (m : Nat) (hl : cs.length = 3 * m + 1) (hq : q < m) : ky (del2 cs q) j = ky cs j := by
  unfold del2 ky
  rw [getD_set, if_neg (by omega), getD_set, if_neg (by omega)]
theorem del2_vl (cs : List Int) (q j : Nat) (m : Nat) (hl : cs.length = 3 * m + 1) (hq : q < m) : vl (del2 cs q) j = vl cs j := by
  unfold del2 vl
  rw [getD_set, if_neg (by omega), getD_set, if_neg (by omega)]

/-- A key that comes. -/
theorem MInv.come {m : Nat} {cs : List Int} {l : List (Int × Int)} {k : Int} (h : MInv m cs l) (hno : ∀ q, q < m → st cs q = 1 → ky cs q ≠ k) {u : Nat} (hu : u < m) {q : Nat} (hqe : q = ((firstI k m).toNat + u) % m) (hq1 : st cs q ≠ 1)
    (hb : ∀ v, v < u → st cs (((firstI k m).toNat + v) % m) = 1) (v : Int) : MInv m (put3 cs q k v) (l ++ [(k, v)]) := by
  have hl := h.len
  have hq : q < m := by rw [hqe]; exact Nat.mod_lt _ (by omega)
  have hst : ∀ j, st (put3 cs q k v) j = if j = q then 1 else st cs j := fun j => put3_st cs q 0 0 j m hl hq
  have hky : ∀ j, ky (put3 cs q k v) j = if j = q then k else ky cs j := fun j => put3_ky cs q j m hl hq
  have hvl : ∀ j, vl (put3 cs q k v) j = if j = q then v else vl cs j := fun j => put3_vl cs q j m hl hq
  refine ⟨by rw [put3_len, hl], h.le, fun j hj => ?_, fun j hj hj1 => ?_, ?_, ?_, ?_, ?_⟩
  · rw [hst]
    split
    · exact .inr (.inl rfl)
    · exact h.st3 j hj
  · by_cases e : j = q
    · subst e
      rw [reach_iff, hky, if_pos rfl]
      refine ⟨u, hu, hqe.symm, by rw [hst, if_pos rfl], fun x hx => ?_⟩
      have hx1 := hb x hx
      have hxm : ((firstI k m).toNat + x) % m < m := Nat.mod_lt _ (by omega)
      have hxq : ((firstI k m).toNat + x) % m ≠ j := fun e => hq1 (by rw [← e]; exact hx1)
      unfold Pass
      rw [hst, hky, if_neg hxq, if_neg hxq]
      exact ⟨by omega, fun hh => hno _ hxm hx1 hh.2⟩
    · rw [hst, if_neg e] at hj1
      refine reach_mono hj (h.reach j hj hj1) (by rw [hst, if_neg e, hj1]) (by rw [hky, if_neg e]) fun x hx hp => ?_
      unfold Pass
      rw [hst, hky]
      by_cases ex : x = q
      · rw [if_pos ex, if_pos ex]
        exact ⟨by omega, fun hh => hno j hj hj1 hh.2.symm⟩
      · rw [if_neg ex, if_neg ex]
        exact hp
  · rw [put3_cnt cs q m hl hq, h.cnt]
    simp
  · have := h.num
    unfold there at this ⊢
    rw [countP_one (fun q => st cs q == 1) _ q (fun j hj => by simp only [hst]; rw [if_neg hj]) (by simpa using hq1) (by simp only [hst]; simp) m, if_pos hq, this]
    simp
  · rw [List.map_append, List.nodup_append]
    refine ⟨h.nodup, by simp, ?_⟩
    intro a ha b hb' e
    simp at hb'
    subst hb' e
    obtain ⟨⟨k', v'⟩, hp, rfl⟩ := List.mem_map.1 ha
    obtain ⟨j, a1, a2, a3, a4⟩ := (h.mem k' v').1 hp
    exact hno j a1 a2 a3
  · intro k' v'
    rw [List.mem_append, h.mem, List.mem_singleton]
    simp only [hst, hky, hvl]
    constructor
    · rintro (⟨j, a, b, c, d⟩ | e)
      · have e : j ≠ q := fun e => hq1 (by rw [← e]; exact b)
        exact ⟨j, a, by rw [if_neg e]; exact b, by rw [if_neg e]; exact c, by rw [if_neg e]; exact d⟩
      · injection e with e1 e2
        exact ⟨q, hq, by rw [if_pos rfl], by rw [if_pos rfl, e1], by rw [if_pos rfl, e2]⟩
    · rintro ⟨j, a, b, c, d⟩
      by_cases e : j = q
      · rw [if_pos e] at c d
        exact .inr (by rw [← c, ← d])
      · rw [if_neg e] at b c d
        exact .inl ⟨j, a, b, c, d⟩
/-- A key that goes. -/
theorem MInv.gone {m : Nat} {cs : List Int} {l1 l2 : List (Int × Int)} {k v0 : Int} (h : MInv m cs (l1 ++ (k, v0) :: l2)) {q : Nat} (hq : q < m) (h1 : st cs q = 1) (hk : ky cs q = k) : MInv m (del2 cs q) (l1 ++ l2) := by
  have hl := h.len
  have hst : ∀ j, st (del2 cs q) j = if j = q then 2 else st cs j := fun j => del2_st cs q j m hl hq
  have hky : ∀ j, ky (del2 cs q) j = ky cs j := fun j => del2_ky cs q j m hl hq
  have hvl : ∀ j, vl (del2 cs q) j = vl cs j := fun j => del2_vl cs q j m hl hq
  have hnd := h.nodup
  rw [List.map_append, List.map_cons] at hnd
  have hn1 : ∀ p ∈ l1, p.1 ≠ k := fun p hp e => by
    have := (List.nodup_append.1 hnd).2.2 p.1 (List.mem_map.2 ⟨p, hp, rfl⟩) k (by simp)
    exact this e
  have hn2 : ∀ p ∈ l2, p.1 ≠ k := fun p hp e => by
    have := (List.nodup_cons.1 (List.nodup_append.1 hnd).2.1).1
    exact this (List.mem_map.2 ⟨p, hp, e⟩)
  refine ⟨by rw [del2_len, hl], h.le, fun j hj => ?_, fun j hj hj1 => ?_, ?_, ?_, ?_, ?_⟩
  · rw [hst]
    split
    · exact .inr (.inr rfl)
    · exact h.st3 j hj
  · have e : j ≠ q := fun e => by rw [hst, if_pos e] at hj1; omega
    rw [hst, if_neg e] at hj1
    refine reach_mono hj (h.reach j hj hj1) (by rw [hst, if_neg e, hj1]) (hky j) fun x hx hp => ?_
    unfold Pass
    rw [hst, hky]
    by_cases ex : x = q
    · rw [if_pos ex]
      exact ⟨by omega, fun hh => by have := hh.1; omega⟩
    · rw [if_neg ex]
      exact hp
  · rw [del2_cnt cs q m hl hq, h.cnt]
    simp
    omega
  · have := h.num
    unfold there at this ⊢
    rw [countP_one (fun j => st (del2 cs q) j == 1) (fun q => st cs q == 1) q (fun j hj => by simp only [hst]; rw [if_neg hj]) (by simp only [hst]; simp) (by simp [h1]) m, if_pos hq] at this
    simp at this ⊢
    omega
  · rw [List.map_append]
    exact hnd.sublist (List.Sublist.append_left (List.sublist_cons_self _ _) _)
  · intro k' v'
    have hm := h.mem k' v'
    simp only [List.mem_append, List.mem_cons] at hm ⊢
    simp only [hst, hky, hvl]
    constructor
    · intro hh
      have hne : k' ≠ k := by
        rcases hh with hh | hh
        · exact hn1 _ hh
        · exact hn2 _ hh
      obtain ⟨j, a, b, c, d⟩ := hm.1 (by rcases hh with hh | hh; exact .inl hh; exact .inr (.inr hh))
      exact ⟨j, a, by rw [if_neg (fun ej => hne (by rw [← c, ej, hk]))]; exact b, c, d⟩
    · rintro ⟨j, a, b, c, d⟩
      have e : j ≠ q := fun e => by rw [if_pos e] at b; omega
      rw [if_neg e] at b
      rcases hm.2 ⟨j, a, b, c, d⟩ with hh | hh | hh
      · exact .inl hh
      · injection hh with hh _
        exact absurd (h.uniq a hq b h1 (by rw [c, hk, hh])) e
      · exact .inr hh

/-! ### The runs -/
theorem run_len (m : Nat) (cs : List Int) (hm : m ≤ 16) (hl : cs.length = 3 * m + 1) : runF 0 (2 * m + 6) cs (startF 0 m 5 []) 0 = ((cnt cs, 0, true), cs) := by
  rw [runF_then _ _ _ _ rfl]
  show runR (2 * m + 5) cs (readF (startF 0 m 5 []) ((0 : Nat) : Int) .len) = _
  rw [runR_read _ _ _ _ _ rfl (by omega) (by omega)]
  show runF 0 (2 * m + 4 + 1) cs { startF 0 m 5 [] with thn := .len } (cnt cs) = _
  rw [runF_thn _ _ _ _ _ rfl]
  exact runR_done _ _ _ _ _
theorem run_get (m : Nat) (cs : List Int) (h : Tab m cs) {q : Nat} (hq : q < m) (h1 : st cs q = 1) {k : Int} (hk : ky cs q = k) : runF 0 (2 * m + 6) cs (startF 0 m 2 [k]) 0 = ((vl cs q, 0, true), cs) := by
  have hl := h.len
  have hm := h.le
  obtain ⟨s', g', b1, _, b3, b4, b5, b6, hrun⟩ := runs_hit m cs h 2 k 0 [k] (.inl rfl) (by omega) hq h1 hk
  rw [hrun]
  have e : keyF s' k = readF s' ((1 + 3 * q + 2 : Nat) : Int) .got := by
    unfold keyF
    rw [if_pos b1.symm, if_pos b3, b6]
    congr 1
  rw [e, runR_read _ _ _ _ _ b4 (by omega) (by omega), runF_thn _ _ _ _ _ b5]
  exact runR_done _ _ _ _ _
theorem run_set (m : Nat) (cs : List Int) (h : Tab m cs) {q : Nat} (hq : q < m) (h1 : st cs q = 1) {k : Int} (hk : ky cs q = k) (v : Int) : runF 0 (2 * m + 6) cs (startF 0 m 3 [k, v]) 0 = ((0, 0, true), cs.set (1 + 3 * q + 2) v) := by
  have hl := h.len
  have hm := h.le
  obtain ⟨s', g', b1, b2, b3, b4, b5, b6, hrun⟩ := runs_hit m cs h 3 k v [k, v] (.inr rfl) (by omega) hq h1 hk
  rw [hrun]
  have e : keyF s' k = writesF { s' with thn := .fine } ⟨(0 : Nat), ((1 + 3 * q + 2 : Nat) : Int), v, 0⟩ [] := by
    unfold keyF
    rw [if_pos b1.symm, if_neg (by omega), if_pos b3, b6, b2 rfl]
    congr 1
  rw [e, runR_writes _ _ { s' with thn := .fine } _ _ _ _ _ b4 (by omega) (by omega)]
  rw [runF_then _ _ _ _ (by rfl)]
  exact runR_done _ _ _ _ _
theorem run_del (m : Nat) (cs : List Int) (h : Tab m cs) {q : Nat} (hq : q < m) (h1 : st cs q = 1) {k : Int} (hk : ky cs q = k) (hc0 : 0 ≤ cnt cs) (hc1 : cnt cs ≤ 16) : runF 0 (2 * m + 6) cs (startF 0 m 4 [k]) 0 = ((0, 0, true), del2 cs q) := by
  have hl := h.len
  have hm := h.le
  obtain ⟨s', g', b1, b2, b3, b4, b5, b6, hrun⟩ := runs_hit m cs h 4 k 0 [k] (.inl rfl) (by omega) hq h1 hk
  rw [hrun]
  have e : keyF s' k = writesF { s' with thn := .counts } ⟨(0 : Nat), ((1 + 3 * q : Nat) : Int), 2, 0⟩ [] := by
    unfold keyF
    rw [if_pos b1.symm, if_neg (by omega), if_neg (by omega), b6]
    congr 1
  have hcnt : (cs.set (1 + 3 * q) 2).getD 0 0 = cnt cs := by
    unfold cnt
    rw [getD_set, if_neg (by omega)]
  have hl2 : (cs.set (1 + 3 * q) 2).length = 3 * m + 1 := by rw [List.length_set, hl]
  rw [e, runR_writes _ _ { s' with thn := .counts } _ _ _ _ _ b4 (by omega) (by omega)]
  show runF 0 (g' + 4 + 1) (cs.set (1 + 3 * q) 2) { s' with thn := .counts, todo := [] } 0 = _
  rw [runF_then _ _ _ _ (by rfl)]
  show runR (g' + 4) (cs.set (1 + 3 * q) 2) (readF { s' with thn := .counts, todo := [] } ((0 : Nat) : Int) .countsK) = _
  rw [runR_read _ _ { s' with thn := .counts, todo := [] } _ _ b4 (by omega) (by omega), hcnt]
  show runF 0 (g' + 3 + 1) (cs.set (1 + 3 * q) 2) { s' with thn := .countsK, todo := [] } (cnt cs) = _
  rw [runF_then _ _ _ _ (by rfl)]
  show runR (g' + 3) (cs.set (1 + 3 * q) 2) (writesF { s' with thn := .fine, todo := [] } ⟨((0 : Nat) : Int), ((0 : Nat) : Int), wrap64 (cnt cs - 1), 0⟩ []) = _
  rw [runR_writes _ _ { s' with thn := .fine, todo := [] } _ _ _ _ _ b4 (by omega) (by omega), wrap64_id (by omega) (by omega)]
  show runF 0 (g' + 2 + 1) ((cs.set (1 + 3 * q) 2).set 0 (cnt cs - 1)) { s' with thn := .fine, todo := [] } 0 = _
  rw [runF_then _ _ _ _ (by rfl)]
  exact runR_done _ _ _ _ _
theorem run_none (m : Nat) (cs : List Int) (h : Tab m cs) (call k : Int) (hc : call = 2 ∨ call = 4) (hno : ∀ q, q < m → st cs q = 1 → ky cs q ≠ k) : runF 0 (2 * m + 6) cs (startF 0 m call [k]) 0 = ((0, 1, true), cs) := by
  obtain ⟨s', g', t, b1, b2, b3, b4, b5, b6, hrun, _⟩ := runs_miss m cs h call k 0 [k] (.inl rfl) (by omega) hno
  rw [hrun]
  unfold lostF
  rw [if_neg (by omega)]
  exact runR_done _ _ _ _ _
theorem run_put (m : Nat) (cs : List Int) (h : Tab m cs) (k v : Int) (hc0 : 0 ≤ cnt cs) (hc1 : cnt cs ≤ 16) (hno : ∀ q, q < m → st cs q = 1 → ky cs q ≠ k) :
    ((m : Int) ≤ cnt cs → runF 0 (2 * m + 6) cs (startF 0 m 3 [k, v]) 0 = ((0, 2, true), cs)) ∧
    (cnt cs < m → (∃ q, q < m ∧ st cs q ≠ 1) → ∃ q u, u < m ∧ q = ((firstI k m).toNat + u) % m ∧ st cs q ≠ 1 ∧ (∀ v, v < u → st cs (((firstI k m).toNat + v) % m) = 1) ∧ runF 0 (2 * m + 6) cs (startF 0 m 3 [k, v]) 0 = ((0, 0, true), put3 cs q k v)) := by
  have hl := h.len
  have hm16 := h.le
  obtain ⟨s', g', t, hk, hv, hcall, a3, a4, a5, hrun, a10, a11⟩ := runs_miss m cs h 3 k v [k, v] (.inr rfl) (by omega) hno
  have hv := hv rfl
  have e1 : runR (g' + 5) cs (lostF s') = runR (g' + 4) cs (lostKF { s' with thn := .lostK } (cnt cs)) := by
    unfold lostF
    rw [if_pos hcall]
    rw [show readF s' 0 .lostK = readF s' ((0 : Nat) : Int) .lostK from rfl, runR_read _ _ _ _ _ a3 (by omega) (by omega), runF_thn _ _ _ _ _ a5]
    rfl
  rw [hrun, e1]
  constructor
  · intro hfull
    unfold lostKF
    rw [if_pos (.inl (by show s'.most ≤ _; rw [a4]; exact hfull)), runR_done]
  · intro hroom hex
    have hfr : 0 ≤ s'.free := by
      rcases Int.lt_or_le s'.free 0 with h | h
      · exfalso
        obtain ⟨q, hq, hq1⟩ := hex
        exact hq1 (a10 h q hq)
      · exact h
    obtain ⟨u, hu, hq, hq1, hb⟩ := a11 hfr
    obtain ⟨q, hqe⟩ : ∃ q, q = ((firstI k m).toNat + u) % m := ⟨_, rfl⟩
    have hqm : q < m := by rw [hqe]; exact Nat.mod_lt _ (by omega)
    rw [← hqe] at hq hq1
    refine ⟨q, u, hu, hqe, hq1, hb, ?_⟩
    unfold lostKF
    rw [if_neg (by rintro (h | h); · have h' : s'.most ≤ cnt cs := h; omega
                   · have h' : s'.free < 0 := h; omega)]
    have ew : writesF { { s' with thn := .lostK } with thn := .fine } ⟨0, 1 + 3 * ({ s' with thn := .lostK } : DS).free, 1, 0⟩ [⟨0, 1 + 3 * ({ s' with thn := .lostK } : DS).free + 1, ({ s' with thn := .lostK } : DS).k, 0⟩, ⟨0, 1 + 3 * ({ s' with thn := .lostK } : DS).free + 2, ({ s' with thn := .lostK } : DS).v, 0⟩, ⟨0, 0, wrap64 (cnt cs + 1), 0⟩]
        = writesF { s' with thn := .fine } ⟨(0 : Nat), ((1 + 3 * q : Nat) : Int), 1, 0⟩ [⟨(0 : Nat), ((1 + 3 * q + 1 : Nat) : Int), k, 0⟩, ⟨(0 : Nat), ((1 + 3 * q + 2 : Nat) : Int), v, 0⟩, ⟨(0 : Nat), ((0 : Nat) : Int), cnt cs + 1, 0⟩] := by
      show writesF { s' with thn := .fine } ⟨0, 1 + 3 * s'.free, 1, 0⟩ [⟨0, 1 + 3 * s'.free + 1, s'.k, 0⟩, ⟨0, 1 + 3 * s'.free + 2, s'.v, 0⟩, ⟨0, 0, wrap64 (cnt cs + 1), 0⟩] = _
      rw [hq, hk, hv, wrap64_id (by omega) (by omega)]
      rfl
    rw [ew, runR_writes _ _ { s' with thn := .fine } 0 (1 + 3 * q) 1 0 _ a3 (by omega) (by omega)]
    simp only [List.map_cons, List.map_nil]
    rw [runF_todo _ _ _ 0 (1 + 3 * q + 1) k 0 0 [put 0 ⟨(0 : Nat), ((1 + 3 * q + 2 : Nat) : Int), v, 0⟩, put 0 ⟨(0 : Nat), ((0 : Nat) : Int), cnt cs + 1, 0⟩] (by simp only [List.length_set]; omega) (by simp only [List.length_set]; omega) (by rfl)]
    rw [runF_todo _ _ _ 0 (1 + 3 * q + 2) v 0 0 [put 0 ⟨(0 : Nat), ((0 : Nat) : Int), cnt cs + 1, 0⟩] (by simp; omega) (by simp; omega) (by rfl)]
    rw [runF_todo _ _ _ 0 0 (cnt cs + 1) 0 0 [] (by simp only [List.length_set]; omega) (by simp only [List.length_set]; omega) (by rfl)]
    rw [runF_then _ _ _ _ (by rfl)]
    exact runR_done _ _ _ _ _

/-- THE PLAIN LAW: a call does over cells what it does to the pairs. -/
theorem means_step {m : Nat} {cs : List Int} {l : List (Int × Int)} (h : MInv m cs l) (call : Int) (args : List Int) (ha : arityI call = args.length) :
    ∃ cs', runF 0 (2 * m + 6) cs (startF 0 m call args) 0 = (((meansF l m call args).2.1, (meansF l m call args).2.2, true), cs') ∧ MInv m cs' (meansF l m call args).1 := by
  have hfew := h.few
  have hle := h.le
  have hc := h.cnt
  unfold arityI at ha
  by_cases h5 : call = 5
  · subst h5
    have e : args = [] := by
      cases args with
      | nil => rfl
      | cons a t => simp at ha; omega
    subst e
    refine ⟨cs, ?_, ?_⟩
    · rw [run_len m cs h.le h.len]
      simp [meansF, h.cnt]
    · simpa [meansF] using h
  · by_cases hplace : placeN l (args.getD 0 0) < l.length
    · obtain ⟨l1, v0, l2, hsp, hl1, hn1⟩ := place_split l _ hplace
      obtain ⟨k, hk⟩ : ∃ k, k = args.getD 0 0 := ⟨_, rfl⟩
      rw [← hk] at hsp hl1 hn1 hplace
      have hin : (k, v0) ∈ l := by rw [hsp]; simp
      obtain ⟨q, hq, hq1, hqk, hqv⟩ := (h.mem k v0).1 hin
      have hat : ∀ (hh : placeN l k < l.length), l[placeN l k] = (k, v0) := by
        intro hh
        have e : l[placeN l k]? = some (k, v0) := by
          rw [← hl1, hsp]
          simp
        rw [List.getElem?_eq_getElem hh] at e
        exact Option.some.inj e
      have hS : MInv m cs (l1 ++ (k, v0) :: l2) := hsp ▸ h
      by_cases h3 : call = 3
      · subst h3
        match args, ha with
        | [a, v], _ =>
          simp only [List.getD_cons_zero] at hk
          subst hk
          refine ⟨cs.set (1 + 3 * q + 2) v, ?_, ?_⟩
          · rw [run_set m cs h.tab hq hq1 hqk v]
            simp [meansF, hplace]
          · have e : (meansF l m 3 [k, v]).1 = l1 ++ (k, v) :: l2 := by
              simp only [meansF, List.getD_cons_zero]
              rw [if_neg (by omega), dif_pos hplace, if_pos trivial]
              simp only [hat hplace]
              rw [← hl1]
              conv => lhs; rw [hsp]
              simp
            rw [e]
            exact hS.valued hq hq1 hqk v
      · by_cases h2 : call = 2
        · subst h2
          match args, ha with
          | [a], _ =>
            simp only [List.getD_cons_zero] at hk
            subst hk
            refine ⟨cs, ?_, ?_⟩
            · rw [run_get m cs h.tab hq hq1 hqk]
              simp [meansF, hplace, hat hplace, hqv]
            · simpa [meansF, hplace] using h
        · have h4 : call = 4 := by
            apply Classical.byContradiction
            intro h4
            rw [if_neg h3, if_neg (by omega), if_neg h5] at ha
            omega
          subst h4
          match args, ha with
          | [a], _ =>
            simp only [List.getD_cons_zero] at hk
            subst hk
            refine ⟨del2 cs q, ?_, ?_⟩
            · rw [run_del m cs h.tab hq hq1 hqk (by omega) (by omega)]
              simp [meansF, hplace]
            · have e : (meansF l m 4 [k]).1.Perm (l1 ++ l2) := by
                simp only [meansF, List.getD_cons_zero]
                rw [if_neg (by omega), dif_pos hplace, if_neg (by omega), if_neg (by omega)]
                simp only
                have hd := drop_split l1 l2 (k, v0)
                simp only [← hsp, hl1] at hd
                exact hd
              exact (hS.gone hq hq1 hqk).perm e
    · obtain ⟨k, hk⟩ : ∃ k, k = args.getD 0 0 := ⟨_, rfl⟩
      rw [← hk] at hplace
      have hnk := place_none l k hplace
      have hno : ∀ q, q < m → st cs q = 1 → ky cs q ≠ k := fun q hq h1 e => hnk (ky cs q, vl cs q) ((h.mem _ _).2 ⟨q, hq, h1, rfl, rfl⟩) e
      by_cases h3 : call = 3
      · subst h3
        match args, ha with
        | [a, v], _ =>
          simp only [List.getD_cons_zero] at hk
          subst hk
          obtain ⟨p1, p2⟩ := run_put m cs h.tab k v (by omega) (by omega) hno
          by_cases hf : m ≤ l.length
          · refine ⟨cs, ?_, ?_⟩
            · rw [p1 (by omega)]
              simp [meansF, hplace, hf]
            · simpa [meansF, hplace, hf] using h
          · obtain ⟨q, u, hu, hqe, hq1, hb, hrun⟩ := p2 (by omega) (there_room (by rw [h.num]; omega))
            refine ⟨put3 cs q k v, ?_, ?_⟩
            · rw [hrun]
              simp [meansF, hplace, hf]
            · have := h.come hno hu hqe hq1 hb v
              simpa [meansF, hplace, hf] using this
      · have h24 : call = 2 ∨ call = 4 := by
          apply Classical.byContradiction
          intro h4
          rw [if_neg h3, if_neg h4, if_neg h5] at ha
          omega
        have hal : args.length = 1 := by
          rw [if_neg h3, if_pos h24] at ha
          omega
        match args, hal with
        | [a], _ =>
          simp only [List.getD_cons_zero] at hk
          subst hk
          refine ⟨cs, ?_, ?_⟩
          · rw [run_none m cs h.tab call k h24 hno]
            simp [meansF, hplace, h5, h3]
          · simpa [meansF, hplace, h5, h3] using h
end Go.Proofs.Ytjggcidaolnmbaa
