/- Touched, as the program tells it. -/
import Derived.Test.YtnpeldbnnneijaaMsq
import Derived.Test.YtnpeldbnnneijaaMr1
import Derived.Maps.OwnSet
namespace Go.Proofs.Ytnpeldbnnneijaa
open Go.RowKit Go.Joins Go.ChangeShapes Go.WideShapes Go.Deep Go.Maps
set_option linter.unusedVariables false
set_option maxRecDepth 100000

abbrev K3 := Int × Int × Int
def wfK (a : K3) : Prop := (Lit.int .i64 a.1).wf = true ∧ (Lit.int .i64 a.2.1).wf = true ∧ (Lit.int .i64 a.2.2).wf = true
def addrKey (a : K3) : Lit := .string (keyBytes [.int .i64 a.1, .int .i64 a.2.1, .int .i64 a.2.2])
theorem addr_law : Keyed Try.prog 24 := Keyed.of_law (deep_law_laid laidOut (m := 2) (by omega) (of_decide_eq_true (by kernel_rfl)) (by kernel_rfl) (by kernel_rfl))
theorem zero_int (w : World) : (zeroValue 3).run Try.prog w = .ok (.int .i64 0) w := Try.zeroValue3 w
theorem kco_int : Try.prog.cellsOf 3 = 1 := by kernel_rfl
theorem key_addr {a : K3} (h : wfK a) : keyOf Try.prog 24 (.agg #[.int .i64 a.1, .int .i64 a.2.1, .int .i64 a.2.2]) = some (addrKey a) := by
  obtain ⟨wa, wb, wc⟩ := h
  have hkt : Try.prog.keyType 24 = true := by kernel_rfl
  have hC : Try.prog.cellsOf 24 = 3 := by kernel_rfl
  obtain ⟨m, hm⟩ : ∃ m, Try.prog.types.size = m + 1 := ⟨Try.prog.types.size - 1, by have : 0 < Try.prog.types.size := of_decide_eq_true (by kernel_rfl); omega⟩
  unfold keyOf
  simp only [Try.underlying24]
  rw [if_pos (by simp [hkt, Value.formed, Try.underlying24, hC]), hm]
  unfold Program.keyLits
  simp only [Try.underlying24, Value.cells]
  rw [if_pos ⟨by rw [hC]; rfl, by kernel_rfl⟩]
  simp [List.mapM_cons, kco_int, Program.keyLits, Try.underlying3, wa, wb, wc, addrKey]
theorem addrKey_inj {a b : K3} (ha : wfK a) (hb : wfK b) (h : addrKey a = addrKey b) : a = b := by
  have h1 := key_addr ha
  have h2 := key_addr hb
  rw [h] at h1
  have := addr_law.inj h1 h2
  obtain ⟨a1, a2, a3⟩ := a
  obtain ⟨b1, b2, b3⟩ := b
  simp only [Value.agg.injEq, Array.mk.injEq, List.cons.injEq, Value.int.injEq, true_and, and_true] at this
  obtain ⟨e1, e2, e3⟩ := this
  (try simp only at e1 e2 e3)
  rw [e1, e2, e3]

def Dm (ks : List K3) : DataW Unit := ks.zipIdx.foldl (fun D p => D.put (addrKey p.1) (.lit (.int .i64 (p.2 : Int)))) (.map [])
theorem Dm_snoc (ks : List K3) (k : K3) : Dm (ks ++ [k]) = (Dm ks).put (addrKey k) (.lit (.int .i64 (ks.length : Int))) := by
  unfold Dm
  rw [List.zipIdx_append, List.foldl_append]
  simp
theorem snoc_ind {α : Type} {P : List α → Prop} (h0 : P []) (h1 : ∀ l x, P l → P (l ++ [x])) (l : List α) : P l := by
  rw [← List.reverse_reverse l]
  induction l.reverse with
  | nil => exact h0
  | cons x r ih => rw [List.reverse_cons]; exact h1 _ _ ih
theorem Dm_isMap (ks : List K3) : IsMap (Dm ks) := by
  induction ks using snoc_ind with
  | h0 => exact ⟨[], rfl⟩
  | h1 l x ih => rw [Dm_snoc]; exact ih.put _ _
theorem Dm_has (ks : List K3) (k : K3) (hw : ∀ x ∈ ks, wfK x) (hk : wfK k) : Maps.has (Dm ks) (addrKey k) = decide (k ∈ ks) := by
  induction ks using snoc_ind with
  | h0 => rfl
  | h1 l x ih =>
    rw [Dm_snoc]
    by_cases e : k = x
    · subst e
      rw [has_put_same (Dm_isMap l) (addr_law.key (key_addr hk))]
      simp
    · rw [has_put_other (fun h => e (addrKey_inj hk (hw x (by simp)) h)), ih fun y hy => hw y (by simp [hy])]
      simp [e]
theorem Dm_at (ks : List K3) (z : DataW Unit) (hw : ∀ x ∈ ks, wfK x) (hn : ks.Nodup) (i : Nat) (hi : i < ks.length) : (Dm ks).atKey (addrKey ks[i]) z = .lit (.int .i64 (i : Int)) := by
  induction ks using snoc_ind with
  | h0 => simp at hi
  | h1 l x ih =>
    rw [Dm_snoc]
    have hn2 := List.nodup_append.1 hn
    by_cases e : i = l.length
    · subst e
      rw [List.getElem_concat_length rfl, atKey_put_same (Dm_isMap l) (addr_law.key (key_addr (hw x (by simp))))]
    · have hil : i < l.length := by simp at hi; omega
      rw [List.getElem_append_left hil]
      rw [atKey_put_other (fun h => ?_)]
      · exact ih (fun y hy => hw y (by simp [hy])) hn2.1 hil
      · have := addrKey_inj (hw _ (by simp)) (hw x (by simp)) h
        exact hn2.2.2 _ (List.getElem_mem hil) x (by simp) this

/-! ### What a round does to the list -/
theorem rows_set {α : Type} (enc : α → List Value) (sz : Nat) (hk : ∀ x, (enc x).length = sz) (l : List α) (k t : Nat) (y : α) (u : Value) (hkl : k < l.length) (ht : t < sz) (hy : enc y = (enc l[k]).set t u) : rows enc (l.set k y) = (rows enc l).set (k * sz + t) u := by
  apply List.ext_getElem?
  intro p
  have hL : (rows enc l).length = l.length * sz := rows_length enc sz hk l
  have hL2 : (rows enc (l.set k y)).length = l.length * sz := by rw [rows_length enc sz hk, List.length_set]
  by_cases hp : p < l.length * sz
  · obtain ⟨q, r, e, h1, h2⟩ : ∃ q r, p = q * sz + r ∧ q < l.length ∧ r < sz := ⟨p / sz, p % sz, by have := Nat.div_add_mod p sz; rw [Nat.mul_comm] at this; omega, (Nat.div_lt_iff_lt_mul (by omega)).2 hp, Nat.mod_lt _ (by omega)⟩
    subst e
    have hA := rows_at enc sz hk (l.set k y) q r (by simpa using h1) h2
    have hB := rows_at enc sz hk l q r h1 h2
    by_cases e1 : k = q
    · subst e1
      by_cases e2 : t = r
      · subst e2
        rw [hA, List.getElem_set_self, hy, List.getElem?_set_self (by rw [hk]; exact ht), List.getElem?_set_self (by rw [hL]; exact hp)]
      · rw [hA, List.getElem_set_self, hy, List.getElem?_set_ne e2, List.getElem?_set_ne (by omega), hB]
    · rw [hA, List.getElem_set_ne e1, List.getElem?_set_ne, hB]
      intro h
      have : (k * sz + t) / sz = (q * sz + r) / sz := by rw [h]
      rw [Nat.mul_comm k, Nat.mul_comm q, Nat.mul_add_div (by omega), Nat.mul_add_div (by omega), Nat.div_eq_of_lt ht, Nat.div_eq_of_lt h2] at this
      omega
  · rw [List.getElem?_eq_none (by omega), List.getElem?_eq_none (by rw [List.length_set]; omega)]
theorem touchAll_set (out : List Tch) (x : Acc) (hn : (out.map Tch.key).Nodup) (k : Nat) (hk : k < out.length) (hx : out[k].key = x.key) : touchAll out x = out.set k (bump out[k] x.kind) := by
  unfold touchAll
  apply List.ext_getElem
  · simp
  · intro i h1 h2
    simp only [List.getElem_map]
    by_cases e : k = i
    · subst e
      rw [if_pos hx, List.getElem_set_self]
    · rw [List.getElem_set_ne e, if_neg]
      intro h
      have hl : i < out.length := by simpa using h1
      have := List.pairwise_iff_getElem.1 hn
      rcases Nat.lt_or_gt_of_ne e with h3 | h3
      · exact this k i (by simpa using hk) (by simpa using hl) h3 (by rw [List.getElem_map, List.getElem_map, hx, h])
      · exact this i k (by simpa using hl) (by simpa using hk) h3 (by rw [List.getElem_map, List.getElem_map, hx, h])
def kindAt (kind : Int) : Nat := if kind = 1 then 3 else if kind = 2 then 4 else 5
def kindOf (t : Tch) (kind : Int) : Int := if kind = 1 then t.loads else if kind = 2 then t.stores else t.swaps
theorem touchAll_row (out : List Tch) (x : Acc) (hn : (out.map Tch.key).Nodup) (k : Nat) (hk : k < out.length) (hx : out[k].key = x.key) :
    tchs (touchAll out x) = (tchs out).set (k * 6 + kindAt x.kind) (.int .i64 (kindOf out[k] x.kind + 1)) := by
  rw [touchAll_set out x hn k hk hx]
  refine rows_set Tch.cells 6 (fun _ => rfl) out k (kindAt x.kind) _ _ hk (by unfold kindAt; split; omega; split <;> omega) ?_
  unfold bump kindAt kindOf
  split
  · rfl
  · split <;> rfl
theorem occ_nodup (L : List Acc) : ((L.foldl occ []).map Tch.key).Nodup := by
  obtain ⟨hp, hr⟩ := touch_both L
  have : ((L.foldl ins []).map Tch.key).Nodup := by
    refine List.Pairwise.imp ?_ hr
    intro a b h e
    subst e
    exact lt3_irr _ h
  exact (hp.map Tch.key).nodup_iff.1 this
def SmallT (n : Nat) (t : Tch) : Prop := 0 ≤ t.loads ∧ t.loads ≤ n ∧ 0 ≤ t.stores ∧ t.stores ≤ n ∧ 0 ≤ t.swaps ∧ t.swaps ≤ n
theorem bump_small {n : Nat} {t : Tch} (k : Int) (h : SmallT n t) : SmallT (n + 1) (bump t k) := by
  unfold SmallT bump at *
  split
  · simp only; omega
  · split <;> simp only <;> omega
theorem occ_small (L : List Acc) : (L.foldl occ []).length ≤ L.length ∧ (∀ t ∈ L.foldl occ [], SmallT L.length t) ∧ ∀ t ∈ L.foldl occ [], ∃ x ∈ L, t.key = x.key := by
  induction L using snoc_ind with
  | h0 => exact ⟨by simp, by simp, by simp⟩
  | h1 l x ih =>
    obtain ⟨i1, i2, i3⟩ := ih
    rw [List.foldl_append, List.length_append]
    simp only [List.foldl_cons, List.foldl_nil, List.length_cons, List.length_nil, Nat.zero_add]
    generalize l.foldl occ [] = out at *
    have hs : ∀ t ∈ (if x.key ∈ out.map Tch.key then out else out ++ [start x]), SmallT l.length t ∧ ∃ y ∈ l ++ [x], t.key = y.key := by
      intro t ht
      split at ht
      · obtain ⟨y, hy, e⟩ := i3 t ht
        exact ⟨i2 t ht, y, by simp [hy], e⟩
      · rcases List.mem_append.1 ht with ht | ht
        · obtain ⟨y, hy, e⟩ := i3 t ht
          exact ⟨i2 t ht, y, by simp [hy], e⟩
        · simp at ht
          subst ht
          exact ⟨⟨Int.le_refl _, by simp [start], Int.le_refl _, by simp [start], Int.le_refl _, by simp [start]⟩, x, by simp, rfl⟩
    refine ⟨?_, ?_, ?_⟩
    · unfold occ touchAll
      rw [List.length_map]
      split
      · omega
      · simp; omega
    · intro t ht
      unfold occ touchAll at ht
      obtain ⟨t', ht', rfl⟩ := List.mem_map.1 ht
      have := (hs t' ht').1
      split
      · exact bump_small _ this
      · unfold SmallT at *; omega
    · intro t ht
      unfold occ touchAll at ht
      obtain ⟨t', ht', rfl⟩ := List.mem_map.1 ht
      obtain ⟨y, hy, e⟩ := (hs t' ht').2
      refine ⟨y, hy, ?_⟩
      split
      · rw [bump_key]; exact e
      · exact e
theorem occ_step (L : List Acc) (q : Nat) (hq : q < L.length) : (L.take (q + 1)).foldl occ [] = occ ((L.take q).foldl occ []) L[q] := by
  rw [List.take_succ_eq_append_getElem hq, List.foldl_append]
  rfl
theorem occ_in {out : List Tch} {x : Acc} (h : x.key ∈ out.map Tch.key) : occ out x = touchAll out x := by unfold occ; rw [if_pos h]
theorem occ_new {out : List Tch} {x : Acc} (h : x.key ∉ out.map Tch.key) : occ out x = touchAll (out ++ [start x]) x := by unfold occ; rw [if_neg h]
theorem sorted_ins (L : List Acc) (l' : List Tch) (hp : l'.Perm (L.foldl occ [])) (hs : l'.Pairwise (fun a b => ¬ lt3 b.key a.key)) : l' = L.foldl ins [] := by
  obtain ⟨hq, hr⟩ := touch_both L
  refine rising_eq (hp.trans hq.symm) ?_ hr
  have hn : (l'.map Tch.key).Nodup := (hp.map Tch.key).nodup_iff.2 (occ_nodup L)
  unfold Rising
  rw [List.Nodup, List.pairwise_map] at hn
  rw [List.pairwise_map]
  exact (hn.and hs).imp fun h => lt3_tri h.2 (Ne.symm h.1) |> fun h2 => h2
theorem own_base {w : World} {base b' e size n : Nat} {v : Value} {xs : List Value} (h : w.ownsRow base e size v n xs) (hb : b' ≤ base) : w.ownsRow b' e size v n xs := by
  refine ⟨h.1, ?_⟩
  rcases h.2 with h0 | ⟨g, cap, cur, hv, hbb, r⟩
  · exact .inl h0
  · exact .inr ⟨g, cap, cur, hv, Nat.le_trans hb hbb, r⟩
end Go.Proofs.Ytnpeldbnnneijaa
