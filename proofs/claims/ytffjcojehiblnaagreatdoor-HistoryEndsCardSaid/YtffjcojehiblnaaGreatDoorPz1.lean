/- Plain: what a history's transactions have written; the cells in the end. -/
import Derived.Test.YtffjcojehiblnaaGreatDoorPy
namespace Go.Proofs.YtffjcojehiblnaaGreatDoor
set_option linter.unusedVariables false
set_option linter.unusedSimpArgs false

def isStep (n : Nat) (e : Ev) : Bool := decide ((e.kind = 2 ∨ e.kind = 3) ∧ e.tx = n)
/-- The steps of a history's transactions; as many have published as the book counts. -/
structure SInv (h : List Ev) (b : Book) : Prop where
  steps : ∀ n (hn : n < b.l.length), (b.l[n]).steps = h.filter (isStep n)
  lt : ∀ e ∈ h, 0 ≤ e.tx ∧ e.tx < b.l.length
  cells : ∀ t ∈ b.l, ∀ e ∈ t.steps, 0 ≤ e.cell ∧ e.cell < 1024
  pub : b.l.countP (fun t => decide (t.stamp ≠ 0)) = b.pub
theorem SInv.start : SInv [] book0 := ⟨fun n hn => absurd hn (by simp [book0]), fun e he => absurd he (by simp), fun t ht => absurd ht (by simp [book0]), rfl⟩
theorem SInv.set {h : List Ev} {b : Book} (I : SInv h b) {n : Nat} (hn : n < b.l.length) {t' : TxP} {e : Ev} (hx : e.tx = n) {b' : Book} (hl : b'.l = b.l.set n t') (hs : t'.steps = (b.l[n]).steps ++ (if isStep n e = true then [e] else [])) (hc : isStep n e = true → 0 ≤ e.cell ∧ e.cell < 1024)
    (hp : (b.l.set n t').countP (fun t => decide (t.stamp ≠ 0)) = b'.pub) : SInv (h ++ [e]) b' := by
  refine ⟨fun k hk => ?_, fun x hxm => ?_, fun t ht x hxm => ?_, by rw [hl]; exact hp⟩
  · have hk' : k < b.l.length := by rw [hl, List.length_set] at hk; exact hk
    have e1 : b'.l[k] = (b.l.set n t')[k]'(by rw [List.length_set]; exact hk') := by congr 1
    rw [e1, List.getElem_set, List.filter_append]
    by_cases hkn : n = k
    · subst hkn
      rw [if_pos rfl, hs, I.steps n hn]
      congr 1
      by_cases hb : isStep n e = true <;> simp [hb]
    · rw [if_neg hkn, I.steps k hk']
      have : isStep k e = false := by
        unfold isStep
        refine decide_eq_false fun hh => hkn ?_
        have := hh.2
        omega
      simp [this]
  · rw [hl, List.length_set]
    rcases List.mem_append.1 hxm with hh | hh
    · exact I.lt x hh
    · obtain rfl := List.mem_singleton.1 hh
      omega
  · rw [hl] at ht
    rcases List.mem_or_eq_of_mem_set ht with ht | ht
    · exact I.cells t ht x hxm
    · subst ht
      rw [hs] at hxm
      rcases List.mem_append.1 hxm with hh | hh
      · exact I.cells _ (List.getElem_mem hn) x hh
      · split at hh
        · next hb =>
          obtain rfl := List.mem_singleton.1 hh
          exact hc hb
        · cases hh
theorem countP_same {l : List TxP} {n : Nat} (hn : n < l.length) {t' : TxP} (h : t'.stamp = l[n].stamp) : (l.set n t').countP (fun t => decide (t.stamp ≠ 0)) = l.countP (fun t => decide (t.stamp ≠ 0)) := by
  rw [List.countP_set hn]
  have hle : (if decide (l[n].stamp ≠ 0) = true then 1 else 0) ≤ l.countP (fun t => decide (t.stamp ≠ 0)) := by
    split
    · next hh => exact List.countP_pos_iff.2 ⟨_, List.getElem_mem hn, hh⟩
    · omega
  simp only [h]
  omega
theorem countP_one {l : List TxP} {n : Nat} (hn : n < l.length) {t' : TxP} (h0 : l[n].stamp = 0) (h : t'.stamp ≠ 0) : (l.set n t').countP (fun t => decide (t.stamp ≠ 0)) = l.countP (fun t => decide (t.stamp ≠ 0)) + 1 := by
  rw [List.countP_set hn]
  simp [h0, h]
theorem s_next {h : List Ev} {b b' : Book} {e : Ev} (I : SInv h b) (J : StInv b) (hn : nextF b e = some b') : SInv (h ++ [e]) b' := by
  unfold nextF at hn
  split at hn
  · cases hn
  split at hn
  · next h7 =>
    split at hn
    · cases hn
    · next hx =>
      injection hn with hn
      subst hn
      have hx' : e.tx = b.l.length := by simpa using hx
      have hns : ∀ k, isStep k e = false := fun k => by
        unfold isStep
        exact decide_eq_false fun hh => by omega
      refine ⟨fun k hk => ?_, fun x hxm => ?_, fun t ht x hxm => ?_, ?_⟩
      · simp only at hk ⊢
        rw [List.filter_append]
        have hf : List.filter (isStep k) [e] = [] := by simp [hns k]
        rw [hf, List.append_nil]
        rcases Nat.lt_or_ge k b.l.length with hk2 | hk2
        · rw [List.getElem_append_left hk2]
          exact I.steps k hk2
        · rw [List.getElem_append_right hk2]
          have hk0 : k - b.l.length = 0 := by simp at hk; omega
          simp only [hk0, List.getElem_singleton]
          rw [List.filter_eq_nil_iff.2]
          intro x hx2
          unfold isStep
          have := I.lt x hx2
          simp
          omega
      · show 0 ≤ x.tx ∧ x.tx < ((b.l ++ [_]).length : Nat)
        rw [List.length_append, List.length_singleton]
        rcases List.mem_append.1 hxm with hh | hh
        · have := I.lt x hh
          omega
        · obtain rfl := List.mem_singleton.1 hh
          omega
      · rcases List.mem_append.1 ht with ht | ht
        · exact I.cells t ht x hxm
        · rw [List.mem_singleton] at ht
          subst ht
          cases hxm
      · show (b.l ++ [_]).countP _ = b.pub
        rw [List.countP_append, I.pub]
        simp
  split at hn
  · next h7 hx =>
    have hxn : e.tx = (e.tx.toNat : Nat) := by omega
    unfold nextT at hn
    split at hn
    · cases hn
    split at hn
    · next h1 =>
      split at hn
      · cases hn
      · injection hn with hn
        subst hn
        have hns : isStep e.tx.toNat e = false := by unfold isStep; exact decide_eq_false fun hh => by omega
        exact I.set hx.2 hxn rfl (by simp [hns]) (fun hh => by rw [hns] at hh; cases hh) ((countP_same hx.2 (by rfl)).trans I.pub)
    split at hn
    · cases hg : goesF (b.l[e.tx.toNat]'hx.2) b.pub b.done e with
      | none => rw [hg] at hn; cases hn
      | some z =>
        obtain ⟨t', p', d'⟩ := z
        rw [hg] at hn
        injection hn with hn
        subst hn
        unfold goesF at hg
        split at hg
        · next h5 =>
          split at hg
          · cases hg
          · simp only [Option.some.injEq, Prod.mk.injEq] at hg
            obtain ⟨rfl, rfl, rfl⟩ := hg
            have hns : isStep e.tx.toNat e = false := by unfold isStep; exact decide_eq_false fun hh => by omega
            exact I.set hx.2 hxn rfl (by simp [hns]) (fun hh => by rw [hns] at hh; cases hh) ((countP_same hx.2 (by rfl)).trans I.pub)
        split at hg
        · cases hg
        next hst =>
        split at hg
        · next h23 =>
          split at hg
          · cases hg
          · next hc =>
            simp only [Option.some.injEq, Prod.mk.injEq] at hg
            obtain ⟨rfl, rfl, rfl⟩ := hg
            have hns : isStep e.tx.toNat e = true := by unfold isStep; exact decide_eq_true ⟨h23, hxn⟩
            exact I.set hx.2 hxn rfl (by simp [hns]) (fun _ => by omega) ((countP_same hx.2 (by rfl)).trans I.pub)
        split at hg
        · next h4 =>
          split at hg
          · cases hg
          · next he =>
            simp only [Option.some.injEq, Prod.mk.injEq] at hg
            obtain ⟨rfl, rfl, rfl⟩ := hg
            have hns : isStep e.tx.toNat e = false := by unfold isStep; exact decide_eq_false fun hh => by omega
            have hse : e.stamp ≠ 0 := by
              have : e.stamp = (b.pub : Int) + 1 := by simpa using he
              omega
            exact I.set hx.2 hxn rfl (by simp [hns]) (fun hh => by rw [hns] at hh; cases hh) ((countP_one hx.2 (by simpa using hst) (by exact hse)).trans (by rw [I.pub]))
        split at hg
        · next h6 =>
          simp only [Option.some.injEq, Prod.mk.injEq] at hg
          obtain ⟨rfl, rfl, rfl⟩ := hg
          have hns : isStep e.tx.toNat e = false := by unfold isStep; exact decide_eq_false fun hh => by omega
          exact I.set hx.2 hxn rfl (by simp [hns]) (fun hh => by rw [hns] at hh; cases hh) ((countP_same hx.2 (by rfl)).trans I.pub)
        · cases hg
    · cases hn
  · cases hn
theorem s_read {l : List Ev} : ∀ {h : List Ev} {b b' : Book} {i : Nat}, SInv h b → StInv b → readF b i l = .ok b' → SInv (h ++ l) b' := by
  induction l with
  | nil =>
    intro h b b' i I J hr
    injection hr with hr
    rw [List.append_nil]
    exact hr ▸ I
  | cons e r ih =>
    intro h b b' i I J hr
    unfold readF at hr
    cases hn : nextF b e with
    | none => rw [hn] at hr; cases hr
    | some b1 =>
      rw [hn] at hr
      have := ih (s_next I J hn) (st_next J hn) hr
      simpa using this
theorem s_read0 {l : List Ev} {b : Book} (h : readF book0 0 l = .ok b) : SInv l b := by
  have := s_read SInv.start StInv.start h
  simpa using this
end Go.Proofs.YtffjcojehiblnaaGreatDoor

/- Plain: the cells in the end, by transactions in the order of stamps. -/
namespace Go.Proofs.YtffjcojehiblnaaGreatDoor
set_option linter.unusedVariables false
set_option linter.unusedSimpArgs false

def isW (c : Int) (e : Ev) : Bool := decide (e.kind = 3 ∧ e.cell = c)
/-- The last write of a cell. -/
def lastO (c : Int) (es : List Ev) : Option Int := es.foldl (fun o e => if isW c e = true then some e.value else o) none
theorem lastO_snoc (c : Int) (es : List Ev) (e : Ev) : lastO c (es ++ [e]) = if isW c e = true then some e.value else lastO c es := by simp [lastO, List.foldl_append]
theorem lastO_filter (c : Int) (p : Ev → Bool) (hp : ∀ e, isW c e = true → p e = true) (es : List Ev) : lastO c (es.filter p) = lastO c es := by
  unfold lastO
  suffices h : ∀ (es : List Ev) (o : Option Int), (es.filter p).foldl (fun o e => if isW c e = true then some e.value else o) o = es.foldl (fun o e => if isW c e = true then some e.value else o) o from h es none
  intro es
  induction es with
  | nil => intro o; rfl
  | cons e r ih =>
    intro o
    by_cases h : p e = true
    · rw [List.filter_cons_of_pos h, List.foldl_cons, List.foldl_cons]
      exact ih _
    · rw [List.filter_cons_of_neg h, List.foldl_cons, ih]
      have : ¬ isW c e = true := fun hh => h (hp e hh)
      rw [if_neg this]
/-- A cell behind a transaction's first steps. -/
def stepV (t : TxP) (c v : Int) (es : List Ev) : Int := if t.stamp ≠ 0 then (lastO c es).getD v else v
theorem stepV_nil (t : TxP) (c v : Int) : stepV t c v [] = v := by unfold stepV lastO; simp
theorem stepV_snoc (t : TxP) (c v : Int) (es : List Ev) (e : Ev) : stepV t c v (es ++ [e]) = if t.stamp ≠ 0 ∧ isW c e = true then e.value else stepV t c v es := by
  unfold stepV
  rw [lastO_snoc]
  by_cases h1 : t.stamp ≠ 0
  · by_cases h2 : isW c e = true
    · simp [h1, h2]
    · simp [h1, h2]
  · simp [h1]
/-- A cell behind transactions, one by one. -/
def valF (ts : List TxP) (c : Int) : Int := ts.foldl (fun v t => stepV t c v t.steps) 0
theorem valF_snoc (ts : List TxP) (t : TxP) (c : Int) : valF (ts ++ [t]) c = stepV t c (valF ts c) t.steps := by simp [valF, List.foldl_append]
theorem valF_filter (ts : List TxP) (c : Int) : valF (ts.filter fun t => decide (t.stamp ≠ 0)) c = valF ts c := by
  unfold valF
  suffices h : ∀ (ts : List TxP) (v : Int), (ts.filter fun t => decide (t.stamp ≠ 0)).foldl (fun v t => stepV t c v t.steps) v = ts.foldl (fun v t => stepV t c v t.steps) v from h ts 0
  intro ts
  induction ts with
  | nil => intro v; rfl
  | cons t r ih =>
    intro v
    by_cases h : t.stamp = 0
    · rw [List.filter_cons_of_neg (by simp [h]), List.foldl_cons, ih]
      unfold stepV
      simp [h]
    · rw [List.filter_cons_of_pos (by simp [h]), List.foldl_cons, List.foldl_cons]
      exact ih _
/-- The last write of a cell by a transaction, among the first events. -/
def valueF (h : List Ev) (tx c : Int) (i : Nat) : Option Int := lastO c ((h.take i).filter fun e => decide (e.tx = tx))
theorem valueF_zero (h : List Ev) (tx c : Int) : valueF h tx c 0 = none := rfl
theorem valueF_succ (h : List Ev) (tx c : Int) (i : Nat) (hi : i < h.length) : valueF h tx c (i + 1) = if h[i].kind = 3 ∧ h[i].tx = tx ∧ h[i].cell = c then some h[i].value else valueF h tx c i := by
  unfold valueF
  rw [List.take_succ_eq_append_getElem hi, List.filter_append]
  by_cases h1 : h[i].tx = tx
  · rw [show List.filter (fun e : Ev => decide (e.tx = tx)) [h[i]] = [h[i]] by simp [h1], lastO_snoc]
    unfold isW
    by_cases h2 : h[i].kind = 3 ∧ h[i].cell = c
    · simp [h1, h2]
    · rw [if_neg (by simpa using h2), if_neg (fun hh => h2 ⟨hh.1, hh.2.2⟩)]
  · rw [show List.filter (fun e : Ev => decide (e.tx = tx)) [h[i]] = [] by simp [h1], List.append_nil, if_neg (fun hh => h1 hh.2.1)]
theorem valueF_steps {h : List Ev} {b : Book} (I : SInv h b) {k : Nat} (hk : k < b.l.length) (c : Int) : valueF h k c h.length = lastO c (b.l[k]).steps := by
  unfold valueF
  rw [List.take_length, I.steps k hk, ← lastO_filter c (fun e => decide (e.kind = 2 ∨ e.kind = 3)) (fun e he => by
    unfold isW at he
    have := of_decide_eq_true he
    exact decide_eq_true (.inr this.1)), List.filter_filter]
  congr 1
  refine List.filter_congr fun e _ => ?_
  unfold isStep
  simp
/-- The numbers of those that published, by their stamps. -/
def ordL (ts : List TxP) (n : Nat) : List Nat := (List.range n).flatMap fun s : Nat => (List.range ts.length).filter fun i : Nat => decide ((ts.getD i t00).stamp = (s : Int) + 1)
theorem ordL_succ (ts : List TxP) (n : Nat) : ordL ts (n + 1) = ordL ts n ++ (List.range ts.length).filter fun i => decide ((ts.getD i t00).stamp = (n : Int) + 1) := by
  unfold ordL
  rw [List.range_succ, List.flatMap_append]
  simp
theorem ordL_mem (ts : List TxP) : ∀ (n i : Nat), i ∈ ordL ts n ↔ i < ts.length ∧ 1 ≤ (ts.getD i t00).stamp ∧ (ts.getD i t00).stamp ≤ n
  | 0, i => by simp [ordL]; omega
  | n + 1, i => by
    rw [ordL_succ, List.mem_append, ordL_mem ts n i, List.mem_filter, List.mem_range, decide_eq_true_eq]
    constructor
    · rintro (⟨h1, h2, h3⟩ | ⟨h1, h2⟩)
      · exact ⟨h1, h2, by omega⟩
      · exact ⟨h1, by omega, by omega⟩
    · rintro ⟨h1, h2, h3⟩
      by_cases h : (ts.getD i t00).stamp ≤ n
      · exact .inl ⟨h1, h2, h⟩
      · exact .inr ⟨h1, by omega⟩
theorem getD_at {ts : List TxP} {i : Nat} (h : i < ts.length) : ts.getD i t00 = ts[i] := by
  rw [List.getD_eq_getElem?_getD, List.getElem?_eq_getElem h]; rfl
theorem ordL_pw {b : Book} (I : StInv b) : ∀ n, (ordL b.l n).Pairwise fun i j => (b.l.getD i t00).stamp < (b.l.getD j t00).stamp
  | 0 => by simp [ordL]
  | n + 1 => by
    rw [ordL_succ, List.pairwise_append]
    refine ⟨ordL_pw I n, ?_, fun i hi j hj => ?_⟩
    · refine List.Pairwise.imp_of_mem ?_ ((List.pairwise_lt_range (n := b.l.length)).filter _)
      intro i j hi hj hij
      rw [List.mem_filter, List.mem_range, decide_eq_true_eq] at hi hj
      have := List.pairwise_iff_getElem.1 I.ne i j hi.1 hj.1 hij
      rw [← getD_at hi.1, ← getD_at hj.1] at this
      omega
    · have := (ordL_mem b.l n i).1 hi
      rw [List.mem_filter, decide_eq_true_eq] at hj
      omega
theorem ordL_perm {b : Book} (I : StInv b) {n : Nat} (hn : b.pub ≤ n) : ((ordL b.l n).map fun i => b.l.getD i t00).Perm (b.l.filter fun t => decide (t.stamp ≠ 0)) := by
  have h1 : (ordL b.l n).Perm ((List.range b.l.length).filter fun i => decide ((b.l.getD i t00).stamp ≠ 0)) := by
    refine (List.perm_ext_iff_of_nodup ?_ (List.nodup_range.filter _)).2 fun i => ?_
    · exact (ordL_pw I n).imp fun h e => by subst e; omega
    · rw [ordL_mem, List.mem_filter, List.mem_range, decide_eq_true_eq]
      constructor
      · rintro ⟨h1, h2, h3⟩
        exact ⟨h1, by omega⟩
      · rintro ⟨h1, h2⟩
        have := I.rng _ (List.getElem_mem h1)
        rw [← getD_at h1] at this
        exact ⟨h1, by omega, by omega⟩
  refine (h1.map _).trans ?_
  have h2 : (List.range b.l.length).map (fun i => b.l.getD i t00) = b.l := by
    apply List.ext_getElem
    · simp
    · intro i h3 h4
      rw [List.getElem_map, List.getElem_range, getD_at h4]
  have h3 := List.filter_map (f := fun i => b.l.getD i t00) (p := fun t : TxP => decide (t.stamp ≠ 0)) (l := List.range b.l.length)
  rw [h2] at h3
  rw [h3]
  exact List.Perm.refl _
/-- Sorted by stamps, or by numbers: the cells are the same. -/
theorem val_same {b : Book} {l : List Ev} (I : StInv b) (S : SInv l b) {ts : List TxP} (hp : ts.Perm b.l) (hs : ts.Pairwise fun x y => x.stamp ≤ y.stamp) (c : Int) : valF ((ordL b.l b.l.length).map fun i => b.l.getD i t00) c = valF ts c := by
  have hpub : b.pub ≤ b.l.length := by rw [← S.pub]; exact List.countP_le_length
  rw [← valF_filter ts]
  congr 1
  refine perm_eq (R := fun x y : TxP => x.stamp < y.stamp) (fun x y h => by omega) ?_ ?_ ((ordL_perm I hpub).trans (hp.filter _).symm)
  · rw [List.pairwise_map]
    exact ordL_pw I _
  · have hne : ts.Pairwise fun x y => x.stamp = 0 ∨ x.stamp ≠ y.stamp := (hp.pairwise_iff (by intro x y h; omega)).2 I.ne
    refine List.Pairwise.imp_of_mem ?_ ((hs.and hne).filter _)
    intro x y hx hy h
    rw [List.mem_filter, decide_eq_true_eq] at hx
    omega
end Go.Proofs.YtffjcojehiblnaaGreatDoor
