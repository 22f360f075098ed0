/- A list of collections of which one is turned; states of the program and of the document likewise. -/
import Derived.Test.YtpmpgnhbpneloaaQn
namespace Go.Proofs.Ytpmpgnhbpneloaa
open Go.RowKit Go.Joins Go.ChangeShapes Go.WideShapes Go.Deep
set_option linter.unusedVariables false
set_option maxRecDepth 100000

theorem Frm.mono {w w' : World} {S S' : Nat → Prop} (h : Frm w w' S) (hs : ∀ q, S q → S' q) : Frm w w' S' := ⟨h.os, h.tape, h.output, h.size, fun q hq hS => h.block q hq fun hh => hS (hs q hh)⟩
theorem Frm.trans {w w1 w2 : World} {S : Nat → Prop} {S' : Nat → Prop} (h : Frm w w1 S) (k : Frm w1 w2 S') (hs : ∀ q, S' q → S q ∨ w.heap.size ≤ q) : Frm w w2 S :=
  ⟨k.os.trans h.os, k.tape.trans h.tape, k.output.trans h.output, Nat.le_trans h.size k.size, fun q hq hS => (k.block q (Nat.lt_of_lt_of_le hq h.size) fun hh => by
    rcases hs q hh with h1 | h1
    · exact hS h1
    · omega).trans (h.block q hq hS)⟩
theorem Frm.below {w w' : World} {S : Nat → Prop} {B : Nat} (h : Frm w w' S) (hB : B ≤ w.heap.size) (hs : ∀ q, S q → B ≤ q) : Below B w w' :=
  ⟨h.os, h.tape, h.output, h.size, fun q hq => h.block q (by omega) fun hh => by have := hs q hh; omega⟩
theorem Frm.drewN {w w' : World} {S : Nat → Prop} (h : Frm w w' S) (n : Nat) : Frm w (w'.drewN n) S := ⟨h.os, h.tape, h.output, h.size, h.block⟩

theorem rows_set {α : Type} (f : α → List Value) (K : Nat) (hK : ∀ x, (f x).length = K) (l : List α) (k i j : Nat) (y : α) (u v : Value) (hk : k < l.length) (hi : i < K) (hj : j < K) (hy : f y = ((f l[k]).set i u).set j v) :
    rows f (l.set k y) = ((rows f l).set (k * K + i) u).set (k * K + j) v := by
  induction l generalizing k with
  | nil => simp at hk
  | cons a l ih =>
    cases k with
    | zero =>
      simp only [List.getElem_cons_zero] at hy
      simp only [rows, List.set_cons_zero, List.flatMap_cons, Nat.zero_mul, Nat.zero_add]
      rw [hy, List.set_append_left _ _ (by rw [hK]; exact hi), List.set_append_left _ _ (by rw [List.length_set, hK]; exact hj)]
    | succ k =>
      have := ih k (by simpa using hk) (by simpa using hy)
      simp only [rows, List.set_cons_succ, List.flatMap_cons] at this ⊢
      rw [List.set_append_right _ _ (by rw [hK, Nat.add_mul]; omega), List.set_append_right _ _ (by rw [hK, Nat.add_mul]; omega), this, hK]
      congr 3
      · rw [Nat.add_mul]; omega
      · rw [Nat.add_mul]; omega

theorem LIs.turned {w w' : World} {base : Nat} {Tt : TypeId} {K : Nat} {enc : TM → List Value} {tv : Value} {l : List TM} (h : LIs w base Tt K enc tv l) {k : Nat} (hk : k < l.length) {T cap : Nat} (htv : tv = .slice (some ⟨T, 0, none⟩) l.length cap) {iv ip : Nat} {t' : TS} {vv' pv' : Value}
    (hrows : rows enc (l.set k ⟨t', vv', pv'⟩) = ((rows enc l).set iv vv').set ip pv') (h1 : ThingIs w' base ⟨t', vv', pv'⟩) (h2 : ∀ tt cs, Blk w T tt cs → Blk w' T tt ((cs.setIfInBounds iv vv').setIfInBounds ip pv'))
    (h3 : Stp w l[k].vv vv') (h4 : Stp w l[k].pv pv') (h5 : Frm w w' (Mine T l[k])) (hT1 : Tt ≠ 2) (hT2 : Tt ≠ 54) :
    LIs w' base Tt K enc tv (l.set k ⟨t', vv', pv'⟩) ∧ (∀ b, LBlocks tv (l.set k ⟨t', vv', pv'⟩) b → LBlocks tv l b ∨ w.heap.size ≤ b) ∧ Frm w w' (LBlocks tv l) := by
  have hmine : ∀ q, Mine T l[k] q → LBlocks tv l q := by
    rintro q (rfl | e | e)
    · exact .inl (by rw [htv]; rfl)
    · exact .inr ⟨_, List.getElem_mem hk, .inl e⟩
    · exact .inr ⟨_, List.getElem_mem hk, .inr e⟩
  have hTb : tv.ownBlock = some T := by rw [htv]; rfl
  obtain ⟨csT, hcT⟩ := own_blk h.row hTb
  have hold : ∀ i (hi : i < l.length), i ≠ k → ∀ b, l[i].vv.ownBlock = some b ∨ l[i].pv.ownBlock = some b → ¬ Mine T l[k] b := by
    intro i hi hik b hb
    have hth := h.things _ (List.getElem_mem hi)
    have hthk := h.things _ (List.getElem_mem hk)
    have hsv : sep l[i].vv l[k].vv ∧ sep l[i].pv l[k].pv := by
      rcases Nat.lt_or_gt_of_ne hik with hlt | hlt
      · exact ⟨List.pairwise_iff_getElem.1 h.sepv i k hi hk hlt, List.pairwise_iff_getElem.1 h.sepp i k hi hk hlt⟩
      · have a := List.pairwise_iff_getElem.1 h.sepv k i hk hi hlt
        have b := List.pairwise_iff_getElem.1 h.sepp k i hk hi hlt
        exact ⟨fun q e e' => a q e' e, fun q e e' => b q e' e⟩
    rcases hb with hb | hb
    · obtain ⟨c1, hc1⟩ := own_blk hth.vs hb
      rintro (rfl | e | e)
      · exact hc1.ne_ hcT (Ne.symm hT1) rfl
      · exact hsv.1 b hb e
      · obtain ⟨c2, hc2⟩ := own_blk hthk.ps e
        exact hc1.ne_ hc2 (by decide) rfl
    · obtain ⟨c1, hc1⟩ := own_blk hth.ps hb
      rintro (rfl | e | e)
      · exact hc1.ne_ hcT (Ne.symm hT2) rfl
      · obtain ⟨c2, hc2⟩ := own_blk hthk.vs e
        exact hc1.ne_ hc2 (by decide) rfl
      · exact hsv.2 b hb e
  have hlt : ∀ i (hi : i < l.length) b, l[i].vv.ownBlock = some b ∨ l[i].pv.ownBlock = some b → b < w.heap.size := by
    intro i hi b hb
    have hth := h.things _ (List.getElem_mem hi)
    rcases hb with hb | hb
    · exact (hth.vs.lt b hb).2
    · exact (hth.ps.lt b hb).2
  refine ⟨⟨?_, ?_, ?_, ?_⟩, ?_, h5.mono hmine⟩
  · rw [List.length_set]
    have hr := h.row
    rcases hr.2 with ⟨e, _⟩ | ⟨g, cp, cur, e, hb, hh, hnc, hm, hs, ht⟩
    · rw [htv] at e
      injection e with e _ _
      cases e
    · rw [htv] at e
      injection e with e1 e2 e3
      injection e1 with e1
      injection e1 with e1 _ _
      subst e1 e3
      refine ⟨by rw [hrows]; simpa using hr.1, .inr ⟨T, cap, _, htv, hb, h2 _ _ hh, hnc, hm, by simpa using hs, ?_⟩⟩
      rw [hrows]
      simp only [Array.toList_setIfInBounds]
      rw [← ht, List.take_set, List.take_set]
  · intro x hx
    obtain ⟨i, hi, rfl⟩ := List.getElem_of_mem hx
    rw [List.length_set] at hi
    rw [List.getElem_set]
    split
    · exact h1
    · rename_i hne
      exact (h.things _ (List.getElem_mem hi)).keep fun b hb => h5.block b (hlt i hi b hb) (hold i hi (Ne.symm hne) b hb)
  · rw [List.pairwise_iff_getElem]
    intro i j hi hj hij
    rw [List.length_set] at hi hj
    have hs := List.pairwise_iff_getElem.1 h.sepv i j hi hj hij
    rw [List.getElem_set, List.getElem_set]
    split
    · rename_i e
      subst e
      rw [if_neg (by omega)]
      intro b hb e
      rcases h3 with h3 | h3
      · exact hs b (by rw [← h3]; exact hb) e
      · have := h3 b hb
        have := hlt j hj b (.inl e)
        omega
    · split
      · rename_i e
        subst e
        intro b hb e
        rcases h3 with h3 | h3
        · exact hs b hb (by rw [← h3]; exact e)
        · have := h3 b e
          have := hlt i hi b (.inl hb)
          omega
      · exact hs
  · rw [List.pairwise_iff_getElem]
    intro i j hi hj hij
    rw [List.length_set] at hi hj
    have hs := List.pairwise_iff_getElem.1 h.sepp i j hi hj hij
    rw [List.getElem_set, List.getElem_set]
    split
    · rename_i e
      subst e
      rw [if_neg (by omega)]
      intro b hb e
      rcases h4 with h4 | h4
      · exact hs b (by rw [← h4]; exact hb) e
      · have := h4 b hb
        have := hlt j hj b (.inr e)
        omega
    · split
      · rename_i e
        subst e
        intro b hb e
        rcases h4 with h4 | h4
        · exact hs b hb (by rw [← h4]; exact e)
        · have := h4 b e
          have := hlt i hi b (.inr hb)
          omega
      · exact hs
  · rintro b (hb | ⟨x, hx, hb⟩)
    · exact .inl (.inl hb)
    · obtain ⟨i, hi, rfl⟩ := List.getElem_of_mem hx
      rw [List.length_set] at hi
      rw [List.getElem_set] at hb
      split at hb
      · rename_i e
        subst e
        rcases hb with hb | hb
        · rcases h3 with h3 | h3
          · exact .inl (.inr ⟨_, List.getElem_mem hi, .inl (by rw [← h3]; exact hb)⟩)
          · exact .inr (h3 b hb)
        · rcases h4 with h4 | h4
          · exact .inl (.inr ⟨_, List.getElem_mem hi, .inr (by rw [← h4]; exact hb)⟩)
          · exact .inr (h4 b hb)
      · exact .inl (.inr ⟨_, List.getElem_mem hi, hb⟩)

/-- The blocks of a state of the program. -/
def PBlk (s g : Nat) (tv : Value) (l : List TM) (b : Nat) : Prop := b = s ∨ b = g ∨ LBlocks tv l b
theorem PIs.cel {w : World} {base s g : Nat} {tv : Value} {raw : List Int} {l : List TM} (h : PIs w base s g tv raw l) {k : Nat} (hk : k < l.length) :
    ∃ T cap, tv = .slice (some ⟨T, 0, none⟩) l.length cap ∧ Cel w base T (k * 4 + 2) (k * 4 + 3) l[k] ∧ w.cell? ⟨T, k * 4, none⟩ = some (.int .i64 l[k].t.kind) ∧ w.cell? ⟨T, k * 4 + 1, none⟩ = some (.int .i64 l[k].t.most) ∧ T < w.heap.size := by
  obtain ⟨T, cap, htv, hb, hTl⟩ := h.ls.row.form (by omega)
  have hTb : tv.ownBlock = some T := by rw [htv]; rfl
  obtain ⟨cs, hcs⟩ := own_blk h.ls.row hTb
  have hc : ∀ t u, t < 4 → l[k].cells[t]? = some u → w.cell? ⟨T, k * 4 + t, none⟩ = some u := by
    intro t u ht hu
    have := h.ls.row.cells hTb (k * 4 + t) u (by rw [rows_at TM.cells 4 (fun _ => rfl) l k t hk ht]; exact hu)
    rw [show ((⟨T, 0, none⟩ : Addr).add (k * 4 + t)) = ⟨T, k * 4 + t, none⟩ by unfold Addr.add; split <;> simp_all] at this
    exact this
  have hth := h.ls.things _ (List.getElem_mem hk)
  refine ⟨T, cap, htv, ⟨hc 2 _ (by omega) rfl, hc 3 _ (by omega) rfl, hcs.frozen _, hcs.frozen _, hth, hTl, ?_, ?_, by omega⟩, by simpa using hc 0 _ (by omega) rfl, hc 1 _ (by omega) rfl, hTl⟩
  · exact own_blk_ne hth.vs hcs (by decide)
  · exact own_blk_ne hth.ps hcs (by decide)
theorem PIs.turned {w w' : World} {base s g : Nat} {tv : Value} {raw : List Int} {l : List TM} (h : PIs w base s g tv raw l) {k : Nat} (hk : k < l.length) {T cap : Nat} (htv : tv = .slice (some ⟨T, 0, none⟩) l.length cap) {t' : TS} (hkind : t'.kind = l[k].t.kind) (hmost : t'.most = l[k].t.most)
    (hp : XPost w w' base T (k * 4 + 2) (k * 4 + 3) l[k] t') : ∃ l', PIs w' base s g tv raw l' ∧ l'.map TM.t = (l.map TM.t).set k t' ∧ Frm w w' (LBlocks tv l) ∧ (∀ b, LBlocks tv l' b → LBlocks tv l b ∨ w.heap.size ≤ b) := by
  obtain ⟨vv', pv', h1, h2, h3, h4, h5⟩ := hp
  have hrows : rows TM.cells (l.set k ⟨t', vv', pv'⟩) = ((rows TM.cells l).set (k * 4 + 2) vv').set (k * 4 + 3) pv' :=
    rows_set TM.cells 4 (fun _ => rfl) l k 2 3 _ vv' pv' hk (by omega) (by omega) (by simp [TM.cells, hkind, hmost])
  obtain ⟨hL, hB, hF⟩ := h.ls.turned hk htv hrows h1 h2 h3 h4 h5 (by decide) (by decide)
  have hTb : tv.ownBlock = some T := by rw [htv]; rfl
  have hns : ¬ LBlocks tv l s := fun hb => h.ls.ne hb h.blk (by decide) (by decide) (by decide) rfl
  have hng : ¬ LBlocks tv l g := by
    rintro (hb | ⟨x, hx, hb | hb⟩)
    · obtain ⟨c, hc⟩ := own_blk h.ls.row hb
      exact hc.ne_ h.rawb (by decide) rfl
    · exact h.sepr x hx hb
    · obtain ⟨c, hc⟩ := own_blk (h.ls.things x hx).ps hb
      exact hc.ne_ h.rawb (by decide) rfl
  refine ⟨l.set k ⟨t', vv', pv'⟩, ⟨?_, ?_, hL, ?_, h.b0, h.b1⟩, by rw [List.map_set], hF, hB⟩
  · exact (hF.block s h.blk.lt hns).trans h.blk
  · exact (hF.block g h.rawb.lt hng).trans h.rawb
  · intro x hx hg
    rcases hB g (.inr ⟨x, hx, .inl hg⟩) with e | e
    · exact hng e
    · have := h.rawb.lt
      omega
end Go.Proofs.Ytpmpgnhbpneloaa
