/- A book whose one transaction has changed, or that has one more. -/
import Derived.Test.YtffjcojehiblnaaDoorHn
namespace Go.Proofs.YtffjcojehiblnaaDoor
open Go.RowKit Go.Joins Go.ChangeShapes Go.WideShapes Go.Deep
set_option linter.unusedVariables false
set_option linter.unusedSimpArgs false
set_option maxRecDepth 100000

theorem ptrs_set (l : List TxM) (k : Nat) (x y : TxM) (hx : l[k]? = some x) (hg : y.g = x.g) : (l.set k y).map (fun z => Value.pointer (some ⟨z.g, 0, none⟩)) = l.map (fun z => Value.pointer (some ⟨z.g, 0, none⟩)) := by
  rw [List.map_set]
  refine List.ext_getElem? fun i => ?_
  rw [List.getElem?_set]
  split
  · next h =>
    subst h
    obtain ⟨hk, rfl⟩ := List.getElem?_eq_some_iff.1 hx
    rw [if_pos (by simpa using hk), List.getElem?_map, hx, hg]
    rfl
  · rfl
theorem own_ne {w : World} {B1 B2 n1 n2 s1 s2 : Nat} {t1 t2 : TypeId} {v1 v2 : Value} {x1 x2 : List Value} (h1 : w.ownsRow B1 t1 s1 v1 n1 x1) (h2 : w.ownsRow B2 t2 s2 v2 n2 x2) (ht : t1 ≠ t2) {q : Nat} (hq : v1.ownBlock = some q) : v2.ownBlock ≠ some q := fun hh => by
  obtain ⟨c1, hc1⟩ := own_blk h1 hq
  obtain ⟨c2, hc2⟩ := own_blk h2 hh
  exact (hc1.ne_ hc2 ht) rfl
theorem own_ne_blk {w : World} {B1 n1 s1 b : Nat} {t1 t2 : TypeId} {v1 : Value} {x1 : List Value} {cs : Array Value} (h1 : w.ownsRow B1 t1 s1 v1 n1 x1) (h2 : Blk w b t2 cs) (ht : t1 ≠ t2) : v1.ownBlock ≠ some b := fun hh => by
  obtain ⟨c1, hc1⟩ := own_blk h1 hh
  exact (hc1.ne_ h2 ht) rfl
/-- One of the book's transactions is another's apart. -/
theorem BookAt.apart {w : World} {base s : Nat} {lv : Value} {b : Book} {l : List TxM} (h : BookAt w base s lv b l) {i j : Nat} {x y : TxM} (hx : l[i]? = some x) (hy : l[j]? = some y) (hij : i ≠ j) {q : Nat} (hq : TxBlk y q) : ¬ (q = s ∨ TxBlk x q) := by
  have hX := h.txs x (List.mem_of_getElem? hx)
  have hY := h.txs y (List.mem_of_getElem? hy)
  obtain ⟨hi, rfl⟩ := List.getElem?_eq_some_iff.1 hx
  obtain ⟨hj, rfl⟩ := List.getElem?_eq_some_iff.1 hy
  have hg : l[i].g ≠ l[j].g := by
    rcases Nat.lt_or_gt_of_ne hij with hlt | hlt
    · exact (List.pairwise_iff_getElem.1 h.gs) i j hi hj hlt
    · exact Ne.symm ((List.pairwise_iff_getElem.1 h.gs) j i hj hi hlt)
  have hs : ∀ q, l[i].sv.ownBlock = some q → l[j].sv.ownBlock ≠ some q := by
    rcases Nat.lt_or_gt_of_ne hij with hlt | hlt
    · exact (List.pairwise_iff_getElem.1 h.ss) i j hi hj hlt
    · exact fun q h1 h2 => (List.pairwise_iff_getElem.1 h.ss) j i hj hi hlt q h2 h1
  rcases hq with rfl | hq
  · rintro (h0 | h0 | h0)
    · exact (h.blk.ne_ hY.blk (by decide)) h0.symm
    · exact hg h0.symm
    · exact own_ne_blk hX.steps hY.blk (by decide) h0
  · rintro (h0 | h0 | h0)
    · exact own_ne_blk hY.steps h.blk (by decide) (h0 ▸ hq)
    · exact own_ne_blk hY.steps hX.blk (by decide) (h0 ▸ hq)
    · exact hs q h0 hq
theorem BookAt.upd {w w' : World} {base s k : Nat} {lv sv' : Value} {b : Book} {l : List TxM} {x : TxM} {t' : TxP} {at' : Int} {p' d' : Nat} (h : BookAt w base s lv b l) (hx : l[k]? = some x) (hT : TxAt w' base ⟨t', x.g, sv'⟩) (hB : Blk w' s 76 #[lv, .int .i64 at', .int .i64 p', .int .i64 d'])
    (ho : sv'.ownBlock = x.sv.ownBlock ∨ ∀ q, sv'.ownBlock = some q → w.heap.size ≤ q) (hF : Frm w w' (fun q => q = s ∨ TxBlk x q)) : BookAt w' base s lv ⟨b.l.set k t', at', p', d'⟩ (l.set k ⟨t', x.g, sv'⟩) := by
  have hX := h.txs x (List.mem_of_getElem? hx)
  have hk : k < l.length := (List.getElem?_eq_some_iff.1 hx).1
  have hold : ∀ i y, i ≠ k → l[i]? = some y → TxAt w' base y := fun i y hi hy => (h.txs y (List.mem_of_getElem? hy)).frm hF fun q hq => h.apart hx hy (Ne.symm hi) hq
  refine ⟨hB, h.lo, ?_, ?_, ?_, ?_, ?_⟩
  · rw [List.map_set, h.eq]
  · rw [List.length_set, ptrs_set l k x ⟨t', x.g, sv'⟩ hx rfl]
    refine own_keep h.row fun q hq => hF.block q (h.row.lt q hq).2 ?_
    rintro (h0 | h0 | h0)
    · exact own_ne_blk h.row h.blk (by decide) (h0 ▸ hq)
    · exact own_ne_blk h.row hX.blk (by decide) (h0 ▸ hq)
    · exact own_ne h.row hX.steps (by decide) hq h0
  · intro y hy
    obtain ⟨i, hi⟩ := List.getElem?_of_mem hy
    rw [List.getElem?_set] at hi
    split at hi
    · first
        | (rw [if_pos hk] at hi; injection hi with hi; exact hi ▸ hT)
        | (injection hi with hi; exact hi ▸ hT)
        | (simp only [hk, if_true] at hi; injection hi with hi; exact hi ▸ hT)
    · next hne => exact hold i y (Ne.symm hne) hi
  · rw [List.pairwise_iff_getElem]
    intro i j hi hj hij
    have e : ∀ i (hi : i < (l.set k ⟨t', x.g, sv'⟩).length), ((l.set k ⟨t', x.g, sv'⟩)[i]'hi).g = (l[i]'(by simpa using hi)).g := by
      intro i hi
      rw [List.getElem_set]
      split
      · next hh => subst hh; show x.g = _; exact congrArg TxM.g (List.getElem?_eq_some_iff.1 hx).2.symm
      · rfl
    rw [e i hi, e j hj]
    exact (List.pairwise_iff_getElem.1 h.gs) i j (by simpa using hi) (by simpa using hj) hij
  · rw [List.pairwise_iff_getElem]
    intro i j hi hj hij q h1 h2
    have hi' : i < l.length := by simpa using hi
    have hj' : j < l.length := by simpa using hj
    have hss := (List.pairwise_iff_getElem.1 h.ss) i j hi' hj' hij
    have hlt : ∀ n (hn : n < l.length), l[n].sv.ownBlock = some q → q < w.heap.size := fun n hn hq => ((h.txs _ (List.getElem_mem hn)).steps.lt q hq).2
    have hxk : l[k] = x := (List.getElem?_eq_some_iff.1 hx).2
    rw [List.getElem_set] at h1 h2
    split at h1
    · next hki =>
      subst hki
      rw [if_neg (by omega)] at h2
      rcases ho with ho | ho
      · exact hss q (by rw [hxk]; exact ho ▸ h1) h2
      · have := ho q h1
        have := hlt j hj' h2
        omega
    · split at h2
      · next hkj =>
        subst hkj
        rcases ho with ho | ho
        · exact hss q h1 (by rw [hxk]; exact ho ▸ h2)
        · have := ho q h2
          have := hlt i hi' h1
          omega
      · exact hss q h1 h2
/-- One transaction more. -/
theorem BookAt.push {w w2 : World} {base s gg cap g : Nat} {lv : Value} {b : Book} {l : List TxM} {t : TxP} (h : BookAt w base s lv b l) (hown : w2.ownsRow base 59 1 (.slice (some ⟨gg, 0, none⟩) (l.length + 1) cap) (l.length + 1) (l.map (fun z => Value.pointer (some ⟨z.g, 0, none⟩)) ++ [.pointer (some ⟨g, 0, none⟩)]))
    (hb : ∀ q, q < w.heap.size → lv.ownBlock ≠ some q → w2.heap[q]? = w.heap[q]?) (hg : Blk w2 g 61 (TxM.cells ⟨t, g, .slice none 0 0⟩)) (hgl : w.heap.size ≤ g) (ht : t.steps = []) (hbase : base ≤ w.heap.size) :
    BookAt (w2.setCell ⟨s, 0, none⟩ (.slice (some ⟨gg, 0, none⟩) (l.length + 1) cap)) base s (.slice (some ⟨gg, 0, none⟩) (l.length + 1) cap) { b with l := b.l ++ [t] } (l ++ [⟨t, g, .slice none 0 0⟩]) := by
  have hs2 : Blk w2 s 76 #[lv, .int .i64 b.at_, .int .i64 b.pub, .int .i64 b.done] := (hb s h.blk.lt (own_ne_blk h.row h.blk (by decide))).trans h.blk
  have hold : ∀ y ∈ l, TxAt w2 base y := fun y hy => (h.txs y hy).keep fun q hq => hb q ((h.txs y hy).lt hq).2 fun hh => by
    rcases hq with rfl | hq
    · exact own_ne_blk h.row (h.txs y hy).blk (by decide) hh
    · exact own_ne h.row (h.txs y hy).steps (by decide) hh hq
  have hnew : TxAt w2 base ⟨t, g, .slice none 0 0⟩ := ⟨hg, Nat.le_trans hbase hgl, by
    show World.ownsRow _ _ _ _ _ t.steps.length (evs t.steps)
    rw [ht]
    exact World.ownsRow_nil _ _ _ _⟩
  refine ⟨hs2.set_ 0 _, h.lo, ?_, ?_, ?_, ?_, ?_⟩
  · rw [List.map_append, h.eq]; rfl
  · rw [List.length_append, List.map_append]
    exact own_set hown hs2 (by decide) _
  · intro y hy
    rcases List.mem_append.1 hy with hy | hy
    · exact (hold y hy).far hs2 _
    · rw [List.mem_singleton] at hy
      exact hy ▸ hnew.far hs2 _
  · rw [List.pairwise_append]
    refine ⟨h.gs, List.pairwise_singleton _ _, fun y hy z hz => ?_⟩
    rw [List.mem_singleton] at hz
    subst hz
    have := (h.txs y hy).blk.lt
    show y.g ≠ g
    omega
  · rw [List.pairwise_append]
    refine ⟨h.ss, List.pairwise_singleton _ _, fun y hy z hz q _ hq => ?_⟩
    rw [List.mem_singleton] at hz
    subst hz
    cases hq
end Go.Proofs.YtffjcojehiblnaaDoor
