/- A book whose one transaction has changed, or that has one more. -/
import Derived.Test.YtffjcojehiblnaaGreatDoorPb
import Derived.Test.YtffjcojehiblnaaGreatDoorPd
import Derived.Deep.Cut
namespace Go.Proofs.YtffjcojehiblnaaGreatDoor
open Go.RowKit Go.Joins Go.ChangeShapes Go.WideShapes Go.Deep
set_option linter.unusedVariables false
set_option linter.unusedSimpArgs false
set_option maxRecDepth 100000

theorem ptrs_set (l : List TxM) (k : Nat) (x y : TxM) (hx : l[k]? = some x) (hg : y.g = x.g) : (l.set k y).map (fun z => Value.pointer (some ⟨z.g, 0, none⟩)) = l.map (fun z => Value.pointer (some ⟨z.g, 0, none⟩)) := by
  rw [List.map_set]
  refine List.ext_getElem? fun i => ?_
  rw [List.getElem?_set]
  split
  · next h =>
    subst h
    obtain ⟨hk, rfl⟩ := List.getElem?_eq_some_iff.1 hx
    rw [if_pos (by simpa using hk), List.getElem?_map, hx, hg]
    rfl
  · rfl
theorem own_ne {w : World} {B1 B2 n1 n2 s1 s2 : Nat} {t1 t2 : TypeId} {v1 v2 : Value} {x1 x2 : List Value} (h1 : w.ownsRow B1 t1 s1 v1 n1 x1) (h2 : w.ownsRow B2 t2 s2 v2 n2 x2) (ht : t1 ≠ t2) {q : Nat} (hq : v1.ownBlock = some q) : v2.ownBlock ≠ some q := fun hh => by
  obtain ⟨c1, hc1⟩ := own_blk h1 hq
  obtain ⟨c2, hc2⟩ := own_blk h2 hh
  exact (hc1.ne_ hc2 ht) rfl
theorem own_ne_blk {w : World} {B1 n1 s1 b : Nat} {t1 t2 : TypeId} {v1 : Value} {x1 : List Value} {cs : Array Value} (h1 : w.ownsRow B1 t1 s1 v1 n1 x1) (h2 : Blk w b t2 cs) (ht : t1 ≠ t2) : v1.ownBlock ≠ some b := fun hh => by
  obtain ⟨c1, hc1⟩ := own_blk h1 hh
  exact (hc1.ne_ h2 ht) rfl
/-- One of the book's transactions is another's apart. -/
theorem BookAt.apart {w : World} {base s : Nat} {lv : Value} {b : Book} {l : List TxM} (h : BookAt w base s lv b l) {i j : Nat} {x y : TxM} (hx : l[i]? = some x) (hy : l[j]? = some y) (hij : i ≠ j) {q : Nat} (hq : TxBlk y q) : ¬ (q = s ∨ TxBlk x q) := by
  have hX := h.txs x (List.mem_of_getElem? hx)
  have hY := h.txs y (List.mem_of_getElem? hy)
  obtain ⟨hi, rfl⟩ := List.getElem?_eq_some_iff.1 hx
  obtain ⟨hj, rfl⟩ := List.getElem?_eq_some_iff.1 hy
  have hg : l[i].g ≠ l[j].g := by
    rcases Nat.lt_or_gt_of_ne hij with hlt | hlt
    · exact (List.pairwise_iff_getElem.1 h.gs) i j hi hj hlt
    · exact Ne.symm ((List.pairwise_iff_getElem.1 h.gs) j i hj hi hlt)
  have hs : ∀ q, l[i].sv.ownBlock = some q → l[j].sv.ownBlock ≠ some q := by
    rcases Nat.lt_or_gt_of_ne hij with hlt | hlt
    · exact (List.pairwise_iff_getElem.1 h.ss) i j hi hj hlt
    · exact fun q h1 h2 => (List.pairwise_iff_getElem.1 h.ss) j i hj hi hlt q h2 h1
  rcases hq with rfl | hq
  · rintro (h0 | h0 | h0)
    · exact (h.blk.ne_ hY.blk (by decide)) h0.symm
    · exact hg h0.symm
    · exact own_ne_blk hX.steps hY.blk (by decide) h0
  · rintro (h0 | h0 | h0)
    · exact own_ne_blk hY.steps h.blk (by decide) (h0 ▸ hq)
    · exact own_ne_blk hY.steps hX.blk (by decide) (h0 ▸ hq)
    · exact hs q h0 hq
theorem BookAt.upd {w w' : World} {base s k : Nat} {lv sv' : Value} {b : Book} {l : List TxM} {x : TxM} {t' : TxP} {at' : Int} {p' d' : Nat} (h : BookAt w base s lv b l) (hx : l[k]? = some x) (hT : TxAt w' base ⟨t', x.g, sv'⟩) (hB : Blk w' s 80 #[lv, .int .i64 at', .int .i64 p', .int .i64 d'])
    (ho : sv'.ownBlock = x.sv.ownBlock ∨ ∀ q, sv'.ownBlock = some q → w.heap.size ≤ q) (hF : Frm w w' (fun q => q = s ∨ TxBlk x q)) : BookAt w' base s lv ⟨b.l.set k t', at', p', d'⟩ (l.set k ⟨t', x.g, sv'⟩) := by
  have hX := h.txs x (List.mem_of_getElem? hx)
  have hk : k < l.length := (List.getElem?_eq_some_iff.1 hx).1
  have hold : ∀ i y, i ≠ k → l[i]? = some y → TxAt w' base y := fun i y hi hy => (h.txs y (List.mem_of_getElem? hy)).frm hF fun q hq => h.apart hx hy (Ne.symm hi) hq
  refine ⟨hB, h.lo, ?_, ?_, ?_, ?_, ?_⟩
  · rw [List.map_set, h.eq]
  · rw [List.length_set, ptrs_set l k x ⟨t', x.g, sv'⟩ hx rfl]
    refine own_keep h.row fun q hq => hF.block q (h.row.lt q hq).2 ?_
    rintro (h0 | h0 | h0)
    · exact own_ne_blk h.row h.blk (by decide) (h0 ▸ hq)
    · exact own_ne_blk h.row hX.blk (by decide) (h0 ▸ hq)
    · exact own_ne h.row hX.steps (by decide) hq h0
  · intro y hy
    obtain ⟨i, hi⟩ := List.getElem?_of_mem hy
    rw [List.getElem?_set] at hi
    split at hi
    · first
        | (rw [if_pos hk] at hi; injection hi with hi; exact hi ▸ hT)
        | (injection hi with hi; exact hi ▸ hT)
        | (simp only [hk, if_true] at hi; injection hi with hi; exact hi ▸ hT)
    · next hne => exact hold i y (Ne.symm hne) hi
  · rw [List.pairwise_iff_getElem]
    intro i j hi hj hij
    have e : ∀ i (hi : i < (l.set k ⟨t', x.g, sv'⟩).length), ((l.set k ⟨t', x.g, sv'⟩)[i]'hi).g = (l[i]'(by simpa using hi)).g := by
      intro i hi
      rw [List.getElem_set]
      split
      · next hh => subst hh; show x.g = _; exact congrArg TxM.g (List.getElem?_eq_some_iff.1 hx).2.symm
      · rfl
    rw [e i hi, e j hj]
    exact (List.pairwise_iff_getElem.1 h.gs) i j (by simpa using hi) (by simpa using hj) hij
  · rw [List.pairwise_iff_getElem]
    intro i j hi hj hij q h1 h2
    have hi' : i < l.length := by simpa using hi
    have hj' : j < l.length := by simpa using hj
    have hss := (List.pairwise_iff_getElem.1 h.ss) i j hi' hj' hij
    have hlt : ∀ n (hn : n < l.length), l[n].sv.ownBlock = some q → q < w.heap.size := fun n hn hq => ((h.txs _ (List.getElem_mem hn)).steps.lt q hq).2
    have hxk : l[k] = x := (List.getElem?_eq_some_iff.1 hx).2
    rw [List.getElem_set] at h1 h2
    split at h1
    · next hki =>
      subst hki
      rw [if_neg (by omega)] at h2
      rcases ho with ho | ho
      · exact hss q (by rw [hxk]; exact ho ▸ h1) h2
      · have := ho q h1
        have := hlt j hj' h2
        omega
    · split at h2
      · next hkj =>
        subst hkj
        rcases ho with ho | ho
        · exact hss q h1 (by rw [hxk]; exact ho ▸ h2)
        · have := ho q h2
          have := hlt i hi' h1
          omega
      · exact hss q h1 h2
/-- One transaction more. -/
theorem BookAt.push {w w2 : World} {base s gg cap g : Nat} {lv : Value} {b : Book} {l : List TxM} {t : TxP} (h : BookAt w base s lv b l) (hown : w2.ownsRow base 58 1 (.slice (some ⟨gg, 0, none⟩) (l.length + 1) cap) (l.length + 1) (l.map (fun z => Value.pointer (some ⟨z.g, 0, none⟩)) ++ [.pointer (some ⟨g, 0, none⟩)]))
    (hb : ∀ q, q < w.heap.size → lv.ownBlock ≠ some q → w2.heap[q]? = w.heap[q]?) (hg : Blk w2 g 66 (TxM.cells ⟨t, g, .slice none 0 0⟩)) (hgl : w.heap.size ≤ g) (ht : t.steps = []) (hbase : base ≤ w.heap.size) :
    BookAt (w2.setCell ⟨s, 0, none⟩ (.slice (some ⟨gg, 0, none⟩) (l.length + 1) cap)) base s (.slice (some ⟨gg, 0, none⟩) (l.length + 1) cap) { b with l := b.l ++ [t] } (l ++ [⟨t, g, .slice none 0 0⟩]) := by
  have hs2 : Blk w2 s 80 #[lv, .int .i64 b.at_, .int .i64 b.pub, .int .i64 b.done] := (hb s h.blk.lt (own_ne_blk h.row h.blk (by decide))).trans h.blk
  have hold : ∀ y ∈ l, TxAt w2 base y := fun y hy => (h.txs y hy).keep fun q hq => hb q ((h.txs y hy).lt hq).2 fun hh => by
    rcases hq with rfl | hq
    · exact own_ne_blk h.row (h.txs y hy).blk (by decide) hh
    · exact own_ne h.row (h.txs y hy).steps (by decide) hh hq
  have hnew : TxAt w2 base ⟨t, g, .slice none 0 0⟩ := ⟨hg, Nat.le_trans hbase hgl, by
    show World.ownsRow _ _ _ _ _ t.steps.length (evs t.steps)
    rw [ht]
    exact World.ownsRow_nil _ _ _ _⟩
  refine ⟨hs2.set_ 0 _, h.lo, ?_, ?_, ?_, ?_, ?_⟩
  · rw [List.map_append, h.eq]; rfl
  · rw [List.length_append, List.map_append]
    exact own_set hown hs2 (by decide) _
  · intro y hy
    rcases List.mem_append.1 hy with hy | hy
    · exact (hold y hy).far hs2 _
    · rw [List.mem_singleton] at hy
      exact hy ▸ hnew.far hs2 _
  · rw [List.pairwise_append]
    refine ⟨h.gs, List.pairwise_singleton _ _, fun y hy z hz => ?_⟩
    rw [List.mem_singleton] at hz
    subst hz
    have := (h.txs y hy).blk.lt
    show y.g ≠ g
    omega
  · rw [List.pairwise_append]
    refine ⟨h.ss, List.pairwise_singleton _ _, fun y hy z hz q _ hq => ?_⟩
    rw [List.mem_singleton] at hz
    subst hz
    cases hq
end Go.Proofs.YtffjcojehiblnaaGreatDoor

/- The walk of (*book).next: the next event. -/
namespace Go.Proofs.YtffjcojehiblnaaGreatDoor
open Go.RowKit Go.Joins Go.ChangeShapes Go.WideShapes Go.Deep
set_option linter.unusedVariables false
set_option linter.unusedSimpArgs false
set_option maxRecDepth 100000

def NPost (w : World) (base s : Nat) (o : Option Book) : Ending → World → Prop := fun r w' => match o with
  | none => r = .returned (.bool false) ∧ Below base w w'
  | some b' => r = .returned (.bool true) ∧ ∃ lv' l', BookAt w' base s lv' b' l' ∧ Below base w w'

set_option maxHeartbeats 400000 in
theorem next_low (e : Ev) {s base : Nat} {w : World} {lv : Value} {b : Book} {l : List TxM} (h : BookAt w base s lv b l) (c1 : e.at_ < b.at_) :
    Calls Tryz.prog 29 #[.pointer (some ⟨s, 0, none⟩), .agg (evcs e)] w (NPost w base s none) := by
  have hbw : base ≤ w.heap.size := Nat.le_trans h.lo (Nat.le_of_lt h.blk.lt)
  have hbel : Below base w (w.alloc (.cells (evcs e) 43)) := Below.alloc (Below.refl _ _) hbw _
  have h1 := h.alloc (.cells (evcs e) 43)
  have hbl : s < w.heap.size := h.blk.lt
  have hqs : w.heap.size ≠ s := Ne.symm (Nat.ne_of_lt hbl)
  have hsq : s ≠ w.heap.size := Nat.ne_of_lt hbl
  have hlo := h.lo
  have hgs : ∀ y ∈ l, y.g < w.heap.size := fun y hy => (h.txs y hy).blk.lt
  have y0 : (w.alloc (.cells (evcs e) 43)).cell? ⟨s, 0, none⟩ = some lv := (h1.blk.cell 0).trans rfl
  have y1 : (w.alloc (.cells (evcs e) 43)).cell? ⟨s, 1, none⟩ = some (.int .i64 b.at_) := (h1.blk.cell 1).trans rfl
  have y2 : (w.alloc (.cells (evcs e) 43)).cell? ⟨s, 2, none⟩ = some (.int .i64 b.pub) := (h1.blk.cell 2).trans rfl
  have fs : ∀ i, (w.alloc (.cells (evcs e) 43)).frozen? ⟨s, i, none⟩ = false := h1.blk.frozen
  have hr1 : (w.alloc (.cells (evcs e) 43)).rangeAt w.heap.size 0 (evcs e).toList := ev_range w e
  have hqW : w.heap.size < (w.alloc (.cells (evcs e) 43)).heap.size := by simp
  have v0 : (w.alloc (.cells (evcs e) 43)).cell? ⟨w.heap.size, 0, none⟩ = some (.int .i64 e.at_) := box_ev e w 0
  have hg1 : decide (e.at_ < b.at_) = true := by simp [c1]
  have H := Lib.hid h1
  have HB := Lib.hid hbel
  clear h h1 hbel
  go_enter Tryz.func29, Tryz.ntmps29
  go_wp2_with fail
  generalize w.alloc (.cells (evcs e) 43) = W1 at *
  go_quiet (fail)
  go_wp2
  go_ret
  exact ⟨rfl, by first | exact HB.out | exact below_drewN HB.out _ | exact below_drewN (below_drewN HB.out _) _⟩

set_option maxHeartbeats 400000 in
theorem next_open0 (e : Ev) {s base : Nat} {w : World} {lv : Value} {b : Book} {l : List TxM} (h : BookAt w base s lv b l) (c1 : ¬ e.at_ < b.at_) (k7 : e.kind = 7) (c2 : ¬ e.tx = b.l.length) :
    Calls Tryz.prog 29 #[.pointer (some ⟨s, 0, none⟩), .agg (evcs e)] w (NPost w base s none) := by
  have hbw : base ≤ w.heap.size := Nat.le_trans h.lo (Nat.le_of_lt h.blk.lt)
  have hbel : Below base w (w.alloc (.cells (evcs e) 43)) := Below.alloc (Below.refl _ _) hbw _
  have h1 := h.alloc (.cells (evcs e) 43)
  have hbl : s < w.heap.size := h.blk.lt
  have hqs : w.heap.size ≠ s := Ne.symm (Nat.ne_of_lt hbl)
  have hsq : s ≠ w.heap.size := Nat.ne_of_lt hbl
  have hlo := h.lo
  have hgs : ∀ y ∈ l, y.g < w.heap.size := fun y hy => (h.txs y hy).blk.lt
  have y0 : (w.alloc (.cells (evcs e) 43)).cell? ⟨s, 0, none⟩ = some lv := (h1.blk.cell 0).trans rfl
  have y1 : (w.alloc (.cells (evcs e) 43)).cell? ⟨s, 1, none⟩ = some (.int .i64 b.at_) := (h1.blk.cell 1).trans rfl
  have y2 : (w.alloc (.cells (evcs e) 43)).cell? ⟨s, 2, none⟩ = some (.int .i64 b.pub) := (h1.blk.cell 2).trans rfl
  have fs : ∀ i, (w.alloc (.cells (evcs e) 43)).frozen? ⟨s, i, none⟩ = false := h1.blk.frozen
  have hr1 : (w.alloc (.cells (evcs e) 43)).rangeAt w.heap.size 0 (evcs e).toList := ev_range w e
  have hqW : w.heap.size < (w.alloc (.cells (evcs e) 43)).heap.size := by simp
  have v0 : (w.alloc (.cells (evcs e) 43)).cell? ⟨w.heap.size, 0, none⟩ = some (.int .i64 e.at_) := box_ev e w 0
  have hg1 : decide (e.at_ < b.at_) = false := by simp; omega
  have H := Lib.hid h1
  have HB := Lib.hid hbel
  clear h h1 hbel
  go_enter Tryz.func29, Tryz.ntmps29
  go_wp2_with fail
  generalize w.alloc (.cells (evcs e) 43) = W1 at *
  go_quiet (fail)
  go_upto_region 4 with fail
  refine wp_world fun W2 hW2 => ?_
  have H2 : BookAt W2 base s lv { b with at_ := e.at_ } l := by rw [hW2]; exact (H.out.drewN _).set_ 1 (.int .i64 e.at_) { b with at_ := e.at_ } rfl rfl
  have HB2 : Below base w W2 := by rw [hW2]; exact Below.setCell (below_drewN HB.out _) hlo _
  have hr2 : W2.rangeAt w.heap.size 0 (evcs e).toList := by rw [hW2]; exact (EvS.set (W := W1) ⟨hr1⟩ ⟨s, 1, none⟩ (.int .i64 e.at_) hsq).ev
  have hqW2 : w.heap.size < W2.heap.size := by rw [hW2]; simp; omega
  have hbW2 : base ≤ W2.heap.size := by omega
  clear hW2 H HB hr1 hqW y0 y1 y2 fs v0 hg1
  clear W1
  have u2 : W2.cell? ⟨w.heap.size, 2, none⟩ = some (.int .i64 e.tx) := ev_at hr2 2 _ rfl
  have u3 : W2.cell? ⟨w.heap.size, 3, none⟩ = some (.int .i64 e.kind) := ev_at hr2 3 _ rfl
  rw [k7] at u3
  obtain ⟨R, c, hlv, hlc⟩ : ∃ R c, lv = .slice R b.l.length c ∧ b.l.length ≤ c := by
    obtain ⟨R, c, h1, h2, _⟩ := own_shapes H2.row
    rw [← H2.len] at h1 h2
    exact ⟨R, c, h1, h2⟩
  have y0 : W2.cell? ⟨s, 0, none⟩ = some lv := (H2.blk.cell 0).trans rfl
  rw [hlv] at y0
  have hb2 : (e.tx != (b.l.length : Int)) = true := by simp [c2]
  have H := Lib.hid H2
  have HB := Lib.hid HB2
  have HR := Lib.hid hr2
  clear H2 HB2 hr2
  go_wp2_with fail
  go_quiet (fail)
  go_wp2
  go_ret
  exact ⟨rfl, by first | exact HB.out | exact below_drewN HB.out _ | exact below_drewN (below_drewN HB.out _) _⟩

set_option maxHeartbeats 400000 in
theorem next_none (e : Ev) {s base : Nat} {w : World} {lv : Value} {b : Book} {l : List TxM} (h : BookAt w base s lv b l) (c1 : ¬ e.at_ < b.at_) (k7 : ¬ e.kind = 7) (c2 : ofF b e = none) :
    Calls Tryz.prog 29 #[.pointer (some ⟨s, 0, none⟩), .agg (evcs e)] w (NPost w base s none) := by
  have hbw : base ≤ w.heap.size := Nat.le_trans h.lo (Nat.le_of_lt h.blk.lt)
  have hbel : Below base w (w.alloc (.cells (evcs e) 43)) := Below.alloc (Below.refl _ _) hbw _
  have h1 := h.alloc (.cells (evcs e) 43)
  have hbl : s < w.heap.size := h.blk.lt
  have hqs : w.heap.size ≠ s := Ne.symm (Nat.ne_of_lt hbl)
  have hsq : s ≠ w.heap.size := Nat.ne_of_lt hbl
  have hlo := h.lo
  have hgs : ∀ y ∈ l, y.g < w.heap.size := fun y hy => (h.txs y hy).blk.lt
  have y0 : (w.alloc (.cells (evcs e) 43)).cell? ⟨s, 0, none⟩ = some lv := (h1.blk.cell 0).trans rfl
  have y1 : (w.alloc (.cells (evcs e) 43)).cell? ⟨s, 1, none⟩ = some (.int .i64 b.at_) := (h1.blk.cell 1).trans rfl
  have y2 : (w.alloc (.cells (evcs e) 43)).cell? ⟨s, 2, none⟩ = some (.int .i64 b.pub) := (h1.blk.cell 2).trans rfl
  have fs : ∀ i, (w.alloc (.cells (evcs e) 43)).frozen? ⟨s, i, none⟩ = false := h1.blk.frozen
  have hr1 : (w.alloc (.cells (evcs e) 43)).rangeAt w.heap.size 0 (evcs e).toList := ev_range w e
  have hqW : w.heap.size < (w.alloc (.cells (evcs e) 43)).heap.size := by simp
  have v0 : (w.alloc (.cells (evcs e) 43)).cell? ⟨w.heap.size, 0, none⟩ = some (.int .i64 e.at_) := box_ev e w 0
  have hg1 : decide (e.at_ < b.at_) = false := by simp; omega
  have H := Lib.hid h1
  have HB := Lib.hid hbel
  clear h h1 hbel
  go_enter Tryz.func29, Tryz.ntmps29
  go_wp2_with fail
  generalize w.alloc (.cells (evcs e) 43) = W1 at *
  go_quiet (fail)
  go_upto_region 4 with fail
  refine wp_world fun W2 hW2 => ?_
  have H2 : BookAt W2 base s lv { b with at_ := e.at_ } l := by rw [hW2]; exact (H.out.drewN _).set_ 1 (.int .i64 e.at_) { b with at_ := e.at_ } rfl rfl
  have HB2 : Below base w W2 := by rw [hW2]; exact Below.setCell (below_drewN HB.out _) hlo _
  have hr2 : W2.rangeAt w.heap.size 0 (evcs e).toList := by rw [hW2]; exact (EvS.set (W := W1) ⟨hr1⟩ ⟨s, 1, none⟩ (.int .i64 e.at_) hsq).ev
  have hqW2 : w.heap.size < W2.heap.size := by rw [hW2]; simp; omega
  have hbW2 : base ≤ W2.heap.size := by omega
  clear hW2 H HB hr1 hqW y0 y1 y2 fs v0 hg1
  clear W1
  have u3 : W2.cell? ⟨w.heap.size, 3, none⟩ = some (.int .i64 e.kind) := ev_at hr2 3 _ rfl
  have hk7 : decide (e.kind = 7) = false := by simp [k7]
  have H := Lib.hid H2
  have HB := Lib.hid HB2
  have HR := Lib.hid hr2
  clear H2 HB2 hr2
  go_wp2_with (first | (refine wpList_load_mid rfl 43 (.tmp 3) rfl w.heap.size 0 rfl (evcs e).toList _ HR.out Tryz.underlying43 rfl (by kernel_rfl) ?_) | (go_at_call 49; go_loud (refine (of_any H.out e).mono ?_; rintro r w3 ⟨hb3, hq⟩; rw [show ofF { b with at_ := e.at_ } e = none from c2] at hq; have hq' : r = .returned (.pointer none) := hq; clear hq; subst hq')))
  go_ret
  exact ⟨rfl, HB.out.trans (hb3.mono hbW2)⟩

set_option maxHeartbeats 400000 in
theorem next_begun0 (e : Ev) {s base : Nat} {w : World} {lv : Value} {b : Book} {l : List TxM} (h : BookAt w base s lv b l) (c1 : ¬ e.at_ < b.at_) (k7 : ¬ e.kind = 7) {k : Nat} {t : TxP} (c2 : ofF b e = some k) (ct : b.l[k]? = some t) (k1 : e.kind = 1) (hbg : t.bg = true) :
    Calls Tryz.prog 29 #[.pointer (some ⟨s, 0, none⟩), .agg (evcs e)] w (NPost w base s none) := by
  have hbw : base ≤ w.heap.size := Nat.le_trans h.lo (Nat.le_of_lt h.blk.lt)
  have hbel : Below base w (w.alloc (.cells (evcs e) 43)) := Below.alloc (Below.refl _ _) hbw _
  have h1 := h.alloc (.cells (evcs e) 43)
  have hbl : s < w.heap.size := h.blk.lt
  have hqs : w.heap.size ≠ s := Ne.symm (Nat.ne_of_lt hbl)
  have hsq : s ≠ w.heap.size := Nat.ne_of_lt hbl
  have hlo := h.lo
  have hgs : ∀ y ∈ l, y.g < w.heap.size := fun y hy => (h.txs y hy).blk.lt
  have y0 : (w.alloc (.cells (evcs e) 43)).cell? ⟨s, 0, none⟩ = some lv := (h1.blk.cell 0).trans rfl
  have y1 : (w.alloc (.cells (evcs e) 43)).cell? ⟨s, 1, none⟩ = some (.int .i64 b.at_) := (h1.blk.cell 1).trans rfl
  have y2 : (w.alloc (.cells (evcs e) 43)).cell? ⟨s, 2, none⟩ = some (.int .i64 b.pub) := (h1.blk.cell 2).trans rfl
  have fs : ∀ i, (w.alloc (.cells (evcs e) 43)).frozen? ⟨s, i, none⟩ = false := h1.blk.frozen
  have hr1 : (w.alloc (.cells (evcs e) 43)).rangeAt w.heap.size 0 (evcs e).toList := ev_range w e
  have hqW : w.heap.size < (w.alloc (.cells (evcs e) 43)).heap.size := by simp
  have v0 : (w.alloc (.cells (evcs e) 43)).cell? ⟨w.heap.size, 0, none⟩ = some (.int .i64 e.at_) := box_ev e w 0
  have hg1 : decide (e.at_ < b.at_) = false := by simp; omega
  have H := Lib.hid h1
  have HB := Lib.hid hbel
  clear h h1 hbel
  go_enter Tryz.func29, Tryz.ntmps29
  go_wp2_with fail
  generalize w.alloc (.cells (evcs e) 43) = W1 at *
  go_quiet (fail)
  go_upto_region 4 with fail
  refine wp_world fun W2 hW2 => ?_
  have H2 : BookAt W2 base s lv { b with at_ := e.at_ } l := by rw [hW2]; exact (H.out.drewN _).set_ 1 (.int .i64 e.at_) { b with at_ := e.at_ } rfl rfl
  have HB2 : Below base w W2 := by rw [hW2]; exact Below.setCell (below_drewN HB.out _) hlo _
  have hr2 : W2.rangeAt w.heap.size 0 (evcs e).toList := by rw [hW2]; exact (EvS.set (W := W1) ⟨hr1⟩ ⟨s, 1, none⟩ (.int .i64 e.at_) hsq).ev
  have hqW2 : w.heap.size < W2.heap.size := by rw [hW2]; simp; omega
  have hbW2 : base ≤ W2.heap.size := by omega
  clear hW2 H HB hr1 hqW y0 y1 y2 fs v0 hg1
  clear W1
  have u3 : W2.cell? ⟨w.heap.size, 3, none⟩ = some (.int .i64 e.kind) := ev_at hr2 3 _ rfl
  have hk7 : decide (e.kind = 7) = false := by simp [k7]
  have hk1 : decide (e.kind = 1) = true := by simp [k1]
  have H := Lib.hid H2
  have HB := Lib.hid HB2
  have HR := Lib.hid hr2
  clear H2 HB2 hr2
  go_wp2_with (first | (refine wpList_load_mid rfl 43 (.tmp 3) rfl w.heap.size 0 rfl (evcs e).toList _ HR.out Tryz.underlying43 rfl (by kernel_rfl) ?_) | (go_at_call 49; refine (of_any H.out e).mono ?_; rintro r w3 ⟨hb3, hq⟩; rw [show ofF { b with at_ := e.at_ } e = some k from c2] at hq; obtain ⟨x, hx, hbx, hq'⟩ := hq; subst hq'; (have hxt : x.t = t := Option.some.inj (hbx.symm.trans ct)); subst hxt; (have H3 := Lib.hid (H.out.below hb3 (Nat.le_refl _))); (have HT3 := Lib.hid (H3.out.txs x (List.mem_of_getElem? hx))); (have hr3 : w3.rangeAt w.heap.size 0 (evcs e).toList := fun j v hv => (hb3.cell (p := ⟨w.heap.size, 0 + j, none⟩) hqW2).trans (HR.out j v hv)); (have x6 : w3.cell? ⟨x.g, 6, none⟩ = some (.bool x.t.bg) := (HT3.out.blk.cell 6).trans rfl); rw [hbg] at x6; skip; (have r3 : w3.cell? ⟨w.heap.size, 3, none⟩ = some (.int .i64 e.kind) := ev_at hr3 3 _ rfl)))
  go_ret
  exact ⟨rfl, HB.out.trans (hb3.mono hbW2)⟩

set_option maxHeartbeats 400000 in
theorem next_dead (e : Ev) {s base : Nat} {w : World} {lv : Value} {b : Book} {l : List TxM} (h : BookAt w base s lv b l) (c1 : ¬ e.at_ < b.at_) (k7 : ¬ e.kind = 7) {k : Nat} {t : TxP} (c2 : ofF b e = some k) (ct : b.l[k]? = some t) (k1 : ¬ e.kind = 1) (hbg : t.bg = false) :
    Calls Tryz.prog 29 #[.pointer (some ⟨s, 0, none⟩), .agg (evcs e)] w (NPost w base s none) := by
  have hbw : base ≤ w.heap.size := Nat.le_trans h.lo (Nat.le_of_lt h.blk.lt)
  have hbel : Below base w (w.alloc (.cells (evcs e) 43)) := Below.alloc (Below.refl _ _) hbw _
  have h1 := h.alloc (.cells (evcs e) 43)
  have hbl : s < w.heap.size := h.blk.lt
  have hqs : w.heap.size ≠ s := Ne.symm (Nat.ne_of_lt hbl)
  have hsq : s ≠ w.heap.size := Nat.ne_of_lt hbl
  have hlo := h.lo
  have hgs : ∀ y ∈ l, y.g < w.heap.size := fun y hy => (h.txs y hy).blk.lt
  have y0 : (w.alloc (.cells (evcs e) 43)).cell? ⟨s, 0, none⟩ = some lv := (h1.blk.cell 0).trans rfl
  have y1 : (w.alloc (.cells (evcs e) 43)).cell? ⟨s, 1, none⟩ = some (.int .i64 b.at_) := (h1.blk.cell 1).trans rfl
  have y2 : (w.alloc (.cells (evcs e) 43)).cell? ⟨s, 2, none⟩ = some (.int .i64 b.pub) := (h1.blk.cell 2).trans rfl
  have fs : ∀ i, (w.alloc (.cells (evcs e) 43)).frozen? ⟨s, i, none⟩ = false := h1.blk.frozen
  have hr1 : (w.alloc (.cells (evcs e) 43)).rangeAt w.heap.size 0 (evcs e).toList := ev_range w e
  have hqW : w.heap.size < (w.alloc (.cells (evcs e) 43)).heap.size := by simp
  have v0 : (w.alloc (.cells (evcs e) 43)).cell? ⟨w.heap.size, 0, none⟩ = some (.int .i64 e.at_) := box_ev e w 0
  have hg1 : decide (e.at_ < b.at_) = false := by simp; omega
  have H := Lib.hid h1
  have HB := Lib.hid hbel
  clear h h1 hbel
  go_enter Tryz.func29, Tryz.ntmps29
  go_wp2_with fail
  generalize w.alloc (.cells (evcs e) 43) = W1 at *
  go_quiet (fail)
  go_upto_region 4 with fail
  refine wp_world fun W2 hW2 => ?_
  have H2 : BookAt W2 base s lv { b with at_ := e.at_ } l := by rw [hW2]; exact (H.out.drewN _).set_ 1 (.int .i64 e.at_) { b with at_ := e.at_ } rfl rfl
  have HB2 : Below base w W2 := by rw [hW2]; exact Below.setCell (below_drewN HB.out _) hlo _
  have hr2 : W2.rangeAt w.heap.size 0 (evcs e).toList := by rw [hW2]; exact (EvS.set (W := W1) ⟨hr1⟩ ⟨s, 1, none⟩ (.int .i64 e.at_) hsq).ev
  have hqW2 : w.heap.size < W2.heap.size := by rw [hW2]; simp; omega
  have hbW2 : base ≤ W2.heap.size := by omega
  clear hW2 H HB hr1 hqW y0 y1 y2 fs v0 hg1
  clear W1
  have u3 : W2.cell? ⟨w.heap.size, 3, none⟩ = some (.int .i64 e.kind) := ev_at hr2 3 _ rfl
  have hk7 : decide (e.kind = 7) = false := by simp [k7]
  have hk1 : decide (e.kind = 1) = false := by simp [k1]
  have H := Lib.hid H2
  have HB := Lib.hid HB2
  have HR := Lib.hid hr2
  clear H2 HB2 hr2
  go_wp2_with (first | (refine wpList_load_mid rfl 43 (.tmp 3) rfl w.heap.size 0 rfl (evcs e).toList _ HR.out Tryz.underlying43 rfl (by kernel_rfl) ?_) | (go_at_call 49; refine (of_any H.out e).mono ?_; rintro r w3 ⟨hb3, hq⟩; rw [show ofF { b with at_ := e.at_ } e = some k from c2] at hq; obtain ⟨x, hx, hbx, hq'⟩ := hq; subst hq'; (have hxt : x.t = t := Option.some.inj (hbx.symm.trans ct)); subst hxt; (have H3 := Lib.hid (H.out.below hb3 (Nat.le_refl _))); (have HT3 := Lib.hid (H3.out.txs x (List.mem_of_getElem? hx))); (have hr3 : w3.rangeAt w.heap.size 0 (evcs e).toList := fun j v hv => (hb3.cell (p := ⟨w.heap.size, 0 + j, none⟩) hqW2).trans (HR.out j v hv)); (have x6 : w3.cell? ⟨x.g, 6, none⟩ = some (.bool x.t.bg) := (HT3.out.blk.cell 6).trans rfl); rw [hbg] at x6; skip; (have r3 : w3.cell? ⟨w.heap.size, 3, none⟩ = some (.int .i64 e.kind) := ev_at hr3 3 _ rfl)))
  go_ret
  exact ⟨rfl, HB.out.trans (hb3.mono hbW2)⟩

set_option maxHeartbeats 400000 in
theorem next_begun (e : Ev) {s base : Nat} {w : World} {lv : Value} {b : Book} {l : List TxM} (h : BookAt w base s lv b l) (c1 : ¬ e.at_ < b.at_) (k7 : ¬ e.kind = 7) {k : Nat} {t : TxP} (c2 : ofF b e = some k) (ct : b.l[k]? = some t) (k1 : e.kind = 1) (hbg : t.bg = false) :
    Calls Tryz.prog 29 #[.pointer (some ⟨s, 0, none⟩), .agg (evcs e)] w (NPost w base s (some { b with at_ := e.at_, l := b.l.set k { t with bg := true, seen := e.seen } })) := by
  have hbw : base ≤ w.heap.size := Nat.le_trans h.lo (Nat.le_of_lt h.blk.lt)
  have hbel : Below base w (w.alloc (.cells (evcs e) 43)) := Below.alloc (Below.refl _ _) hbw _
  have h1 := h.alloc (.cells (evcs e) 43)
  have hbl : s < w.heap.size := h.blk.lt
  have hqs : w.heap.size ≠ s := Ne.symm (Nat.ne_of_lt hbl)
  have hsq : s ≠ w.heap.size := Nat.ne_of_lt hbl
  have hlo := h.lo
  have hgs : ∀ y ∈ l, y.g < w.heap.size := fun y hy => (h.txs y hy).blk.lt
  have y0 : (w.alloc (.cells (evcs e) 43)).cell? ⟨s, 0, none⟩ = some lv := (h1.blk.cell 0).trans rfl
  have y1 : (w.alloc (.cells (evcs e) 43)).cell? ⟨s, 1, none⟩ = some (.int .i64 b.at_) := (h1.blk.cell 1).trans rfl
  have y2 : (w.alloc (.cells (evcs e) 43)).cell? ⟨s, 2, none⟩ = some (.int .i64 b.pub) := (h1.blk.cell 2).trans rfl
  have fs : ∀ i, (w.alloc (.cells (evcs e) 43)).frozen? ⟨s, i, none⟩ = false := h1.blk.frozen
  have hr1 : (w.alloc (.cells (evcs e) 43)).rangeAt w.heap.size 0 (evcs e).toList := ev_range w e
  have hqW : w.heap.size < (w.alloc (.cells (evcs e) 43)).heap.size := by simp
  have v0 : (w.alloc (.cells (evcs e) 43)).cell? ⟨w.heap.size, 0, none⟩ = some (.int .i64 e.at_) := box_ev e w 0
  have hg1 : decide (e.at_ < b.at_) = false := by simp; omega
  have H := Lib.hid h1
  have HB := Lib.hid hbel
  clear h h1 hbel
  go_enter Tryz.func29, Tryz.ntmps29
  go_wp2_with fail
  generalize w.alloc (.cells (evcs e) 43) = W1 at *
  go_quiet (fail)
  go_upto_region 4 with fail
  refine wp_world fun W2 hW2 => ?_
  have H2 : BookAt W2 base s lv { b with at_ := e.at_ } l := by rw [hW2]; exact (H.out.drewN _).set_ 1 (.int .i64 e.at_) { b with at_ := e.at_ } rfl rfl
  have HB2 : Below base w W2 := by rw [hW2]; exact Below.setCell (below_drewN HB.out _) hlo _
  have hr2 : W2.rangeAt w.heap.size 0 (evcs e).toList := by rw [hW2]; exact (EvS.set (W := W1) ⟨hr1⟩ ⟨s, 1, none⟩ (.int .i64 e.at_) hsq).ev
  have hqW2 : w.heap.size < W2.heap.size := by rw [hW2]; simp; omega
  have hbW2 : base ≤ W2.heap.size := by omega
  clear hW2 H HB hr1 hqW y0 y1 y2 fs v0 hg1
  clear W1
  have u3 : W2.cell? ⟨w.heap.size, 3, none⟩ = some (.int .i64 e.kind) := ev_at hr2 3 _ rfl
  have hk7 : decide (e.kind = 7) = false := by simp [k7]
  have hk1 : decide (e.kind = 1) = true := by simp [k1]
  have H := Lib.hid H2
  have HB := Lib.hid HB2
  have HR := Lib.hid hr2
  clear H2 HB2 hr2
  go_wp2_with (first | (refine wpList_load_mid rfl 43 (.tmp 3) rfl w.heap.size 0 rfl (evcs e).toList _ HR.out Tryz.underlying43 rfl (by kernel_rfl) ?_) | (go_at_call 49; refine (of_any H.out e).mono ?_; rintro r w3 ⟨hb3, hq⟩; rw [show ofF { b with at_ := e.at_ } e = some k from c2] at hq; obtain ⟨x, hx, hbx, hq'⟩ := hq; subst hq'; (have hxt : x.t = t := Option.some.inj (hbx.symm.trans ct)); subst hxt; (have H3 := Lib.hid (H.out.below hb3 (Nat.le_refl _))); (have HT3 := Lib.hid (H3.out.txs x (List.mem_of_getElem? hx))); (have hr3 : w3.rangeAt w.heap.size 0 (evcs e).toList := fun j v hv => (hb3.cell (p := ⟨w.heap.size, 0 + j, none⟩) hqW2).trans (HR.out j v hv)); (have x6 : w3.cell? ⟨x.g, 6, none⟩ = some (.bool x.t.bg) := (HT3.out.blk.cell 6).trans rfl); rw [hbg] at x6; skip; (have r3 : w3.cell? ⟨w.heap.size, 3, none⟩ = some (.int .i64 e.kind) := ev_at hr3 3 _ rfl); (have r8 : w3.cell? ⟨w.heap.size, 8, none⟩ = some (.int .i64 e.seen) := ev_at hr3 8 _ rfl); (have x4 : w3.cell? ⟨x.g, 4, none⟩ = some (.int .i64 x.t.seen) := (HT3.out.blk.cell 4).trans rfl); (have f3 : ∀ i, w3.frozen? ⟨x.g, i, none⟩ = false := HT3.out.blk.frozen); (have hqx : w.heap.size ≠ x.g := Ne.symm (Nat.ne_of_lt (hgs x (List.mem_of_getElem? hx)))); (have hxq : x.g ≠ w.heap.size := Ne.symm hqx)))
  go_region
  go_wp2_with fail
  go_ret
  have hXs : s ≠ x.g := H3.out.blk.ne_ HT3.out.blk (by decide)
  have hT4 : TxAt ((w3.setCell ⟨x.g, 6, none⟩ (.bool true)).setCell ⟨x.g, 4, none⟩ (.int .i64 e.seen)) base ⟨{ x.t with bg := true, seen := e.seen }, x.g, x.sv⟩ := (HT3.out.set_ 6 (.bool true) { x.t with bg := true } rfl rfl).set_ 4 (.int .i64 e.seen) { x.t with bg := true, seen := e.seen } rfl rfl
  have hB4 := (H3.out.blk.far (p := ⟨x.g, 6, none⟩) hXs (.bool true)).far (p := ⟨x.g, 4, none⟩) hXs (.int .i64 e.seen)
  have hF4 : Frm w3 ((w3.setCell ⟨x.g, 6, none⟩ (.bool true)).setCell ⟨x.g, 4, none⟩ (.int .i64 e.seen)) (fun q => q = s ∨ TxBlk x q) := ((Frm.refl w3 _).set _ _ _ (.inl (.inr (.inl rfl)))).set _ _ _ (.inl (.inr (.inl rfl)))
  have hU := H3.out.upd hx hT4 hB4 (.inl rfl) hF4
  exact ⟨rfl, lv, l.set k ⟨{ x.t with bg := true, seen := e.seen }, x.g, x.sv⟩, hU.drewN 1, (HB.out.trans (hb3.mono hbW2)).trans (Below.drew (hF4.below (Nat.le_trans hbW2 hb3.size) fun q hq => by
    rcases hq with rfl | hq
    · exact hlo
    · exact (HT3.out.lt hq).1))⟩

set_option maxHeartbeats 400000 in
theorem next_goes0 (e : Ev) {s base : Nat} {w : World} {lv : Value} {b : Book} {l : List TxM} (h : BookAt w base s lv b l) (c1 : ¬ e.at_ < b.at_) (k7 : ¬ e.kind = 7) {k : Nat} {t : TxP} (c2 : ofF b e = some k) (ct : b.l[k]? = some t) (hd : b.done ≤ 4611686018427387904) (hp : b.pub ≤ 4611686018427387904) (hst : ∀ t, b.l[k]? = some t → (t.steps.length + 1) * 152 ≤ 140737488355328) (k1 : ¬ e.kind = 1) (hbg : t.bg = true) (hgo : goesF t b.pub b.done e = none) :
    Calls Tryz.prog 29 #[.pointer (some ⟨s, 0, none⟩), .agg (evcs e)] w (NPost w base s none) := by
  have hbw : base ≤ w.heap.size := Nat.le_trans h.lo (Nat.le_of_lt h.blk.lt)
  have hbel : Below base w (w.alloc (.cells (evcs e) 43)) := Below.alloc (Below.refl _ _) hbw _
  have h1 := h.alloc (.cells (evcs e) 43)
  have hbl : s < w.heap.size := h.blk.lt
  have hqs : w.heap.size ≠ s := Ne.symm (Nat.ne_of_lt hbl)
  have hsq : s ≠ w.heap.size := Nat.ne_of_lt hbl
  have hlo := h.lo
  have hgs : ∀ y ∈ l, y.g < w.heap.size := fun y hy => (h.txs y hy).blk.lt
  have y0 : (w.alloc (.cells (evcs e) 43)).cell? ⟨s, 0, none⟩ = some lv := (h1.blk.cell 0).trans rfl
  have y1 : (w.alloc (.cells (evcs e) 43)).cell? ⟨s, 1, none⟩ = some (.int .i64 b.at_) := (h1.blk.cell 1).trans rfl
  have y2 : (w.alloc (.cells (evcs e) 43)).cell? ⟨s, 2, none⟩ = some (.int .i64 b.pub) := (h1.blk.cell 2).trans rfl
  have fs : ∀ i, (w.alloc (.cells (evcs e) 43)).frozen? ⟨s, i, none⟩ = false := h1.blk.frozen
  have hr1 : (w.alloc (.cells (evcs e) 43)).rangeAt w.heap.size 0 (evcs e).toList := ev_range w e
  have hqW : w.heap.size < (w.alloc (.cells (evcs e) 43)).heap.size := by simp
  have v0 : (w.alloc (.cells (evcs e) 43)).cell? ⟨w.heap.size, 0, none⟩ = some (.int .i64 e.at_) := box_ev e w 0
  have hg1 : decide (e.at_ < b.at_) = false := by simp; omega
  have H := Lib.hid h1
  have HB := Lib.hid hbel
  clear h h1 hbel
  go_enter Tryz.func29, Tryz.ntmps29
  go_wp2_with fail
  generalize w.alloc (.cells (evcs e) 43) = W1 at *
  go_quiet (fail)
  go_upto_region 4 with fail
  refine wp_world fun W2 hW2 => ?_
  have H2 : BookAt W2 base s lv { b with at_ := e.at_ } l := by rw [hW2]; exact (H.out.drewN _).set_ 1 (.int .i64 e.at_) { b with at_ := e.at_ } rfl rfl
  have HB2 : Below base w W2 := by rw [hW2]; exact Below.setCell (below_drewN HB.out _) hlo _
  have hr2 : W2.rangeAt w.heap.size 0 (evcs e).toList := by rw [hW2]; exact (EvS.set (W := W1) ⟨hr1⟩ ⟨s, 1, none⟩ (.int .i64 e.at_) hsq).ev
  have hqW2 : w.heap.size < W2.heap.size := by rw [hW2]; simp; omega
  have hbW2 : base ≤ W2.heap.size := by omega
  clear hW2 H HB hr1 hqW y0 y1 y2 fs v0 hg1
  clear W1
  have u3 : W2.cell? ⟨w.heap.size, 3, none⟩ = some (.int .i64 e.kind) := ev_at hr2 3 _ rfl
  have hk7 : decide (e.kind = 7) = false := by simp [k7]
  have hk1 : decide (e.kind = 1) = false := by simp [k1]
  have H := Lib.hid H2
  have HB := Lib.hid HB2
  have HR := Lib.hid hr2
  clear H2 HB2 hr2
  go_wp2_with (first | (refine wpList_load_mid rfl 43 (.tmp 3) rfl w.heap.size 0 rfl (evcs e).toList _ HR.out Tryz.underlying43 rfl (by kernel_rfl) ?_) | (refine wpList_load_g (by kernel_rfl) 43 (.tmp 3) rfl w.heap.size 0 rfl (evcs e).toList _ hr3 Tryz.underlying43 rfl (by kernel_rfl) ?_) | (go_at_call 49; refine (of_any H.out e).mono ?_; rintro r w3 ⟨hb3, hq⟩; rw [show ofF { b with at_ := e.at_ } e = some k from c2] at hq; obtain ⟨x, hx, hbx, hq'⟩ := hq; subst hq'; (have hxt : x.t = t := Option.some.inj (hbx.symm.trans ct)); subst hxt; (have H3 := Lib.hid (H.out.below hb3 (Nat.le_refl _))); (have HT3 := Lib.hid (H3.out.txs x (List.mem_of_getElem? hx))); (have hr3 : w3.rangeAt w.heap.size 0 (evcs e).toList := fun j v hv => (hb3.cell (p := ⟨w.heap.size, 0 + j, none⟩) hqW2).trans (HR.out j v hv)); (have x6 : w3.cell? ⟨x.g, 6, none⟩ = some (.bool x.t.bg) := (HT3.out.blk.cell 6).trans rfl); rw [hbg] at x6; skip; (have r3 : w3.cell? ⟨w.heap.size, 3, none⟩ = some (.int .i64 e.kind) := ev_at hr3 3 _ rfl)) | (go_at_call 50; refine (goes_any e H3.out.blk HT3.out hd hp (hst x.t ct)).mono ?_; rintro r4 w4 hq4; (have hq4' : r4 = .returned (.bool false) ∧ Below w3.heap.size w3 w4 := by rw [show goesF x.t b.pub b.done e = none from hgo] at hq4; exact hq4); clear hq4; obtain ⟨hq4, hb4⟩ := hq4'; subst hq4))
  go_ret
  exact ⟨rfl, (HB.out.trans (hb3.mono hbW2)).trans (hb4.mono (Nat.le_trans hbW2 hb3.size))⟩

set_option maxHeartbeats 400000 in
theorem next_goes1 (e : Ev) {s base : Nat} {w : World} {lv : Value} {b : Book} {l : List TxM} (h : BookAt w base s lv b l) (c1 : ¬ e.at_ < b.at_) (k7 : ¬ e.kind = 7) {k : Nat} {t : TxP} (c2 : ofF b e = some k) (ct : b.l[k]? = some t) (hd : b.done ≤ 4611686018427387904) (hp : b.pub ≤ 4611686018427387904) (hst : ∀ t, b.l[k]? = some t → (t.steps.length + 1) * 152 ≤ 140737488355328) (k1 : ¬ e.kind = 1) (hbg : t.bg = true) {t4 : TxP} {p4 d4 : Nat} (hgo : goesF t b.pub b.done e = some (t4, p4, d4)) :
    Calls Tryz.prog 29 #[.pointer (some ⟨s, 0, none⟩), .agg (evcs e)] w (NPost w base s (some ⟨b.l.set k t4, e.at_, p4, d4⟩)) := by
  have hbw : base ≤ w.heap.size := Nat.le_trans h.lo (Nat.le_of_lt h.blk.lt)
  have hbel : Below base w (w.alloc (.cells (evcs e) 43)) := Below.alloc (Below.refl _ _) hbw _
  have h1 := h.alloc (.cells (evcs e) 43)
  have hbl : s < w.heap.size := h.blk.lt
  have hqs : w.heap.size ≠ s := Ne.symm (Nat.ne_of_lt hbl)
  have hsq : s ≠ w.heap.size := Nat.ne_of_lt hbl
  have hlo := h.lo
  have hgs : ∀ y ∈ l, y.g < w.heap.size := fun y hy => (h.txs y hy).blk.lt
  have y0 : (w.alloc (.cells (evcs e) 43)).cell? ⟨s, 0, none⟩ = some lv := (h1.blk.cell 0).trans rfl
  have y1 : (w.alloc (.cells (evcs e) 43)).cell? ⟨s, 1, none⟩ = some (.int .i64 b.at_) := (h1.blk.cell 1).trans rfl
  have y2 : (w.alloc (.cells (evcs e) 43)).cell? ⟨s, 2, none⟩ = some (.int .i64 b.pub) := (h1.blk.cell 2).trans rfl
  have fs : ∀ i, (w.alloc (.cells (evcs e) 43)).frozen? ⟨s, i, none⟩ = false := h1.blk.frozen
  have hr1 : (w.alloc (.cells (evcs e) 43)).rangeAt w.heap.size 0 (evcs e).toList := ev_range w e
  have hqW : w.heap.size < (w.alloc (.cells (evcs e) 43)).heap.size := by simp
  have v0 : (w.alloc (.cells (evcs e) 43)).cell? ⟨w.heap.size, 0, none⟩ = some (.int .i64 e.at_) := box_ev e w 0
  have hg1 : decide (e.at_ < b.at_) = false := by simp; omega
  have H := Lib.hid h1
  have HB := Lib.hid hbel
  clear h h1 hbel
  go_enter Tryz.func29, Tryz.ntmps29
  go_wp2_with fail
  generalize w.alloc (.cells (evcs e) 43) = W1 at *
  go_quiet (fail)
  go_upto_region 4 with fail
  refine wp_world fun W2 hW2 => ?_
  have H2 : BookAt W2 base s lv { b with at_ := e.at_ } l := by rw [hW2]; exact (H.out.drewN _).set_ 1 (.int .i64 e.at_) { b with at_ := e.at_ } rfl rfl
  have HB2 : Below base w W2 := by rw [hW2]; exact Below.setCell (below_drewN HB.out _) hlo _
  have hr2 : W2.rangeAt w.heap.size 0 (evcs e).toList := by rw [hW2]; exact (EvS.set (W := W1) ⟨hr1⟩ ⟨s, 1, none⟩ (.int .i64 e.at_) hsq).ev
  have hqW2 : w.heap.size < W2.heap.size := by rw [hW2]; simp; omega
  have hbW2 : base ≤ W2.heap.size := by omega
  clear hW2 H HB hr1 hqW y0 y1 y2 fs v0 hg1
  clear W1
  have u3 : W2.cell? ⟨w.heap.size, 3, none⟩ = some (.int .i64 e.kind) := ev_at hr2 3 _ rfl
  have hk7 : decide (e.kind = 7) = false := by simp [k7]
  have hk1 : decide (e.kind = 1) = false := by simp [k1]
  have H := Lib.hid H2
  have HB := Lib.hid HB2
  have HR := Lib.hid hr2
  clear H2 HB2 hr2
  go_wp2_with (first | (refine wpList_load_mid rfl 43 (.tmp 3) rfl w.heap.size 0 rfl (evcs e).toList _ HR.out Tryz.underlying43 rfl (by kernel_rfl) ?_) | (refine wpList_load_g (by kernel_rfl) 43 (.tmp 3) rfl w.heap.size 0 rfl (evcs e).toList _ hr3 Tryz.underlying43 rfl (by kernel_rfl) ?_) | (go_at_call 49; refine (of_any H.out e).mono ?_; rintro r w3 ⟨hb3, hq⟩; rw [show ofF { b with at_ := e.at_ } e = some k from c2] at hq; obtain ⟨x, hx, hbx, hq'⟩ := hq; subst hq'; (have hxt : x.t = t := Option.some.inj (hbx.symm.trans ct)); subst hxt; (have H3 := Lib.hid (H.out.below hb3 (Nat.le_refl _))); (have HT3 := Lib.hid (H3.out.txs x (List.mem_of_getElem? hx))); (have hr3 : w3.rangeAt w.heap.size 0 (evcs e).toList := fun j v hv => (hb3.cell (p := ⟨w.heap.size, 0 + j, none⟩) hqW2).trans (HR.out j v hv)); (have x6 : w3.cell? ⟨x.g, 6, none⟩ = some (.bool x.t.bg) := (HT3.out.blk.cell 6).trans rfl); rw [hbg] at x6; skip; (have r3 : w3.cell? ⟨w.heap.size, 3, none⟩ = some (.int .i64 e.kind) := ev_at hr3 3 _ rfl)) | (go_at_call 50; refine (goes_any e H3.out.blk HT3.out hd hp (hst x.t ct)).mono ?_; rintro r4 w4 hq4; (have hq4' : GPost w3 base s lv e.at_ x t4 p4 d4 r4 w4 := by rw [show goesF x.t b.pub b.done e = some (t4, p4, d4) from hgo] at hq4; exact hq4); clear hq4; obtain ⟨hq4, sv', hT4, hB4, ho4, hF4⟩ := hq4'; subst hq4))
  go_ret
  exact ⟨rfl, lv, l.set k ⟨t4, x.g, sv'⟩, H3.out.upd hx hT4 hB4 ho4 hF4, (HB.out.trans (hb3.mono hbW2)).trans (hF4.below (Nat.le_trans hbW2 hb3.size) fun q hq => by
    rcases hq with rfl | hq
    · exact hlo
    · exact (HT3.out.lt hq).1)⟩
end Go.Proofs.YtffjcojehiblnaaGreatDoor

/- The walk of (*book).next: one is opened. -/
namespace Go.Proofs.YtffjcojehiblnaaGreatDoor
open Go.RowKit Go.Joins Go.ChangeShapes Go.WideShapes Go.Deep
set_option linter.unusedVariables false
set_option linter.unusedSimpArgs false
set_option maxRecDepth 100000


theorem info_ptx : (Tryz.prog.info? 58).map (fun i => (i.zero, i.size, i.bytes)) = some (some (.pointer none), 1, 8) := by kernel_rfl
theorem news_ptx (W : World) (g : Nat) : ∀ j u, ([.pointer (some ⟨g, 0, none⟩)] : List Value)[j]? = some u → (W.alloc (.cells #[.pointer (some ⟨g, 0, none⟩)] 58)).cell? ((⟨W.heap.size, 0, none⟩ : Addr).add j) = some u := World.news_of_block (cs := #[.pointer (some ⟨g, 0, none⟩)]) (t := 58) (fr := (0, 0)) (heap_alloc_new W _)

structure OpS (q s : Nat) (e : Ev) (pub : Nat) (w' : World) : Prop where
  ev : EvS q e w'
  pub : w'.cell? ⟨s, 2, none⟩ = some (.int .i64 pub)
theorem OpS.alloc {q s : Nat} {e : Ev} {pub : Nat} {W : World} (h : OpS q s e pub W) (o : Obj) : OpS q s e pub (W.alloc o) := ⟨⟨World.rangeAt_alloc h.ev.ev o⟩, (World.cell?_alloc_lt _ _ ⟨s, 2, none⟩ (World.block_lt_of_cell? W _ h.pub)).trans h.pub⟩
theorem OpS.grown {q s : Nat} {e : Ev} {pub : Nat} {W w2 : World} {o : Option Nat} (h : OpS q s e pub W) (hg : W.grownBy w2 o) (hq : q < W.heap.size) (n1 : o ≠ some q) (n2 : o ≠ some s) : OpS q s e pub w2 :=
  ⟨h.ev.grown hg hq n1, (hg.cell_far ⟨s, 2, none⟩ (World.block_lt_of_cell? W _ h.pub) (Ne.symm n2)).trans h.pub⟩
theorem OpS.set {q s : Nat} {e : Ev} {pub : Nat} {W : World} (h : OpS q s e pub W) (v : Value) (hp : s ≠ q) : OpS q s e pub (W.setCell ⟨s, 0, none⟩ v) :=
  ⟨h.ev.set ⟨s, 0, none⟩ v hp, (World.cell?_setCell_other W ⟨s, 0, none⟩ ⟨s, 2, none⟩ v (fun hh => by simp at hh)).trans h.pub⟩
theorem int_load {p : Addr} {w : World} {v : Value} (h : w.cell? p = some v) : (loadVar 3 p).run Tryz.prog w = .ok v w := by go_simp
theorem ptxs_load {p : Addr} {w : World} {v : Value} (h : w.cell? p = some v) : (loadVar 51 p).run Tryz.prog w = .ok v w := by go_simp
theorem ptxs_store {p : Addr} {w : World} {u : Value} {q : Option Addr} {n c : Nat} (h : w.cell? p = some u) (hf : w.frozen? p = false) : (storeVar 51 p (.slice q n c)).run Tryz.prog w = .ok () (w.setCell p (.slice q n c)) := by go_simp
theorem tx_new (t : TxP) (w : World) : (newVar 66 (.agg (TxM.cells ⟨t, 0, .slice none 0 0⟩))).run Tryz.prog w = .ok ⟨w.heap.size, 0, none⟩ (w.alloc (.cells (TxM.cells ⟨t, 0, .slice none 0 0⟩) 66)) := by
  unfold TxM.cells
  go_simp
theorem tx_build0 (a b c : Int) (w : World) : (Instr.build 50 #[(0, .int .i64 a), (1, .int .i64 b), (2, .int .i64 (-1)), (4, .int .i64 c)]).run Tryz.prog w = .ok (.agg #[.int .i64 a, .int .i64 b, .int .i64 (-1), .int .i64 0, .int .i64 c, .int .i64 0]) w := by
  go_simp
theorem tx_build1 (a b c : Int) (w : World) : (Instr.build 66 #[(0, .agg #[.int .i64 a, .int .i64 b, .int .i64 (-1), .int .i64 0, .int .i64 c, .int .i64 0])]).run Tryz.prog w = .ok (.agg (TxM.cells ⟨⟨a, b, -1, 0, c, 0, false, false, []⟩, 0, .slice none 0 0⟩)) w := by
  unfold TxM.cells
  go_simp
theorem wp_build_ptx {Q : Exit → Act → World → Prop} {K : Act → World → Prop} {o : Oper} {a : Act} {w : World} {g : Nat} (x : Operand) (ho : o.op = .buildSlice 51 1 #[(0, x)]) (hx : a.eval x = .pointer (some ⟨g, 0, none⟩))
    (h : K (a.put o.dst (.slice (some ⟨w.heap.size, 0, none⟩) 1 1)) (w.alloc (.cells #[.pointer (some ⟨g, 0, none⟩)] 58))) : o.wp Tryz.prog a w K Q := by
  obtain ⟨i0, hi0, hz0, hz1, hz2⟩ := info_parts info_ptx
  refine wp_buildSlice 51 58 1 #[(0, x)] ho #[.pointer (some ⟨g, 0, none⟩)] i0 _ Tryz.underlying51 hi0 hz0 (by rw [hz1]; decide) (by rw [hz1]; decide) ?_ h
  simp only [List.map_toArray, List.map_cons, List.map_nil, hx, hz1]
  kernel_rfl

set_option maxHeartbeats 400000 in
theorem next_open (e : Ev) {s base : Nat} {w : World} {lv : Value} {b : Book} {l : List TxM} (h : BookAt w base s lv b l) (c1 : ¬ e.at_ < b.at_) (k7 : e.kind = 7) (c2 : e.tx = b.l.length) (hl : (b.l.length + 1) * 8 ≤ 140737488355328) :
    Calls Tryz.prog 29 #[.pointer (some ⟨s, 0, none⟩), .agg (evcs e)] w (NPost w base s (some { b with at_ := e.at_, l := b.l ++ [⟨e.thread, e.at_, -1, 0, b.pub, 0, false, false, []⟩] })) := by
  have hbw : base ≤ w.heap.size := Nat.le_trans h.lo (Nat.le_of_lt h.blk.lt)
  have hbel : Below base w (w.alloc (.cells (evcs e) 43)) := Below.alloc (Below.refl _ _) hbw _
  have h1 := h.alloc (.cells (evcs e) 43)
  have hbl : s < w.heap.size := h.blk.lt
  have hqs : w.heap.size ≠ s := Ne.symm (Nat.ne_of_lt hbl)
  have hsq : s ≠ w.heap.size := Nat.ne_of_lt hbl
  have hlo := h.lo
  have hnl : lv.ownBlock ≠ some w.heap.size := fun hh => Nat.lt_irrefl _ (h.row.lt _ hh).2
  have hgs : ∀ y ∈ l, y.g < w.heap.size := fun y hy => (h.txs y hy).blk.lt
  have y0 : (w.alloc (.cells (evcs e) 43)).cell? ⟨s, 0, none⟩ = some lv := (h1.blk.cell 0).trans rfl
  have y1 : (w.alloc (.cells (evcs e) 43)).cell? ⟨s, 1, none⟩ = some (.int .i64 b.at_) := (h1.blk.cell 1).trans rfl
  have y2 : (w.alloc (.cells (evcs e) 43)).cell? ⟨s, 2, none⟩ = some (.int .i64 b.pub) := (h1.blk.cell 2).trans rfl
  have fs : ∀ i, (w.alloc (.cells (evcs e) 43)).frozen? ⟨s, i, none⟩ = false := h1.blk.frozen
  have hr1 : (w.alloc (.cells (evcs e) 43)).rangeAt w.heap.size 0 (evcs e).toList := ev_range w e
  have hqW : w.heap.size < (w.alloc (.cells (evcs e) 43)).heap.size := by simp
  have v0 : (w.alloc (.cells (evcs e) 43)).cell? ⟨w.heap.size, 0, none⟩ = some (.int .i64 e.at_) := box_ev e w 0
  have hg1 : decide (e.at_ < b.at_) = false := by simp; omega
  have H := Lib.hid h1
  have HB := Lib.hid hbel
  clear h h1 hbel
  go_enter Tryz.func29, Tryz.ntmps29
  go_wp2_with fail
  generalize w.alloc (.cells (evcs e) 43) = W1 at *
  go_quiet (fail)
  go_upto_region 4 with fail
  refine wp_world fun W2 hW2 => ?_
  have H2 : BookAt W2 base s lv { b with at_ := e.at_ } l := by rw [hW2]; exact (H.out.drewN _).set_ 1 (.int .i64 e.at_) { b with at_ := e.at_ } rfl rfl
  have HB2 : Below base w W2 := by rw [hW2]; exact Below.setCell (below_drewN HB.out _) hlo _
  have hr2 : W2.rangeAt w.heap.size 0 (evcs e).toList := by rw [hW2]; exact (EvS.set (W := W1) ⟨hr1⟩ ⟨s, 1, none⟩ (.int .i64 e.at_) hsq).ev
  have hqW2 : w.heap.size < W2.heap.size := by rw [hW2]; simp; omega
  have hbW2 : base ≤ W2.heap.size := by omega
  clear hW2 H HB hr1 hqW y0 y1 y2 fs v0 hg1
  clear W1
  have u0 : W2.cell? ⟨w.heap.size, 0, none⟩ = some (.int .i64 e.at_) := ev_at hr2 0 _ rfl
  have u1 : W2.cell? ⟨w.heap.size, 1, none⟩ = some (.int .i64 e.thread) := ev_at hr2 1 _ rfl
  have u2 : W2.cell? ⟨w.heap.size, 2, none⟩ = some (.int .i64 e.tx) := ev_at hr2 2 _ rfl
  have u3 : W2.cell? ⟨w.heap.size, 3, none⟩ = some (.int .i64 e.kind) := ev_at hr2 3 _ rfl
  rw [k7] at u3
  rw [c2] at u2
  have hll : b.l.length = l.length := H2.len
  obtain ⟨R, c, hlv, hlc⟩ : ∃ R c, lv = .slice R b.l.length c ∧ b.l.length ≤ c := by
    obtain ⟨R, c, h1, h2, _⟩ := own_shapes H2.row
    rw [← H2.len] at h1 h2
    exact ⟨R, c, h1, h2⟩
  have y0 : W2.cell? ⟨s, 0, none⟩ = some lv := (H2.blk.cell 0).trans rfl
  have y2 : W2.cell? ⟨s, 2, none⟩ = some (.int .i64 b.pub) := (H2.blk.cell 2).trans rfl
  have fs : ∀ i, W2.frozen? ⟨s, i, none⟩ = false := H2.blk.frozen
  subst hlv
  have hb2 : ((b.l.length : Int) != (b.l.length : Int)) = false := by simp
  have H := Lib.hid H2
  have HB := Lib.hid HB2
  have HR := Lib.hid hr2
  clear H2 HB2 hr2
  go_wp2_with fail
  go_quiet (fail)
  go_wp2_with fail
  refine wp_world fun W5 hW5 => ?_
  have H5 : BookAt W5 base s (.slice R b.l.length c) { b with at_ := e.at_ } l := by rw [hW5]; exact H.out.drewN _
  have HB5 : Below base w W5 := by rw [hW5]; exact below_drewN HB.out _
  have hr5 : W5.rangeAt w.heap.size 0 (evcs e).toList := by rw [hW5]; exact HR.out
  have hq5 : w.heap.size < W5.heap.size := by rw [hW5]; exact hqW2
  have hbW5 : base ≤ W5.heap.size := by omega
  clear hW5 H HB HR hqW2 hbW2 u0 u1 u2 u3 y0 y2 fs hb2
  clear W2
  have hP : OpS w.heap.size s e b.pub W5.drew := ⟨⟨hr5⟩, (H5.blk.cell 2).trans rfl⟩
  refine wp_abs fun a ha => ?_
  have e0 : a.eval (.tmp 0) = .pointer (some ⟨s, 0, none⟩) := by rw [ha]; rfl
  have e3 : a.eval (.tmp 3) = .pointer (some ⟨w.heap.size, 0, none⟩) := by rw [ha]; rfl
  have hsz : 60 ≤ a.tmps.size := by rw [ha]; exact Nat.le_of_ble_eq_true rfl
  refine wp_region_held_drew (S := OpS w.heap.size s e b.pub) (by kernel_rfl) hP (fun hS => ?_)
  refine take_at 0 29 (v := .pointer (some ⟨s, 0, none⟩)) rfl rfl (by kernel_rfl) (by kernel_rfl) (by kernel_rfl) (fun _ _ _ h => h) (yi_move rfl (.tmp 0) rfl (by (simp (discharger := (first | decide | omega | (simp only [Act.size_put]; omega))) only [Act.eval_put_same, Act.eval_put_ne, eval_const, e0, e3]); all_goals rfl)) hS ?_
  refine take_at 1 30 (v := .pointer (some ⟨s, 0, none⟩)) rfl rfl (by kernel_rfl) (by kernel_rfl) (by kernel_rfl) (fun _ _ _ h => h) (yi_move rfl (.tmp 0) rfl (by (simp (discharger := (first | decide | omega | (simp only [Act.size_put]; omega))) only [Act.eval_put_same, Act.eval_put_ne, eval_const, e0, e3]); all_goals rfl)) hS ?_
  refine take_at 2 31 (v := .pointer (some ⟨s, 0, none⟩)) rfl rfl (by kernel_rfl) (by kernel_rfl) (by kernel_rfl) (fun _ _ _ h => h) (yi_nilCheck rfl (.tmp 30) rfl (by (simp (discharger := (first | decide | omega | (simp only [Act.size_put]; omega))) only [Act.eval_put_same, Act.eval_put_ne, eval_const, e0, e3]); all_goals rfl)) hS ?_
  refine take_at 3 32 (v := .pointer (some ⟨s, 0, none⟩)) rfl rfl (by kernel_rfl) (by kernel_rfl) (by kernel_rfl) (fun _ _ _ h => h) (yi_field (b := s) (k := 0) rfl 80 (.tmp 31) 0 rfl (by (simp (discharger := (first | decide | omega | (simp only [Act.size_put]; omega))) only [Act.eval_put_same, Act.eval_put_ne, eval_const, e0, e3]); all_goals rfl) Tryz.underlying80 rfl (fun w' => by go_simp)) hS ?_
  refine take_at 5 34 (v := .pointer (some ⟨w.heap.size, 1, none⟩)) rfl rfl (by kernel_rfl) (by kernel_rfl) (by kernel_rfl) (fun _ _ _ h => h) (yi_field (b := w.heap.size) (k := 0) rfl 43 (.tmp 3) 1 rfl (by (simp (discharger := (first | decide | omega | (simp only [Act.size_put]; omega))) only [Act.eval_put_same, Act.eval_put_ne, eval_const, e0, e3]); all_goals rfl) Tryz.underlying43 rfl (fun w' => by go_simp)) hS ?_
  refine take_at 6 35 (v := .int .i64 e.thread) rfl rfl (by kernel_rfl) (by kernel_rfl) (by kernel_rfl) (fun _ _ _ h => h) (yi_load1 rfl 3 (.tmp 34) rfl (by (simp (discharger := (first | decide | omega | (simp only [Act.size_put]; omega))) only [Act.eval_put_same, Act.eval_put_ne, eval_const, e0, e3]); all_goals rfl) (fun w' h => int_load (ev_at h.ev.ev 1 _ rfl))) hS ?_
  refine take_at 7 36 (v := .pointer (some ⟨w.heap.size, 0, none⟩)) rfl rfl (by kernel_rfl) (by kernel_rfl) (by kernel_rfl) (fun _ _ _ h => h) (yi_field (b := w.heap.size) (k := 0) rfl 43 (.tmp 3) 0 rfl (by (simp (discharger := (first | decide | omega | (simp only [Act.size_put]; omega))) only [Act.eval_put_same, Act.eval_put_ne, eval_const, e0, e3]); all_goals rfl) Tryz.underlying43 rfl (fun w' => by go_simp)) hS ?_
  refine take_at 8 37 (v := .int .i64 e.at_) rfl rfl (by kernel_rfl) (by kernel_rfl) (by kernel_rfl) (fun _ _ _ h => h) (yi_load1 rfl 3 (.tmp 36) rfl (by (simp (discharger := (first | decide | omega | (simp only [Act.size_put]; omega))) only [Act.eval_put_same, Act.eval_put_ne, eval_const, e0, e3]); all_goals rfl) (fun w' h => int_load (ev_at h.ev.ev 0 _ rfl))) hS ?_
  refine take_at 9 38 (v := .pointer (some ⟨s, 0, none⟩)) rfl rfl (by kernel_rfl) (by kernel_rfl) (by kernel_rfl) (fun _ _ _ h => h) (yi_move rfl (.tmp 0) rfl (by (simp (discharger := (first | decide | omega | (simp only [Act.size_put]; omega))) only [Act.eval_put_same, Act.eval_put_ne, eval_const, e0, e3]); all_goals rfl)) hS ?_
  refine take_at 10 39 (v := .pointer (some ⟨s, 0, none⟩)) rfl rfl (by kernel_rfl) (by kernel_rfl) (by kernel_rfl) (fun _ _ _ h => h) (yi_nilCheck rfl (.tmp 38) rfl (by (simp (discharger := (first | decide | omega | (simp only [Act.size_put]; omega))) only [Act.eval_put_same, Act.eval_put_ne, eval_const, e0, e3]); all_goals rfl)) hS ?_
  refine take_at 11 40 (v := .pointer (some ⟨s, 2, none⟩)) rfl rfl (by kernel_rfl) (by kernel_rfl) (by kernel_rfl) (fun _ _ _ h => h) (yi_field (b := s) (k := 0) rfl 80 (.tmp 39) 2 rfl (by (simp (discharger := (first | decide | omega | (simp only [Act.size_put]; omega))) only [Act.eval_put_same, Act.eval_put_ne, eval_const, e0, e3]); all_goals rfl) Tryz.underlying80 rfl (fun w' => by go_simp)) hS ?_
  refine take_at 12 41 (v := .int .i64 b.pub) rfl rfl (by kernel_rfl) (by kernel_rfl) (by kernel_rfl) (fun _ _ _ h => h) (yi_load1 rfl 3 (.tmp 40) rfl (by (simp (discharger := (first | decide | omega | (simp only [Act.size_put]; omega))) only [Act.eval_put_same, Act.eval_put_ne, eval_const, e0, e3]); all_goals rfl) (fun w' h => int_load h.pub)) hS ?_
  refine take_at 13 42 (v := .agg #[.int .i64 e.thread, .int .i64 e.at_, .int .i64 (-1), .int .i64 0, .int .i64 b.pub, .int .i64 0]) rfl rfl (by kernel_rfl) (by kernel_rfl) (by kernel_rfl) (fun _ _ _ h => h) (yi_build rfl 50 _ #[(0, .int .i64 e.thread), (1, .int .i64 e.at_), (2, .int .i64 (-1)), (4, .int .i64 b.pub)] rfl (by (simp (discharger := (first | decide | omega | (simp only [Act.size_put]; omega))) only [List.map_toArray, List.map_cons, List.map_nil, Act.eval_put_same, Act.eval_put_ne, eval_const, e0, e3]); all_goals rfl) (tx_build0 _ _ _)) hS ?_
  refine take_at 14 43 (v := .agg (TxM.cells ⟨⟨e.thread, e.at_, -1, 0, b.pub, 0, false, false, []⟩, 0, .slice none 0 0⟩)) rfl rfl (by kernel_rfl) (by kernel_rfl) (by kernel_rfl) (fun _ _ _ h => h) (yi_build rfl 66 _ #[(0, .agg #[.int .i64 e.thread, .int .i64 e.at_, .int .i64 (-1), .int .i64 0, .int .i64 b.pub, .int .i64 0])] rfl (by (simp (discharger := (first | decide | omega | (simp only [Act.size_put]; omega))) only [List.map_toArray, List.map_cons, List.map_nil, Act.eval_put_same, Act.eval_put_ne, eval_const, e0, e3]); all_goals rfl) (tx_build1 _ _ _)) hS ?_
  obtain ⟨i0, hi0, hz0, hz1, hz2⟩ := info_parts info_ptx
  have hszT : (W5.drew.alloc (.cells (TxM.cells ⟨⟨e.thread, e.at_, -1, 0, b.pub, 0, false, false, []⟩, 0, .slice none 0 0⟩) 66)).heap.size = W5.heap.size + 1 := by simp
  have hBT : Blk (W5.drew.alloc (.cells (TxM.cells ⟨⟨e.thread, e.at_, -1, 0, b.pub, 0, false, false, []⟩, 0, .slice none 0 0⟩) 66)) W5.heap.size 66 (TxM.cells ⟨⟨e.thread, e.at_, -1, 0, b.pub, 0, false, false, []⟩, 0, .slice none 0 0⟩) := Blk.new W5.drew _ _
  have hbl2 : ∀ q, q < W5.heap.size → (W5.drew.alloc (.cells (TxM.cells ⟨⟨e.thread, e.at_, -1, 0, b.pub, 0, false, false, []⟩, 0, .slice none 0 0⟩) 66)).heap[q]? = W5.heap[q]? := fun q hq => Below.heap_alloc W5.drew _ q hq
  have hS2 : OpS w.heap.size s e b.pub (W5.drew.alloc (.cells (TxM.cells ⟨⟨e.thread, e.at_, -1, 0, b.pub, 0, false, false, []⟩, 0, .slice none 0 0⟩) 66)) := hS.alloc _
  have hRow2 := H5.row.alloc (.cells (TxM.cells ⟨⟨e.thread, e.at_, -1, 0, b.pub, 0, false, false, []⟩, 0, .slice none 0 0⟩) 66)
  replace hRow2 : (W5.drew.alloc (.cells (TxM.cells ⟨⟨e.thread, e.at_, -1, 0, b.pub, 0, false, false, []⟩, 0, .slice none 0 0⟩) 66)).ownsRow base 58 1 (.slice R b.l.length c) l.length (l.map fun x => .pointer (some ⟨x.g, 0, none⟩)) := hRow2
  have d1 : W5.drew.cell? ⟨s, 0, none⟩ = some (.slice R b.l.length c) := (H5.blk.cell 0).trans rfl
  have d2 : (W5.drew.alloc (.cells (TxM.cells ⟨⟨e.thread, e.at_, -1, 0, b.pub, 0, false, false, []⟩, 0, .slice none 0 0⟩) 66)).cell? ⟨s, 0, none⟩ = some (.slice R b.l.length c) := (World.cell?_alloc_lt _ _ ⟨s, 0, none⟩ (World.block_lt_of_cell? _ _ d1)).trans d1
  have hnw := tx_new ⟨e.thread, e.at_, -1, 0, b.pub, 0, false, false, []⟩ W5.drew
  have hll : b.l.length = l.length := H5.len
  have HBx : Below base w (W5.drew.alloc (.cells (TxM.cells ⟨⟨e.thread, e.at_, -1, 0, b.pub, 0, false, false, []⟩, 0, .slice none 0 0⟩) 66)) := Below.alloc (Below.drew HB5) hbW5 _
  generalize hWT : W5.drew.alloc (.cells (TxM.cells ⟨⟨e.thread, e.at_, -1, 0, b.pub, 0, false, false, []⟩, 0, .slice none 0 0⟩) 66) = WT at *
  have d3 : ∀ o, (WT.alloc o).cell? ⟨s, 0, none⟩ = some (.slice R b.l.length c) := fun o => (World.cell?_alloc_lt _ _ ⟨s, 0, none⟩ (World.block_lt_of_cell? _ _ d2)).trans d2
  refine chain_at 4 15 16 33 44 45 (.load 51 (.tmp 32)) (.box 66 (.tmp 43)) (.buildSlice 51 1 #[(0, .tmp 44)]) (v := .slice R b.l.length c) (u := .pointer (some ⟨W5.heap.size, 0, none⟩)) (z := .slice (some ⟨WT.heap.size, 0, none⟩) 1 1) (w2 := WT) (w3 := WT.alloc (.cells #[.pointer (some ⟨W5.heap.size, 0, none⟩)] 58)) (by kernel_rfl) rfl rfl rfl rfl rfl rfl rfl rfl rfl rfl rfl rfl (by kernel_rfl) (by kernel_rfl) (by kernel_rfl) (by kernel_rfl) (by kernel_rfl) (by decide) (by decide) (by decide) (by decide) ?_ ?_ ?_ hS hS2 (hS2.alloc _) ?_
  · rintro K o a' w' (⟨rfl, rfl⟩ | ⟨rfl, rfl⟩ | ⟨rfl, rfl⟩) hd ho hK
    · exact wp_load1 (.tmp 32) ho (by (simp (discharger := (first | decide | omega | (simp only [Act.size_put]; omega))) only [Act.eval_put_same, Act.eval_put_ne, eval_const, e0, e3]); all_goals rfl) (ptxs_load d1) hK
    · exact wp_load1 (.tmp 32) ho (by (simp (discharger := (first | decide | omega | (simp only [Act.size_put]; omega))) only [Act.eval_put_same, Act.eval_put_ne, eval_const, e0, e3]); all_goals rfl) (ptxs_load d2) hK
    · exact wp_load1 (.tmp 32) ho (by (simp (discharger := (first | decide | omega | (simp only [Act.size_put]; omega))) only [Act.eval_put_same, Act.eval_put_ne, eval_const, e0, e3]); all_goals rfl) (ptxs_load (d3 _)) hK
  · rintro K o a' (rfl | rfl) hd ho hK
    · exact wp_box1 66 (.tmp 43) ho (by (simp (discharger := (first | decide | omega | (simp only [Act.size_put]; omega))) only [Act.eval_put_same, Act.eval_put_ne, eval_const, e0, e3]); all_goals rfl) hnw hK
    · exact wp_box1 66 (.tmp 43) ho (by (simp (discharger := (first | decide | omega | (simp only [Act.size_put]; omega))) only [Act.eval_put_same, Act.eval_put_ne, eval_const, e0, e3]); all_goals rfl) hnw hK
  · rintro K o a' (rfl | rfl) hd ho hK
    · exact wp_build_ptx (.tmp 44) ho (by (simp (discharger := (first | decide | omega | (simp only [Act.size_put]; omega))) only [Act.eval_put_same, Act.eval_put_ne, eval_const, e0, e3]); all_goals rfl) hK
    · exact wp_build_ptx (.tmp 44) ho (by (simp (discharger := (first | decide | omega | (simp only [Act.size_put]; omega))) only [Act.eval_put_same, Act.eval_put_ne, eval_const, e0, e3]); all_goals rfl) hK
  refine step_at 17 (some 46) (.call { callee := .builtin .append, args := #[.tmp 33, .tmp 45], argTypes := #[51, 51] }) (by kernel_rfl) rfl rfl rfl rfl fun K o hd ho hK => wp_append_lies _ (.tmp 33) (.tmp 45) 51 ho base 58 i0 _ 1 8 Tryz.underlying51 hi0 hz0 hz1 hz2 rfl (by omega) (.slice R b.l.length c) l.length (l.map fun x => .pointer (some ⟨x.g, 0, none⟩)) (by (simp (discharger := (first | decide | omega | (simp only [Act.size_put]; omega))) only [Act.eval_put_same, Act.eval_put_ne, eval_const, e0, e3]); all_goals rfl) (show _ from hRow2.alloc _)
        ⟨WT.heap.size, 0, none⟩ 1 1 [.pointer (some ⟨W5.heap.size, 0, none⟩)] (by (simp (discharger := (first | decide | omega | (simp only [Act.size_put]; omega))) only [Act.eval_put_same, Act.eval_put_ne, eval_const, e0, e3]); all_goals rfl) (by rfl) (news_ptx WT _) (by simp [Value.oneCell'])
        (by omega) (by unfold maxLen; omega) (by omega) (by simp; omega) (WT.heap.size + 1) (by simp) ?_
  intro gg cap w2 hown1 hgrow hat hlt2
  have hol : ∀ q, (Value.slice R b.l.length c).ownBlock = some q → q < W5.heap.size := fun q hq => (H5.row.lt q hq).2
  have hnq : (Value.slice R b.l.length c).ownBlock ≠ some w.heap.size := hnl
  have hnx : (Value.slice R b.l.length c).ownBlock ≠ some s := own_ne_blk H5.row H5.blk (by decide)
  have hS3 : OpS w.heap.size s e b.pub w2 := (hS2.alloc _).grown hgrow (by simp; omega) hnq hnx
  have cl2 : w2.cell? ⟨s, 0, none⟩ = some (.slice R b.l.length c) := (hgrow.cell_far ⟨s, 0, none⟩ (World.block_lt_of_cell? _ _ (d3 _)) (Ne.symm hnx)).trans (d3 _)
  have hfw : ∀ q, q < WT.heap.size → (Value.slice R b.l.length c).ownBlock ≠ some q → w2.heap[q]? = WT.heap[q]? := fun q hq hn => (hgrow.block q (by simp; omega) (Ne.symm hn)).trans (Below.heap_alloc WT _ q hq)
  have hBk : Blk w2 s 80 #[.slice R b.l.length c, .int .i64 e.at_, .int .i64 b.pub, .int .i64 b.done] := (hfw s (World.block_lt_of_cell? _ _ d2) hnx).trans ((hbl2 s H5.blk.lt).trans H5.blk)
  have fl2 : w2.frozen? ⟨s, 0, none⟩ = false := hBk.frozen 0
  have HP := H5.push (g := W5.heap.size) (t := ⟨e.thread, e.at_, -1, 0, b.pub, 0, false, false, []⟩) hown1 (fun q hq hn => (hfw q (by omega) hn).trans (hbl2 q hq)) ((hfw _ (by omega) (fun hh => Nat.lt_irrefl _ (hol _ hh))).trans hBT) (Nat.le_refl _) rfl hbW5
  have HBl : Below base w (w2.setCell ⟨s, 0, none⟩ (.slice (some ⟨gg, 0, none⟩) (l.length + 1) cap)) := HBx.trans ((((Frm.refl WT (fun q => q = s ∨ (Value.slice R b.l.length c).ownBlock = some q)).alloc _).grown hgrow fun q hq => .inl (.inr hq)).set s 0 _ (.inl (.inl rfl)) |>.below (by omega) fun q hq => by
    rcases hq with rfl | hq
    · exact hlo
    · exact (H5.row.lt q hq).1)
  rw [hd]
  refine hK.out _ _ hS3 ?_
  clear hK hd ho o K hown1 hgrow hat
  refine take_at 18 47 (v := .pointer (some ⟨s, 0, none⟩)) rfl rfl (by kernel_rfl) (by kernel_rfl) (by kernel_rfl) (fun _ _ _ h => h) (yi_nilCheck rfl (.tmp 29) rfl (by (simp (discharger := (first | decide | omega | (simp only [Act.size_put]; omega))) only [Act.eval_put_same, Act.eval_put_ne, eval_const, e0, e3]); all_goals rfl)) hS3 ?_
  refine take_at 19 48 (v := .pointer (some ⟨s, 0, none⟩)) rfl rfl (by kernel_rfl) (by kernel_rfl) (by kernel_rfl) (fun _ _ _ h => h) (yi_field (b := s) (k := 0) rfl 80 (.tmp 47) 0 rfl (by (simp (discharger := (first | decide | omega | (simp only [Act.size_put]; omega))) only [Act.eval_put_same, Act.eval_put_ne, eval_const, e0, e3]); all_goals rfl) Tryz.underlying80 rfl (fun w' => by go_simp)) hS3 ?_
  refine step_at 20 none (.store 51 (.tmp 48) (.tmp 46)) (by kernel_rfl) rfl rfl rfl rfl fun K o hd ho hK => wp_store1 51 (.tmp 48) (.tmp 46) ho hd (by (simp (discharger := (first | decide | omega | (simp only [Act.size_put]; omega))) only [Act.eval_put_same, Act.eval_put_ne, eval_const, e0, e3]); all_goals rfl) (by (simp (discharger := (first | decide | omega | (simp only [Act.size_put]; omega))) only [Act.eval_put_same, Act.eval_put_ne, eval_const, e0, e3]); all_goals rfl) (ptxs_store cl2 fl2) (hK.out _ _ (hS3.set _ hsq) ?_)
  clear hK hd ho o K
  refine wpAnyH_done (by kernel_rfl) ?_ _
  have HP2 := Lib.hid HP
  have HB2 := Lib.hid HBl
  clear hS hS2 hS3 e0 e3 hsz HP HBl
  subst ha
  go_wp2_with fail
  go_ret
  exact ⟨rfl, _, _, HP2.out, HB2.out⟩
end Go.Proofs.YtffjcojehiblnaaGreatDoor

/- The walk of (*book).next, whatever comes. -/
namespace Go.Proofs.YtffjcojehiblnaaGreatDoor
open Go.RowKit Go.Joins Go.ChangeShapes Go.WideShapes Go.Deep
set_option linter.unusedVariables false
set_option linter.unusedSimpArgs false
set_option maxRecDepth 100000

theorem next_any (e : Ev) {s base : Nat} {w : World} {lv : Value} {b : Book} {l : List TxM} (h : BookAt w base s lv b l) (hd : b.done ≤ 4611686018427387904) (hp : b.pub ≤ 4611686018427387904) (hl : (b.l.length + 1) * 8 ≤ 140737488355328) (hst : ∀ t ∈ b.l, (t.steps.length + 1) * 152 ≤ 140737488355328) :
    Calls Tryz.prog 29 #[.pointer (some ⟨s, 0, none⟩), .agg (evcs e)] w (NPost w base s (nextF b e)) := by
  unfold nextF
  by_cases c1 : e.at_ < b.at_
  · rw [if_pos c1]
    exact next_low e h c1
  rw [if_neg c1]
  by_cases k7 : e.kind = 7
  · rw [if_pos k7]
    by_cases c2 : e.tx = b.l.length
    · rw [if_neg (by simpa using c2)]
      exact next_open e h c1 k7 c2 hl
    · rw [if_pos c2]
      exact next_open0 e h c1 k7 c2
  rw [if_neg k7]
  by_cases hx : 0 ≤ e.tx ∧ e.tx.toNat < b.l.length
  · rw [dif_pos hx]
    have ct : b.l[e.tx.toNat]? = some (b.l[e.tx.toNat]'hx.2) := List.getElem?_eq_getElem hx.2
    have hst' : ∀ t, b.l[e.tx.toNat]? = some t → (t.steps.length + 1) * 152 ≤ 140737488355328 := fun t ht => hst t (List.mem_of_getElem? ht)
    unfold nextT
    by_cases ho : (b.l[e.tx.toNat]'hx.2).ov = true ∨ (b.l[e.tx.toNat]'hx.2).thread ≠ e.thread
    · rw [if_pos ho]
      exact next_none e h c1 k7 (by unfold ofF; rw [dif_pos hx, if_pos ho])
    rw [if_neg ho]
    have hof : ofF b e = some e.tx.toNat := by unfold ofF; rw [dif_pos hx, if_neg ho]
    by_cases k1 : e.kind = 1
    · rw [if_pos k1]
      cases hbg : (b.l[e.tx.toNat]'hx.2).bg with
      | true => exact next_begun0 e h c1 k7 hof ct k1 hbg
      | false => exact next_begun e h c1 k7 hof ct k1 hbg
    · rw [if_neg k1]
      cases hbg : (b.l[e.tx.toNat]'hx.2).bg with
      | true =>
        simp only [if_true]
        cases hgo : goesF (b.l[e.tx.toNat]'hx.2) b.pub b.done e with
        | none => exact next_goes0 e h c1 k7 hof ct hd hp hst' k1 hbg hgo
        | some z => exact next_goes1 e h c1 k7 hof ct hd hp hst' k1 hbg hgo
      | false => exact next_dead e h c1 k7 hof ct k1 hbg
  · rw [dif_neg hx]
    exact next_none e h c1 k7 (by unfold ofF; rw [dif_neg hx])
end Go.Proofs.YtffjcojehiblnaaGreatDoor
