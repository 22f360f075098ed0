/- The walk of (*book).of. -/
import Derived.Test.YtffjcojehiblnaaDoorHn
import Derived.BigQuiet
import Derived.Deep.QuietTactic
import Derived.Deep.DeepMust
namespace Go.Proofs.YtffjcojehiblnaaDoor
open Go.RowKit Go.Joins Go.ChangeShapes Go.WideShapes Go.Deep
set_option linter.unusedVariables false
set_option linter.unusedSimpArgs false
set_option maxRecDepth 100000

def evcs (e : Ev) : Array Value := #[.int .i64 e.at_, .int .i64 e.thread, .int .i64 e.tx, .int .i64 e.kind, .int .i64 e.cell, .int .i64 e.value, .bool e.own, .int .i64 e.start, .int .i64 e.seen, .int .i64 e.stamp,
  .int .u64 e.s0, .int .u64 e.s1, .int .u64 e.s2, .int .u64 e.s3, .int .u64 e.s4, .int .u64 e.s5, .int .u64 e.s6, .int .u64 e.s7, .int .i64 e.err]
theorem box_ev (e : Ev) (w : World) (i : Nat) : (w.alloc (.cells (evcs e) 35)).cell? ⟨w.heap.size, i, none⟩ = (evcs e)[i]? := (Blk.new w _ _).cell i
theorem old_ev (e : Ev) (w : World) {b i : Nat} {v : Value} (h : w.cell? ⟨b, i, none⟩ = some v) : (w.alloc (.cells (evcs e) 35)).cell? ⟨b, i, none⟩ = some v :=
  (World.cell?_alloc_lt _ _ ⟨b, i, none⟩ (World.block_lt_of_cell? w _ h)).trans h

set_option maxHeartbeats 4000000 in
theorem of_low (e : Ev) (s : Nat) (w : World) (h : e.tx < 0) :
    Calls Tryd.prog 43 #[.pointer (some ⟨s, 0, none⟩), .agg (evcs e)] w fun e w' => e = .returned (.pointer none) ∧ Below w.heap.size w w' := by
  have v2 : (w.alloc (.cells (evcs e) 35)).cell? ⟨w.heap.size, 2, none⟩ = some (.int .i64 e.tx) := box_ev e w 2
  have v1 : (w.alloc (.cells (evcs e) 35)).cell? ⟨w.heap.size, 1, none⟩ = some (.int .i64 e.thread) := box_ev e w 1
  have hg1 : decide (e.tx < 0) = true := by simp [h]
  have hbel : Below w.heap.size w (w.alloc (.cells (evcs e) 35)) := by repeat (first | with_reducible exact Below.refl _ _ | with_reducible refine Below.drew ?_ | with_reducible refine below_drewN ?_ _ | ((with_reducible refine Below.alloc ?_ ?_ _); (rotate_left; focus (first | with_reducible exact Nat.le_refl _ | omega | (simp; done) | (simp; omega) | (simp [World.setCell]; done) | (simp [World.setCell]; omega)))) | ((with_reducible refine Below.setCell ?_ ?_ _); (rotate_left; focus (first | with_reducible exact Nat.le_refl _ | omega | (simp; done) | (simp; omega) | (simp [World.setCell]; done) | (simp [World.setCell]; omega)))))
  go_enter Tryd.func43, Tryd.ntmps43
  go_wp2_with fail
  generalize w.alloc (.cells (evcs e) 35) = W1 at *
  go_quiet (fail)
  go_wp2
  go_ret
  exact ⟨rfl, by first | exact hbel | exact below_drewN hbel _ | exact below_drewN (below_drewN hbel _) _⟩

set_option maxHeartbeats 4000000 in
theorem of_high (e : Ev) (s : Nat) (w : World) (R : Option Addr) (n c : Nat) (h0 : ¬ e.tx < 0) (h : (n : Int) ≤ e.tx) (c0 : w.cell? ⟨s, 0, none⟩ = some (.slice R n c)) :
    Calls Tryd.prog 43 #[.pointer (some ⟨s, 0, none⟩), .agg (evcs e)] w fun e w' => e = .returned (.pointer none) ∧ Below w.heap.size w w' := by
  have v2 : (w.alloc (.cells (evcs e) 35)).cell? ⟨w.heap.size, 2, none⟩ = some (.int .i64 e.tx) := box_ev e w 2
  have v1 : (w.alloc (.cells (evcs e) 35)).cell? ⟨w.heap.size, 1, none⟩ = some (.int .i64 e.thread) := box_ev e w 1
  have d0 := old_ev e w c0
  have hg1 : decide (e.tx < 0) = false := by simp [h0]
  have hg2 : decide ((n : Int) ≤ e.tx) = true := by simp [h]
  clear c0
  have hbel : Below w.heap.size w (w.alloc (.cells (evcs e) 35)) := by repeat (first | with_reducible exact Below.refl _ _ | with_reducible refine Below.drew ?_ | with_reducible refine below_drewN ?_ _ | ((with_reducible refine Below.alloc ?_ ?_ _); (rotate_left; focus (first | with_reducible exact Nat.le_refl _ | omega | (simp; done) | (simp; omega) | (simp [World.setCell]; done) | (simp [World.setCell]; omega)))) | ((with_reducible refine Below.setCell ?_ ?_ _); (rotate_left; focus (first | with_reducible exact Nat.le_refl _ | omega | (simp; done) | (simp; omega) | (simp [World.setCell]; done) | (simp [World.setCell]; omega)))))
  go_enter Tryd.func43, Tryd.ntmps43
  go_wp2_with fail
  generalize w.alloc (.cells (evcs e) 35) = W1 at *
  go_quiet (fail)
  go_wp2
  go_ret
  exact ⟨rfl, by first | exact hbel | exact below_drewN hbel _ | exact below_drewN (below_drewN hbel _) _⟩

set_option maxHeartbeats 4000000 in
theorem of_over (e : Ev) (s : Nat) (w : World) (g b off k n c : Nat) (h0 : ¬ e.tx < 0) (h : ¬ (n : Int) ≤ e.tx) (hk : e.tx.toNat = k) (c0 : w.cell? ⟨s, 0, none⟩ = some (.slice (some ⟨b, off, none⟩) n c)) (c1 : w.cell? ⟨b, off + k, none⟩ = some (.pointer (some ⟨g, 0, none⟩))) (c2 : w.cell? ⟨g, 7, none⟩ = some (.bool true)) :
    Calls Tryd.prog 43 #[.pointer (some ⟨s, 0, none⟩), .agg (evcs e)] w fun e w' => e = .returned (.pointer none) ∧ Below w.heap.size w w' := by
  have v2 : (w.alloc (.cells (evcs e) 35)).cell? ⟨w.heap.size, 2, none⟩ = some (.int .i64 e.tx) := box_ev e w 2
  have v1 : (w.alloc (.cells (evcs e) 35)).cell? ⟨w.heap.size, 1, none⟩ = some (.int .i64 e.thread) := box_ev e w 1
  subst hk
  have d0 := old_ev e w c0
  have d1 := old_ev e w c1
  have d2 := old_ev e w c2
  have hg1 : decide (e.tx < 0) = false := by simp [h0]
  have hg2 : decide ((n : Int) ≤ e.tx) = false := by simp; omega
  have hlt : e.tx.toNat < n := by omega
  have hlt2 : e.tx < (n : Int) := by omega
  have hge : 0 ≤ e.tx := by omega
  clear c0 c1 c2
  have hbel : Below w.heap.size w (w.alloc (.cells (evcs e) 35)) := by repeat (first | with_reducible exact Below.refl _ _ | with_reducible refine Below.drew ?_ | with_reducible refine below_drewN ?_ _ | ((with_reducible refine Below.alloc ?_ ?_ _); (rotate_left; focus (first | with_reducible exact Nat.le_refl _ | omega | (simp; done) | (simp; omega) | (simp [World.setCell]; done) | (simp [World.setCell]; omega)))) | ((with_reducible refine Below.setCell ?_ ?_ _); (rotate_left; focus (first | with_reducible exact Nat.le_refl _ | omega | (simp; done) | (simp; omega) | (simp [World.setCell]; done) | (simp [World.setCell]; omega)))))
  go_enter Tryd.func43, Tryd.ntmps43
  go_wp2_with fail
  generalize w.alloc (.cells (evcs e) 35) = W1 at *
  go_quiet (fail)
  go_wp2
  go_ret
  exact ⟨rfl, by first | exact hbel | exact below_drewN hbel _ | exact below_drewN (below_drewN hbel _) _⟩

set_option maxHeartbeats 4000000 in
theorem of_thread (e : Ev) (s : Nat) (w : World) (g b off k n c : Nat) (h0 : ¬ e.tx < 0) (h : ¬ (n : Int) ≤ e.tx) (hk : e.tx.toNat = k) (c0 : w.cell? ⟨s, 0, none⟩ = some (.slice (some ⟨b, off, none⟩) n c)) (c1 : w.cell? ⟨b, off + k, none⟩ = some (.pointer (some ⟨g, 0, none⟩))) (th : Int) (c2 : w.cell? ⟨g, 7, none⟩ = some (.bool false)) (c3 : w.cell? ⟨g, 0, none⟩ = some (.int .i64 th)) (hth : th ≠ e.thread) :
    Calls Tryd.prog 43 #[.pointer (some ⟨s, 0, none⟩), .agg (evcs e)] w fun e w' => e = .returned (.pointer none) ∧ Below w.heap.size w w' := by
  have v2 : (w.alloc (.cells (evcs e) 35)).cell? ⟨w.heap.size, 2, none⟩ = some (.int .i64 e.tx) := box_ev e w 2
  have v1 : (w.alloc (.cells (evcs e) 35)).cell? ⟨w.heap.size, 1, none⟩ = some (.int .i64 e.thread) := box_ev e w 1
  subst hk
  have d0 := old_ev e w c0
  have d1 := old_ev e w c1
  have d2 := old_ev e w c2
  have hg1 : decide (e.tx < 0) = false := by simp [h0]
  have hg2 : decide ((n : Int) ≤ e.tx) = false := by simp; omega
  have hlt : e.tx.toNat < n := by omega
  have hlt2 : e.tx < (n : Int) := by omega
  have hge : 0 ≤ e.tx := by omega
  have d3 := old_ev e w c3
  have hg3 : decide (th = e.thread) = false := by simp [hth]
  clear c0 c1 c2 c3
  have hbel : Below w.heap.size w (w.alloc (.cells (evcs e) 35)) := by repeat (first | with_reducible exact Below.refl _ _ | with_reducible refine Below.drew ?_ | with_reducible refine below_drewN ?_ _ | ((with_reducible refine Below.alloc ?_ ?_ _); (rotate_left; focus (first | with_reducible exact Nat.le_refl _ | omega | (simp; done) | (simp; omega) | (simp [World.setCell]; done) | (simp [World.setCell]; omega)))) | ((with_reducible refine Below.setCell ?_ ?_ _); (rotate_left; focus (first | with_reducible exact Nat.le_refl _ | omega | (simp; done) | (simp; omega) | (simp [World.setCell]; done) | (simp [World.setCell]; omega)))))
  go_enter Tryd.func43, Tryd.ntmps43
  go_wp2_with fail
  generalize w.alloc (.cells (evcs e) 35) = W1 at *
  go_quiet (fail)
  go_wp2
  go_ret
  exact ⟨rfl, by first | exact hbel | exact below_drewN hbel _ | exact below_drewN (below_drewN hbel _) _⟩

set_option maxHeartbeats 4000000 in
theorem of_some (e : Ev) (s : Nat) (w : World) (g b off k n c : Nat) (h0 : ¬ e.tx < 0) (h : ¬ (n : Int) ≤ e.tx) (hk : e.tx.toNat = k) (c0 : w.cell? ⟨s, 0, none⟩ = some (.slice (some ⟨b, off, none⟩) n c)) (c1 : w.cell? ⟨b, off + k, none⟩ = some (.pointer (some ⟨g, 0, none⟩))) (c2 : w.cell? ⟨g, 7, none⟩ = some (.bool false)) (c3 : w.cell? ⟨g, 0, none⟩ = some (.int .i64 e.thread)) :
    Calls Tryd.prog 43 #[.pointer (some ⟨s, 0, none⟩), .agg (evcs e)] w fun e w' => e = .returned (.pointer (some ⟨g, 0, none⟩)) ∧ Below w.heap.size w w' := by
  have v2 : (w.alloc (.cells (evcs e) 35)).cell? ⟨w.heap.size, 2, none⟩ = some (.int .i64 e.tx) := box_ev e w 2
  have v1 : (w.alloc (.cells (evcs e) 35)).cell? ⟨w.heap.size, 1, none⟩ = some (.int .i64 e.thread) := box_ev e w 1
  subst hk
  have d0 := old_ev e w c0
  have d1 := old_ev e w c1
  have d2 := old_ev e w c2
  have hg1 : decide (e.tx < 0) = false := by simp [h0]
  have hg2 : decide ((n : Int) ≤ e.tx) = false := by simp; omega
  have hlt : e.tx.toNat < n := by omega
  have hlt2 : e.tx < (n : Int) := by omega
  have hge : 0 ≤ e.tx := by omega
  have d3 := old_ev e w c3
  clear c0 c1 c2 c3
  have hbel : Below w.heap.size w (w.alloc (.cells (evcs e) 35)) := by repeat (first | with_reducible exact Below.refl _ _ | with_reducible refine Below.drew ?_ | with_reducible refine below_drewN ?_ _ | ((with_reducible refine Below.alloc ?_ ?_ _); (rotate_left; focus (first | with_reducible exact Nat.le_refl _ | omega | (simp; done) | (simp; omega) | (simp [World.setCell]; done) | (simp [World.setCell]; omega)))) | ((with_reducible refine Below.setCell ?_ ?_ _); (rotate_left; focus (first | with_reducible exact Nat.le_refl _ | omega | (simp; done) | (simp; omega) | (simp [World.setCell]; done) | (simp [World.setCell]; omega)))))
  go_enter Tryd.func43, Tryd.ntmps43
  go_wp2_with fail
  generalize w.alloc (.cells (evcs e) 35) = W1 at *
  go_quiet (fail)
  go_wp2_with fail
  go_quiet (fail)
  go_wp2
  go_ret
  exact ⟨rfl, by first | exact hbel | exact below_drewN hbel _ | exact below_drewN (below_drewN hbel _) _⟩

/-- An event's transaction, as a plain function: its number in the list. -/
def ofF (b : Book) (e : Ev) : Option Nat :=
  if h : 0 ≤ e.tx ∧ e.tx.toNat < b.l.length then (if (b.l[e.tx.toNat]'h.2).ov = true ∨ (b.l[e.tx.toNat]'h.2).thread ≠ e.thread then none else some e.tx.toNat) else none
theorem of_any {w : World} {base s : Nat} {lv : Value} {b : Book} {l : List TxM} (h : BookAt w base s lv b l) (e : Ev) :
    Calls Tryd.prog 43 #[.pointer (some ⟨s, 0, none⟩), .agg (evcs e)] w fun r w' => Below w.heap.size w w' ∧ match ofF b e with
      | none => r = .returned (.pointer none)
      | some k => ∃ x, l[k]? = some x ∧ b.l[k]? = some x.t ∧ r = .returned (.pointer (some ⟨x.g, 0, none⟩)) := by
  have c0 : w.cell? ⟨s, 0, none⟩ = some lv := (h.blk.cell 0).trans rfl
  have hlen := h.len
  obtain ⟨R, c, rfl, hnc, hR⟩ := own_shapes h.row
  unfold ofF
  by_cases h0 : e.tx < 0
  · rw [dif_neg (by omega)]
    exact (of_low e s w h0).mono fun r w' ⟨h1, h2⟩ => ⟨h2, h1⟩
  · by_cases h1 : (l.length : Int) ≤ e.tx
    · rw [dif_neg (by omega)]
      exact (of_high e s w R _ c h0 h1 c0).mono fun r w' ⟨h1, h2⟩ => ⟨h2, h1⟩
    · have hk : e.tx.toNat < l.length := by omega
      rw [dif_pos ⟨by omega, by omega⟩]
      obtain ⟨bb, off, rfl, _, hat⟩ := reads_flat hR (by omega) (by omega)
      have hx : l[e.tx.toNat]? = some l[e.tx.toNat] := List.getElem?_eq_getElem hk
      have hbx : b.l[e.tx.toNat]'(by omega) = (l[e.tx.toNat]).t := by simp [← h.eq]
      have c1 : w.cell? ⟨bb, off + e.tx.toNat, none⟩ = some (.pointer (some ⟨(l[e.tx.toNat]).g, 0, none⟩)) := hat _ _ (by simp [hx])
      have hT := h.txs _ (List.getElem_mem hk)
      have c2 : w.cell? ⟨(l[e.tx.toNat]).g, 7, none⟩ = some (.bool (l[e.tx.toNat]).t.ov) := (hT.blk.cell 7).trans rfl
      have c3 : w.cell? ⟨(l[e.tx.toNat]).g, 0, none⟩ = some (.int .i64 (l[e.tx.toNat]).t.thread) := (hT.blk.cell 0).trans rfl
      rw [hbx]
      by_cases ho : (l[e.tx.toNat]).t.ov = true
      · rw [if_pos (.inl ho)]
        rw [ho] at c2
        exact (of_over e s w _ _ _ _ _ _ h0 h1 rfl c0 c1 c2).mono fun r w' ⟨h1, h2⟩ => ⟨h2, h1⟩
      · have ho' : (l[e.tx.toNat]).t.ov = false := by simpa using ho
        rw [ho'] at c2
        by_cases ht : (l[e.tx.toNat]).t.thread = e.thread
        · rw [if_neg (by rw [ho']; simp [ht])]
          rw [ht] at c3
          exact (of_some e s w _ _ _ _ _ _ h0 h1 rfl c0 c1 c2 c3).mono fun r w' ⟨h1, h2⟩ => ⟨h2, _, hx, by rw [List.getElem?_eq_getElem (by omega), hbx], h1⟩
        · rw [if_pos (.inr ht)]
          exact (of_thread e s w _ _ _ _ _ _ h0 h1 rfl c0 c1 _ c2 c3 ht).mono fun r w' ⟨h1, h2⟩ => ⟨h2, h1⟩
end Go.Proofs.YtffjcojehiblnaaDoor
