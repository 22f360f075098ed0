/- The walk of (*book).of. -/
import Derived.Test.YtffjcojehiblnaaGreatDoorPb
import Derived.BigQuiet
import Derived.Deep.QuietTactic
import Derived.Deep.DeepMust
namespace Go.Proofs.YtffjcojehiblnaaGreatDoor
open Go.RowKit Go.Joins Go.ChangeShapes Go.WideShapes Go.Deep
set_option linter.unusedVariables false
set_option linter.unusedSimpArgs false
set_option maxRecDepth 100000

def evcs (e : Ev) : Array Value := #[.int .i64 e.at_, .int .i64 e.thread, .int .i64 e.tx, .int .i64 e.kind, .int .i64 e.cell, .int .i64 e.value, .bool e.own, .int .i64 e.start, .int .i64 e.seen, .int .i64 e.stamp,
  .int .u64 e.s0, .int .u64 e.s1, .int .u64 e.s2, .int .u64 e.s3, .int .u64 e.s4, .int .u64 e.s5, .int .u64 e.s6, .int .u64 e.s7, .int .i64 e.err]
theorem box_ev (e : Ev) (w : World) (i : Nat) : (w.alloc (.cells (evcs e) 43)).cell? ⟨w.heap.size, i, none⟩ = (evcs e)[i]? := (Blk.new w _ _).cell i
theorem old_ev (e : Ev) (w : World) {b i : Nat} {v : Value} (h : w.cell? ⟨b, i, none⟩ = some v) : (w.alloc (.cells (evcs e) 43)).cell? ⟨b, i, none⟩ = some v :=
  (World.cell?_alloc_lt _ _ ⟨b, i, none⟩ (World.block_lt_of_cell? w _ h)).trans h

set_option maxHeartbeats 4000000 in
theorem of_low (e : Ev) (s : Nat) (w : World) (h : e.tx < 0) :
    Calls Tryz.prog 49 #[.pointer (some ⟨s, 0, none⟩), .agg (evcs e)] w fun e w' => e = .returned (.pointer none) ∧ Below w.heap.size w w' := by
  have v2 : (w.alloc (.cells (evcs e) 43)).cell? ⟨w.heap.size, 2, none⟩ = some (.int .i64 e.tx) := box_ev e w 2
  have v1 : (w.alloc (.cells (evcs e) 43)).cell? ⟨w.heap.size, 1, none⟩ = some (.int .i64 e.thread) := box_ev e w 1
  have hg1 : decide (e.tx < 0) = true := by simp [h]
  have hbel : Below w.heap.size w (w.alloc (.cells (evcs e) 43)) := by repeat (first | with_reducible exact Below.refl _ _ | with_reducible refine Below.drew ?_ | with_reducible refine below_drewN ?_ _ | ((with_reducible refine Below.alloc ?_ ?_ _); (rotate_left; focus (first | with_reducible exact Nat.le_refl _ | omega | (simp; done) | (simp; omega) | (simp [World.setCell]; done) | (simp [World.setCell]; omega)))) | ((with_reducible refine Below.setCell ?_ ?_ _); (rotate_left; focus (first | with_reducible exact Nat.le_refl _ | omega | (simp; done) | (simp; omega) | (simp [World.setCell]; done) | (simp [World.setCell]; omega)))))
  go_enter Tryz.func49, Tryz.ntmps49
  go_wp2_with fail
  generalize w.alloc (.cells (evcs e) 43) = W1 at *
  go_quiet (fail)
  go_wp2
  go_ret
  exact ⟨rfl, by first | exact hbel | exact below_drewN hbel _ | exact below_drewN (below_drewN hbel _) _⟩

set_option maxHeartbeats 4000000 in
theorem of_high (e : Ev) (s : Nat) (w : World) (R : Option Addr) (n c : Nat) (h0 : ¬ e.tx < 0) (h : (n : Int) ≤ e.tx) (c0 : w.cell? ⟨s, 0, none⟩ = some (.slice R n c)) :
    Calls Tryz.prog 49 #[.pointer (some ⟨s, 0, none⟩), .agg (evcs e)] w fun e w' => e = .returned (.pointer none) ∧ Below w.heap.size w w' := by
  have v2 : (w.alloc (.cells (evcs e) 43)).cell? ⟨w.heap.size, 2, none⟩ = some (.int .i64 e.tx) := box_ev e w 2
  have v1 : (w.alloc (.cells (evcs e) 43)).cell? ⟨w.heap.size, 1, none⟩ = some (.int .i64 e.thread) := box_ev e w 1
  have d0 := old_ev e w c0
  have hg1 : decide (e.tx < 0) = false := by simp [h0]
  have hg2 : decide ((n : Int) ≤ e.tx) = true := by simp [h]
  clear c0
  have hbel : Below w.heap.size w (w.alloc (.cells (evcs e) 43)) := by repeat (first | with_reducible exact Below.refl _ _ | with_reducible refine Below.drew ?_ | with_reducible refine below_drewN ?_ _ | ((with_reducible refine Below.alloc ?_ ?_ _); (rotate_left; focus (first | with_reducible exact Nat.le_refl _ | omega | (simp; done) | (simp; omega) | (simp [World.setCell]; done) | (simp [World.setCell]; omega)))) | ((with_reducible refine Below.setCell ?_ ?_ _); (rotate_left; focus (first | with_reducible exact Nat.le_refl _ | omega | (simp; done) | (simp; omega) | (simp [World.setCell]; done) | (simp [World.setCell]; omega)))))
  go_enter Tryz.func49, Tryz.ntmps49
  go_wp2_with fail
  generalize w.alloc (.cells (evcs e) 43) = W1 at *
  go_quiet (fail)
  go_wp2
  go_ret
  exact ⟨rfl, by first | exact hbel | exact below_drewN hbel _ | exact below_drewN (below_drewN hbel _) _⟩

set_option maxHeartbeats 4000000 in
theorem of_over (e : Ev) (s : Nat) (w : World) (g b off k n c : Nat) (h0 : ¬ e.tx < 0) (h : ¬ (n : Int) ≤ e.tx) (hk : e.tx.toNat = k) (c0 : w.cell? ⟨s, 0, none⟩ = some (.slice (some ⟨b, off, none⟩) n c)) (c1 : w.cell? ⟨b, off + k, none⟩ = some (.pointer (some ⟨g, 0, none⟩))) (c2 : w.cell? ⟨g, 7, none⟩ = some (.bool true)) :
    Calls Tryz.prog 49 #[.pointer (some ⟨s, 0, none⟩), .agg (evcs e)] w fun e w' => e = .returned (.pointer none) ∧ Below w.heap.size w w' := by
  have v2 : (w.alloc (.cells (evcs e) 43)).cell? ⟨w.heap.size, 2, none⟩ = some (.int .i64 e.tx) := box_ev e w 2
  have v1 : (w.alloc (.cells (evcs e) 43)).cell? ⟨w.heap.size, 1, none⟩ = some (.int .i64 e.thread) := box_ev e w 1
  subst hk
  have d0 := old_ev e w c0
  have d1 := old_ev e w c1
  have d2 := old_ev e w c2
  have hg1 : decide (e.tx < 0) = false := by simp [h0]
  have hg2 : decide ((n : Int) ≤ e.tx) = false := by simp; omega
  have hlt : e.tx.toNat < n := by omega
  have hlt2 : e.tx < (n : Int) := by omega
  have hge : 0 ≤ e.tx := by omega
  clear c0 c1 c2
  have hbel : Below w.heap.size w (w.alloc (.cells (evcs e) 43)) := by repeat (first | with_reducible exact Below.refl _ _ | with_reducible refine Below.drew ?_ | with_reducible refine below_drewN ?_ _ | ((with_reducible refine Below.alloc ?_ ?_ _); (rotate_left; focus (first | with_reducible exact Nat.le_refl _ | omega | (simp; done) | (simp; omega) | (simp [World.setCell]; done) | (simp [World.setCell]; omega)))) | ((with_reducible refine Below.setCell ?_ ?_ _); (rotate_left; focus (first | with_reducible exact Nat.le_refl _ | omega | (simp; done) | (simp; omega) | (simp [World.setCell]; done) | (simp [World.setCell]; omega)))))
  go_enter Tryz.func49, Tryz.ntmps49
  go_wp2_with fail
  generalize w.alloc (.cells (evcs e) 43) = W1 at *
  go_quiet (fail)
  go_wp2
  go_ret
  exact ⟨rfl, by first | exact hbel | exact below_drewN hbel _ | exact below_drewN (below_drewN hbel _) _⟩

set_option maxHeartbeats 4000000 in
theorem of_thread (e : Ev) (s : Nat) (w : World) (g b off k n c : Nat) (h0 : ¬ e.tx < 0) (h : ¬ (n : Int) ≤ e.tx) (hk : e.tx.toNat = k) (c0 : w.cell? ⟨s, 0, none⟩ = some (.slice (some ⟨b, off, none⟩) n c)) (c1 : w.cell? ⟨b, off + k, none⟩ = some (.pointer (some ⟨g, 0, none⟩))) (th : Int) (c2 : w.cell? ⟨g, 7, none⟩ = some (.bool false)) (c3 : w.cell? ⟨g, 0, none⟩ = some (.int .i64 th)) (hth : th ≠ e.thread) :
    Calls Tryz.prog 49 #[.pointer (some ⟨s, 0, none⟩), .agg (evcs e)] w fun e w' => e = .returned (.pointer none) ∧ Below w.heap.size w w' := by
  have v2 : (w.alloc (.cells (evcs e) 43)).cell? ⟨w.heap.size, 2, none⟩ = some (.int .i64 e.tx) := box_ev e w 2
  have v1 : (w.alloc (.cells (evcs e) 43)).cell? ⟨w.heap.size, 1, none⟩ = some (.int .i64 e.thread) := box_ev e w 1
  subst hk
  have d0 := old_ev e w c0
  have d1 := old_ev e w c1
  have d2 := old_ev e w c2
  have hg1 : decide (e.tx < 0) = false := by simp [h0]
  have hg2 : decide ((n : Int) ≤ e.tx) = false := by simp; omega
  have hlt : e.tx.toNat < n := by omega
  have hlt2 : e.tx < (n : Int) := by omega
  have hge : 0 ≤ e.tx := by omega
  have d3 := old_ev e w c3
  have hg3 : decide (th = e.thread) = false := by simp [hth]
  clear c0 c1 c2 c3
  have hbel : Below w.heap.size w (w.alloc (.cells (evcs e) 43)) := by repeat (first | with_reducible exact Below.refl _ _ | with_reducible refine Below.drew ?_ | with_reducible refine below_drewN ?_ _ | ((with_reducible refine Below.alloc ?_ ?_ _); (rotate_left; focus (first | with_reducible exact Nat.le_refl _ | omega | (simp; done) | (simp; omega) | (simp [World.setCell]; done) | (simp [World.setCell]; omega)))) | ((with_reducible refine Below.setCell ?_ ?_ _); (rotate_left; focus (first | with_reducible exact Nat.le_refl _ | omega | (simp; done) | (simp; omega) | (simp [World.setCell]; done) | (simp [World.setCell]; omega)))))
  go_enter Tryz.func49, Tryz.ntmps49
  go_wp2_with fail
  generalize w.alloc (.cells (evcs e) 43) = W1 at *
  go_quiet (fail)
  go_wp2
  go_ret
  exact ⟨rfl, by first | exact hbel | exact below_drewN hbel _ | exact below_drewN (below_drewN hbel _) _⟩

set_option maxHeartbeats 4000000 in
theorem of_some (e : Ev) (s : Nat) (w : World) (g b off k n c : Nat) (h0 : ¬ e.tx < 0) (h : ¬ (n : Int) ≤ e.tx) (hk : e.tx.toNat = k) (c0 : w.cell? ⟨s, 0, none⟩ = some (.slice (some ⟨b, off, none⟩) n c)) (c1 : w.cell? ⟨b, off + k, none⟩ = some (.pointer (some ⟨g, 0, none⟩))) (c2 : w.cell? ⟨g, 7, none⟩ = some (.bool false)) (c3 : w.cell? ⟨g, 0, none⟩ = some (.int .i64 e.thread)) :
    Calls Tryz.prog 49 #[.pointer (some ⟨s, 0, none⟩), .agg (evcs e)] w fun e w' => e = .returned (.pointer (some ⟨g, 0, none⟩)) ∧ Below w.heap.size w w' := by
  have v2 : (w.alloc (.cells (evcs e) 43)).cell? ⟨w.heap.size, 2, none⟩ = some (.int .i64 e.tx) := box_ev e w 2
  have v1 : (w.alloc (.cells (evcs e) 43)).cell? ⟨w.heap.size, 1, none⟩ = some (.int .i64 e.thread) := box_ev e w 1
  subst hk
  have d0 := old_ev e w c0
  have d1 := old_ev e w c1
  have d2 := old_ev e w c2
  have hg1 : decide (e.tx < 0) = false := by simp [h0]
  have hg2 : decide ((n : Int) ≤ e.tx) = false := by simp; omega
  have hlt : e.tx.toNat < n := by omega
  have hlt2 : e.tx < (n : Int) := by omega
  have hge : 0 ≤ e.tx := by omega
  have d3 := old_ev e w c3
  clear c0 c1 c2 c3
  have hbel : Below w.heap.size w (w.alloc (.cells (evcs e) 43)) := by repeat (first | with_reducible exact Below.refl _ _ | with_reducible refine Below.drew ?_ | with_reducible refine below_drewN ?_ _ | ((with_reducible refine Below.alloc ?_ ?_ _); (rotate_left; focus (first | with_reducible exact Nat.le_refl _ | omega | (simp; done) | (simp; omega) | (simp [World.setCell]; done) | (simp [World.setCell]; omega)))) | ((with_reducible refine Below.setCell ?_ ?_ _); (rotate_left; focus (first | with_reducible exact Nat.le_refl _ | omega | (simp; done) | (simp; omega) | (simp [World.setCell]; done) | (simp [World.setCell]; omega)))))
  go_enter Tryz.func49, Tryz.ntmps49
  go_wp2_with fail
  generalize w.alloc (.cells (evcs e) 43) = W1 at *
  go_quiet (fail)
  go_wp2_with fail
  go_quiet (fail)
  go_wp2
  go_ret
  exact ⟨rfl, by first | exact hbel | exact below_drewN hbel _ | exact below_drewN (below_drewN hbel _) _⟩

/-- An event's transaction, as a plain function: its number in the list. -/
def ofF (b : Book) (e : Ev) : Option Nat :=
  if h : 0 ≤ e.tx ∧ e.tx.toNat < b.l.length then (if (b.l[e.tx.toNat]'h.2).ov = true ∨ (b.l[e.tx.toNat]'h.2).thread ≠ e.thread then none else some e.tx.toNat) else none
theorem of_any {w : World} {base s : Nat} {lv : Value} {b : Book} {l : List TxM} (h : BookAt w base s lv b l) (e : Ev) :
    Calls Tryz.prog 49 #[.pointer (some ⟨s, 0, none⟩), .agg (evcs e)] w fun r w' => Below w.heap.size w w' ∧ match ofF b e with
      | none => r = .returned (.pointer none)
      | some k => ∃ x, l[k]? = some x ∧ b.l[k]? = some x.t ∧ r = .returned (.pointer (some ⟨x.g, 0, none⟩)) := by
  have c0 : w.cell? ⟨s, 0, none⟩ = some lv := (h.blk.cell 0).trans rfl
  have hlen := h.len
  obtain ⟨R, c, rfl, hnc, hR⟩ := own_shapes h.row
  unfold ofF
  by_cases h0 : e.tx < 0
  · rw [dif_neg (by omega)]
    exact (of_low e s w h0).mono fun r w' ⟨h1, h2⟩ => ⟨h2, h1⟩
  · by_cases h1 : (l.length : Int) ≤ e.tx
    · rw [dif_neg (by omega)]
      exact (of_high e s w R _ c h0 h1 c0).mono fun r w' ⟨h1, h2⟩ => ⟨h2, h1⟩
    · have hk : e.tx.toNat < l.length := by omega
      rw [dif_pos ⟨by omega, by omega⟩]
      obtain ⟨bb, off, rfl, _, hat⟩ := reads_flat hR (by omega) (by omega)
      have hx : l[e.tx.toNat]? = some l[e.tx.toNat] := List.getElem?_eq_getElem hk
      have hbx : b.l[e.tx.toNat]'(by omega) = (l[e.tx.toNat]).t := by simp [← h.eq]
      have c1 : w.cell? ⟨bb, off + e.tx.toNat, none⟩ = some (.pointer (some ⟨(l[e.tx.toNat]).g, 0, none⟩)) := hat _ _ (by simp [hx])
      have hT := h.txs _ (List.getElem_mem hk)
      have c2 : w.cell? ⟨(l[e.tx.toNat]).g, 7, none⟩ = some (.bool (l[e.tx.toNat]).t.ov) := (hT.blk.cell 7).trans rfl
      have c3 : w.cell? ⟨(l[e.tx.toNat]).g, 0, none⟩ = some (.int .i64 (l[e.tx.toNat]).t.thread) := (hT.blk.cell 0).trans rfl
      rw [hbx]
      by_cases ho : (l[e.tx.toNat]).t.ov = true
      · rw [if_pos (.inl ho)]
        rw [ho] at c2
        exact (of_over e s w _ _ _ _ _ _ h0 h1 rfl c0 c1 c2).mono fun r w' ⟨h1, h2⟩ => ⟨h2, h1⟩
      · have ho' : (l[e.tx.toNat]).t.ov = false := by simpa using ho
        rw [ho'] at c2
        by_cases ht : (l[e.tx.toNat]).t.thread = e.thread
        · rw [if_neg (by rw [ho']; simp [ht])]
          rw [ht] at c3
          exact (of_some e s w _ _ _ _ _ _ h0 h1 rfl c0 c1 c2 c3).mono fun r w' ⟨h1, h2⟩ => ⟨h2, _, hx, by rw [List.getElem?_eq_getElem (by omega), hbx], h1⟩
        · rw [if_pos (.inr ht)]
          exact (of_thread e s w _ _ _ _ _ _ h0 h1 rfl c0 c1 _ c2 c3 ht).mono fun r w' ⟨h1, h2⟩ => ⟨h2, h1⟩
end Go.Proofs.YtffjcojehiblnaaGreatDoor

/- The walk of (*book).goes: what may not come. -/
namespace Go.Proofs.YtffjcojehiblnaaGreatDoor
open Go.RowKit Go.Joins Go.ChangeShapes Go.WideShapes Go.Deep
set_option linter.unusedVariables false
set_option linter.unusedSimpArgs false
set_option maxRecDepth 100000

theorem wrap_small {a : Int} (h0 : -9223372036854775808 ≤ a) (h1 : a ≤ 9223372036854775807) : IntKind.i64.wrap a = a := IntWalk.i64_in _ ⟨h0, h1⟩

set_option maxHeartbeats 4000000 in
theorem goes_c0 (e : Ev) (s g : Nat) (w : World) (hk : e.kind = 5) (c0 : w.cell? ⟨g, 3, none⟩ = some (.int .i64 0)) :
    Calls Tryz.prog 50 #[.pointer (some ⟨s, 0, none⟩), .pointer (some ⟨g, 0, none⟩), .agg (evcs e)] w fun r w' => r = .returned (.bool false) ∧ Below w.heap.size w w' := by
  have v3 : (w.alloc (.cells (evcs e) 43)).cell? ⟨w.heap.size, 3, none⟩ = some (.int .i64 e.kind) := box_ev e w 3
  have d0 := old_ev e w c0
  have hk5 : decide (e.kind = 5) = true := by simp [hk]
  have hbel : Below w.heap.size w (w.alloc (.cells (evcs e) 43)) := by repeat (first | with_reducible exact Below.refl _ _ | with_reducible refine Below.drew ?_ | with_reducible refine below_drewN ?_ _ | ((with_reducible refine Below.alloc ?_ ?_ _); (rotate_left; focus (first | with_reducible exact Nat.le_refl _ | omega | (simp; done) | (simp; omega) | (simp [World.setCell]; done) | (simp [World.setCell]; omega)))) | ((with_reducible refine Below.setCell ?_ ?_ _); (rotate_left; focus (first | with_reducible exact Nat.le_refl _ | omega | (simp; done) | (simp; omega) | (simp [World.setCell]; done) | (simp [World.setCell]; omega)))))
  clear c0
  go_enter Tryz.func50, Tryz.ntmps50
  go_wp2_with fail
  generalize w.alloc (.cells (evcs e) 43) = W1 at *
  go_quiet (fail)
  go_wp2
  go_ret
  exact ⟨rfl, by first | exact hbel | exact below_drewN hbel _ | exact below_drewN (below_drewN hbel _) _⟩

set_option maxHeartbeats 4000000 in
theorem goes_c1 (e : Ev) (s g : Nat) (w : World) (st : Int) (hk : e.kind = 5) (h0 : ¬ st = 0) (h1 : ¬ e.stamp = st) (c0 : w.cell? ⟨g, 3, none⟩ = some (.int .i64 st)) :
    Calls Tryz.prog 50 #[.pointer (some ⟨s, 0, none⟩), .pointer (some ⟨g, 0, none⟩), .agg (evcs e)] w fun r w' => r = .returned (.bool false) ∧ Below w.heap.size w w' := by
  have v3 : (w.alloc (.cells (evcs e) 43)).cell? ⟨w.heap.size, 3, none⟩ = some (.int .i64 e.kind) := box_ev e w 3
  have v9 : (w.alloc (.cells (evcs e) 43)).cell? ⟨w.heap.size, 9, none⟩ = some (.int .i64 e.stamp) := box_ev e w 9
  have d0 := old_ev e w c0
  have hk5 : decide (e.kind = 5) = true := by simp [hk]
  have hs0 : decide (st = 0) = false := by simp [h0]
  have hs1 : decide (e.stamp = st) = false := by simp [h1]
  have hbel : Below w.heap.size w (w.alloc (.cells (evcs e) 43)) := by repeat (first | with_reducible exact Below.refl _ _ | with_reducible refine Below.drew ?_ | with_reducible refine below_drewN ?_ _ | ((with_reducible refine Below.alloc ?_ ?_ _); (rotate_left; focus (first | with_reducible exact Nat.le_refl _ | omega | (simp; done) | (simp; omega) | (simp [World.setCell]; done) | (simp [World.setCell]; omega)))) | ((with_reducible refine Below.setCell ?_ ?_ _); (rotate_left; focus (first | with_reducible exact Nat.le_refl _ | omega | (simp; done) | (simp; omega) | (simp [World.setCell]; done) | (simp [World.setCell]; omega)))))
  clear c0
  go_enter Tryz.func50, Tryz.ntmps50
  go_wp2_with fail
  generalize w.alloc (.cells (evcs e) 43) = W1 at *
  go_quiet (fail)
  go_wp2
  go_ret
  exact ⟨rfl, by first | exact hbel | exact below_drewN hbel _ | exact below_drewN (below_drewN hbel _) _⟩

set_option maxHeartbeats 4000000 in
theorem goes_c2 (e : Ev) (s g : Nat) (w : World) (st : Int) (done : Nat) (hd : done ≤ 4611686018427387904) (hk : e.kind = 5) (h0 : ¬ st = 0) (h1 : e.stamp = st) (h2 : ¬ st = (done : Int) + 1) (c0 : w.cell? ⟨g, 3, none⟩ = some (.int .i64 st)) (c1 : w.cell? ⟨s, 3, none⟩ = some (.int .i64 done)) :
    Calls Tryz.prog 50 #[.pointer (some ⟨s, 0, none⟩), .pointer (some ⟨g, 0, none⟩), .agg (evcs e)] w fun r w' => r = .returned (.bool false) ∧ Below w.heap.size w w' := by
  have v3 : (w.alloc (.cells (evcs e) 43)).cell? ⟨w.heap.size, 3, none⟩ = some (.int .i64 e.kind) := box_ev e w 3
  have v9 : (w.alloc (.cells (evcs e) 43)).cell? ⟨w.heap.size, 9, none⟩ = some (.int .i64 e.stamp) := box_ev e w 9
  have d0 := old_ev e w c0
  have d1 := old_ev e w c1
  have hk5 : decide (e.kind = 5) = true := by simp [hk]
  have hs0 : decide (st = 0) = false := by simp [h0]
  rw [h1] at v9
  have hwr : IntKind.i64.wrap ((done : Int) + 1) = (done : Int) + 1 := wrap_small (by omega) (by omega)
  have hb0 : (st == 0) = false := by simp [h0]
  have hb2 : (st != IntKind.i64.wrap ((done : Int) + 1)) = true := by rw [hwr]; simp [h2]
  have hbel : Below w.heap.size w (w.alloc (.cells (evcs e) 43)) := by repeat (first | with_reducible exact Below.refl _ _ | with_reducible refine Below.drew ?_ | with_reducible refine below_drewN ?_ _ | ((with_reducible refine Below.alloc ?_ ?_ _); (rotate_left; focus (first | with_reducible exact Nat.le_refl _ | omega | (simp; done) | (simp; omega) | (simp [World.setCell]; done) | (simp [World.setCell]; omega)))) | ((with_reducible refine Below.setCell ?_ ?_ _); (rotate_left; focus (first | with_reducible exact Nat.le_refl _ | omega | (simp; done) | (simp; omega) | (simp [World.setCell]; done) | (simp [World.setCell]; omega)))))
  clear c0 c1
  go_enter Tryz.func50, Tryz.ntmps50
  go_wp2_with fail
  generalize w.alloc (.cells (evcs e) 43) = W1 at *
  go_quiet (fail)
  go_wp2
  all_goals (try (exfalso; rename (_ = false ∧ _ = false) => hh; exact absurd hh.2 (by rw [hb2]; decide)))
  go_ret
  exact ⟨rfl, by first | exact hbel | exact below_drewN hbel _ | exact below_drewN (below_drewN hbel _) _⟩

set_option maxHeartbeats 4000000 in
theorem goes_pub (e : Ev) (s g : Nat) (w : World) (st : Int) (hk : ¬ e.kind = 5) (h0 : ¬ st = 0) (c0 : w.cell? ⟨g, 3, none⟩ = some (.int .i64 st)) :
    Calls Tryz.prog 50 #[.pointer (some ⟨s, 0, none⟩), .pointer (some ⟨g, 0, none⟩), .agg (evcs e)] w fun r w' => r = .returned (.bool false) ∧ Below w.heap.size w w' := by
  have v3 : (w.alloc (.cells (evcs e) 43)).cell? ⟨w.heap.size, 3, none⟩ = some (.int .i64 e.kind) := box_ev e w 3
  have d0 := old_ev e w c0
  have hk5 : decide (e.kind = 5) = false := by simp [hk]
  have hs0 : decide (st = 0) = false := by simp [h0]
  have hbel : Below w.heap.size w (w.alloc (.cells (evcs e) 43)) := by repeat (first | with_reducible exact Below.refl _ _ | with_reducible refine Below.drew ?_ | with_reducible refine below_drewN ?_ _ | ((with_reducible refine Below.alloc ?_ ?_ _); (rotate_left; focus (first | with_reducible exact Nat.le_refl _ | omega | (simp; done) | (simp; omega) | (simp [World.setCell]; done) | (simp [World.setCell]; omega)))) | ((with_reducible refine Below.setCell ?_ ?_ _); (rotate_left; focus (first | with_reducible exact Nat.le_refl _ | omega | (simp; done) | (simp; omega) | (simp [World.setCell]; done) | (simp [World.setCell]; omega)))))
  clear c0
  go_enter Tryz.func50, Tryz.ntmps50
  go_wp2_with fail
  generalize w.alloc (.cells (evcs e) 43) = W1 at *
  go_wp2
  go_ret
  exact ⟨rfl, by first | exact hbel | exact below_drewN hbel _ | exact below_drewN (below_drewN hbel _) _⟩

set_option maxHeartbeats 4000000 in
theorem goes_cell0 (e : Ev) (s g : Nat) (w : World) (hk : e.kind = 2) (hc : e.cell < 0) (c0 : w.cell? ⟨g, 3, none⟩ = some (.int .i64 0)) :
    Calls Tryz.prog 50 #[.pointer (some ⟨s, 0, none⟩), .pointer (some ⟨g, 0, none⟩), .agg (evcs e)] w fun r w' => r = .returned (.bool false) ∧ Below w.heap.size w w' := by
  have v3 : (w.alloc (.cells (evcs e) 43)).cell? ⟨w.heap.size, 3, none⟩ = some (.int .i64 e.kind) := box_ev e w 3
  have v4 : (w.alloc (.cells (evcs e) 43)).cell? ⟨w.heap.size, 4, none⟩ = some (.int .i64 e.cell) := box_ev e w 4
  have d0 := old_ev e w c0
  rw [hk] at v3
  have hs1 : decide (e.cell < 0) = true := by simp [hc]
  have hbel : Below w.heap.size w (w.alloc (.cells (evcs e) 43)) := by repeat (first | with_reducible exact Below.refl _ _ | with_reducible refine Below.drew ?_ | with_reducible refine below_drewN ?_ _ | ((with_reducible refine Below.alloc ?_ ?_ _); (rotate_left; focus (first | with_reducible exact Nat.le_refl _ | omega | (simp; done) | (simp; omega) | (simp [World.setCell]; done) | (simp [World.setCell]; omega)))) | ((with_reducible refine Below.setCell ?_ ?_ _); (rotate_left; focus (first | with_reducible exact Nat.le_refl _ | omega | (simp; done) | (simp; omega) | (simp [World.setCell]; done) | (simp [World.setCell]; omega)))))
  clear c0
  go_enter Tryz.func50, Tryz.ntmps50
  go_wp2_with fail
  generalize w.alloc (.cells (evcs e) 43) = W1 at *
  go_wp2
  go_ret
  exact ⟨rfl, by first | exact hbel | exact below_drewN hbel _ | exact below_drewN (below_drewN hbel _) _⟩

set_option maxHeartbeats 4000000 in
theorem goes_cell1 (e : Ev) (s g : Nat) (w : World) (hk : e.kind = 2) (hc0 : ¬ e.cell < 0) (hc : 1024 ≤ e.cell) (c0 : w.cell? ⟨g, 3, none⟩ = some (.int .i64 0)) :
    Calls Tryz.prog 50 #[.pointer (some ⟨s, 0, none⟩), .pointer (some ⟨g, 0, none⟩), .agg (evcs e)] w fun r w' => r = .returned (.bool false) ∧ Below w.heap.size w w' := by
  have v3 : (w.alloc (.cells (evcs e) 43)).cell? ⟨w.heap.size, 3, none⟩ = some (.int .i64 e.kind) := box_ev e w 3
  have v4 : (w.alloc (.cells (evcs e) 43)).cell? ⟨w.heap.size, 4, none⟩ = some (.int .i64 e.cell) := box_ev e w 4
  have d0 := old_ev e w c0
  rw [hk] at v3
  have hs1 : decide (e.cell < 0) = false := by simp [hc0]
  have hs2 : decide (1024 ≤ e.cell) = true := by simp [hc]
  have hbel : Below w.heap.size w (w.alloc (.cells (evcs e) 43)) := by repeat (first | with_reducible exact Below.refl _ _ | with_reducible refine Below.drew ?_ | with_reducible refine below_drewN ?_ _ | ((with_reducible refine Below.alloc ?_ ?_ _); (rotate_left; focus (first | with_reducible exact Nat.le_refl _ | omega | (simp; done) | (simp; omega) | (simp [World.setCell]; done) | (simp [World.setCell]; omega)))) | ((with_reducible refine Below.setCell ?_ ?_ _); (rotate_left; focus (first | with_reducible exact Nat.le_refl _ | omega | (simp; done) | (simp; omega) | (simp [World.setCell]; done) | (simp [World.setCell]; omega)))))
  clear c0
  go_enter Tryz.func50, Tryz.ntmps50
  go_wp2_with fail
  generalize w.alloc (.cells (evcs e) 43) = W1 at *
  go_wp2
  go_ret
  exact ⟨rfl, by first | exact hbel | exact below_drewN hbel _ | exact below_drewN (below_drewN hbel _) _⟩

set_option maxHeartbeats 4000000 in
theorem goes_cell2 (e : Ev) (s g : Nat) (w : World) (hk : e.kind = 3) (hc : e.cell < 0) (c0 : w.cell? ⟨g, 3, none⟩ = some (.int .i64 0)) :
    Calls Tryz.prog 50 #[.pointer (some ⟨s, 0, none⟩), .pointer (some ⟨g, 0, none⟩), .agg (evcs e)] w fun r w' => r = .returned (.bool false) ∧ Below w.heap.size w w' := by
  have v3 : (w.alloc (.cells (evcs e) 43)).cell? ⟨w.heap.size, 3, none⟩ = some (.int .i64 e.kind) := box_ev e w 3
  have v4 : (w.alloc (.cells (evcs e) 43)).cell? ⟨w.heap.size, 4, none⟩ = some (.int .i64 e.cell) := box_ev e w 4
  have d0 := old_ev e w c0
  rw [hk] at v3
  have hs1 : decide (e.cell < 0) = true := by simp [hc]
  have hbel : Below w.heap.size w (w.alloc (.cells (evcs e) 43)) := by repeat (first | with_reducible exact Below.refl _ _ | with_reducible refine Below.drew ?_ | with_reducible refine below_drewN ?_ _ | ((with_reducible refine Below.alloc ?_ ?_ _); (rotate_left; focus (first | with_reducible exact Nat.le_refl _ | omega | (simp; done) | (simp; omega) | (simp [World.setCell]; done) | (simp [World.setCell]; omega)))) | ((with_reducible refine Below.setCell ?_ ?_ _); (rotate_left; focus (first | with_reducible exact Nat.le_refl _ | omega | (simp; done) | (simp; omega) | (simp [World.setCell]; done) | (simp [World.setCell]; omega)))))
  clear c0
  go_enter Tryz.func50, Tryz.ntmps50
  go_wp2_with fail
  generalize w.alloc (.cells (evcs e) 43) = W1 at *
  go_wp2
  go_ret
  exact ⟨rfl, by first | exact hbel | exact below_drewN hbel _ | exact below_drewN (below_drewN hbel _) _⟩

set_option maxHeartbeats 4000000 in
theorem goes_cell3 (e : Ev) (s g : Nat) (w : World) (hk : e.kind = 3) (hc0 : ¬ e.cell < 0) (hc : 1024 ≤ e.cell) (c0 : w.cell? ⟨g, 3, none⟩ = some (.int .i64 0)) :
    Calls Tryz.prog 50 #[.pointer (some ⟨s, 0, none⟩), .pointer (some ⟨g, 0, none⟩), .agg (evcs e)] w fun r w' => r = .returned (.bool false) ∧ Below w.heap.size w w' := by
  have v3 : (w.alloc (.cells (evcs e) 43)).cell? ⟨w.heap.size, 3, none⟩ = some (.int .i64 e.kind) := box_ev e w 3
  have v4 : (w.alloc (.cells (evcs e) 43)).cell? ⟨w.heap.size, 4, none⟩ = some (.int .i64 e.cell) := box_ev e w 4
  have d0 := old_ev e w c0
  rw [hk] at v3
  have hs1 : decide (e.cell < 0) = false := by simp [hc0]
  have hs2 : decide (1024 ≤ e.cell) = true := by simp [hc]
  have hbel : Below w.heap.size w (w.alloc (.cells (evcs e) 43)) := by repeat (first | with_reducible exact Below.refl _ _ | with_reducible refine Below.drew ?_ | with_reducible refine below_drewN ?_ _ | ((with_reducible refine Below.alloc ?_ ?_ _); (rotate_left; focus (first | with_reducible exact Nat.le_refl _ | omega | (simp; done) | (simp; omega) | (simp [World.setCell]; done) | (simp [World.setCell]; omega)))) | ((with_reducible refine Below.setCell ?_ ?_ _); (rotate_left; focus (first | with_reducible exact Nat.le_refl _ | omega | (simp; done) | (simp; omega) | (simp [World.setCell]; done) | (simp [World.setCell]; omega)))))
  clear c0
  go_enter Tryz.func50, Tryz.ntmps50
  go_wp2_with fail
  generalize w.alloc (.cells (evcs e) 43) = W1 at *
  go_wp2
  go_ret
  exact ⟨rfl, by first | exact hbel | exact below_drewN hbel _ | exact below_drewN (below_drewN hbel _) _⟩

set_option maxHeartbeats 4000000 in
theorem goes_stamp (e : Ev) (s g : Nat) (w : World) (pub : Nat) (hd : pub ≤ 4611686018427387904) (hk : e.kind = 4) (h2 : ¬ e.stamp = (pub : Int) + 1) (c0 : w.cell? ⟨g, 3, none⟩ = some (.int .i64 0)) (c1 : w.cell? ⟨s, 2, none⟩ = some (.int .i64 pub)) :
    Calls Tryz.prog 50 #[.pointer (some ⟨s, 0, none⟩), .pointer (some ⟨g, 0, none⟩), .agg (evcs e)] w fun r w' => r = .returned (.bool false) ∧ Below w.heap.size w w' := by
  have v3 : (w.alloc (.cells (evcs e) 43)).cell? ⟨w.heap.size, 3, none⟩ = some (.int .i64 e.kind) := box_ev e w 3
  have v9 : (w.alloc (.cells (evcs e) 43)).cell? ⟨w.heap.size, 9, none⟩ = some (.int .i64 e.stamp) := box_ev e w 9
  have d0 := old_ev e w c0
  have d1 := old_ev e w c1
  rw [hk] at v3
  have hwr : IntKind.i64.wrap ((pub : Int) + 1) = (pub : Int) + 1 := wrap_small (by omega) (by omega)
  have hs2 : decide (e.stamp = IntKind.i64.wrap ((pub : Int) + 1)) = false := by rw [hwr]; simp [h2]
  have hbel : Below w.heap.size w (w.alloc (.cells (evcs e) 43)) := by repeat (first | with_reducible exact Below.refl _ _ | with_reducible refine Below.drew ?_ | with_reducible refine below_drewN ?_ _ | ((with_reducible refine Below.alloc ?_ ?_ _); (rotate_left; focus (first | with_reducible exact Nat.le_refl _ | omega | (simp; done) | (simp; omega) | (simp [World.setCell]; done) | (simp [World.setCell]; omega)))) | ((with_reducible refine Below.setCell ?_ ?_ _); (rotate_left; focus (first | with_reducible exact Nat.le_refl _ | omega | (simp; done) | (simp; omega) | (simp [World.setCell]; done) | (simp [World.setCell]; omega)))))
  clear c0 c1
  go_enter Tryz.func50, Tryz.ntmps50
  go_wp2_with fail
  generalize w.alloc (.cells (evcs e) 43) = W1 at *
  go_wp2
  go_quiet (fail)
  go_wp2
  go_ret
  exact ⟨rfl, by first | exact hbel | exact below_drewN hbel _ | exact below_drewN (below_drewN hbel _) _⟩

set_option maxHeartbeats 4000000 in
theorem goes_other (e : Ev) (s g : Nat) (w : World) (k5 : ¬ e.kind = 5) (k2 : ¬ e.kind = 2) (k3 : ¬ e.kind = 3) (k4 : ¬ e.kind = 4) (k6 : ¬ e.kind = 6) (c0 : w.cell? ⟨g, 3, none⟩ = some (.int .i64 0)) :
    Calls Tryz.prog 50 #[.pointer (some ⟨s, 0, none⟩), .pointer (some ⟨g, 0, none⟩), .agg (evcs e)] w fun r w' => r = .returned (.bool false) ∧ Below w.heap.size w w' := by
  have v3 : (w.alloc (.cells (evcs e) 43)).cell? ⟨w.heap.size, 3, none⟩ = some (.int .i64 e.kind) := box_ev e w 3
  have d0 := old_ev e w c0
  have hk5 : decide (e.kind = 5) = false := by simp [k5]
  have hk2 : decide (e.kind = 2) = false := by simp [k2]
  have hk3 : decide (e.kind = 3) = false := by simp [k3]
  have hk4 : decide (e.kind = 4) = false := by simp [k4]
  have hk6 : decide (e.kind = 6) = false := by simp [k6]
  have hbel : Below w.heap.size w (w.alloc (.cells (evcs e) 43)) := by repeat (first | with_reducible exact Below.refl _ _ | with_reducible refine Below.drew ?_ | with_reducible refine below_drewN ?_ _ | ((with_reducible refine Below.alloc ?_ ?_ _); (rotate_left; focus (first | with_reducible exact Nat.le_refl _ | omega | (simp; done) | (simp; omega) | (simp [World.setCell]; done) | (simp [World.setCell]; omega)))) | ((with_reducible refine Below.setCell ?_ ?_ _); (rotate_left; focus (first | with_reducible exact Nat.le_refl _ | omega | (simp; done) | (simp; omega) | (simp [World.setCell]; done) | (simp [World.setCell]; omega)))))
  clear c0
  go_enter Tryz.func50, Tryz.ntmps50
  go_wp2_with fail
  generalize w.alloc (.cells (evcs e) 43) = W1 at *
  go_wp2
  go_ret
  exact ⟨rfl, by first | exact hbel | exact below_drewN hbel _ | exact below_drewN (below_drewN hbel _) _⟩
end Go.Proofs.YtffjcojehiblnaaGreatDoor

/- The walk of (*book).goes: what may come. -/
namespace Go.Proofs.YtffjcojehiblnaaGreatDoor
open Go.RowKit Go.Joins Go.ChangeShapes Go.WideShapes Go.Deep
set_option linter.unusedVariables false
set_option linter.unusedSimpArgs false
set_option maxRecDepth 100000

def GPost (w : World) (base s : Nat) (lv : Value) (at_ : Int) (x : TxM) (t' : TxP) (p' d' : Nat) : Ending → World → Prop := fun r w' =>
  r = .returned (.bool true) ∧ ∃ sv', TxAt w' base ⟨t', x.g, sv'⟩ ∧ Blk w' s 80 #[lv, .int .i64 at_, .int .i64 p', .int .i64 d'] ∧ (sv'.ownBlock = x.sv.ownBlock ∨ ∀ q, sv'.ownBlock = some q → w.heap.size ≤ q) ∧ Frm w w' (fun q => q = s ∨ TxBlk x q)

set_option maxHeartbeats 4000000 in
theorem goes_done (e : Ev) {s base : Nat} {w : World} {lv : Value} {at_ : Int} {pub done : Nat} {x : TxM} (hB : Blk w s 80 #[lv, .int .i64 at_, .int .i64 pub, .int .i64 done]) (hT : TxAt w base x) (hd : done ≤ 4611686018427387904) (hp : pub ≤ 4611686018427387904) (hk : e.kind = 5) (h0 : ¬ x.t.stamp = 0) (h1 : e.stamp = x.t.stamp) (h2 : x.t.stamp = (done : Int) + 1) :
    Calls Tryz.prog 50 #[.pointer (some ⟨s, 0, none⟩), .pointer (some ⟨x.g, 0, none⟩), .agg (evcs e)] w (GPost w base s lv at_ x { x.t with ov := true } pub (done + 1)) := by
  have hsg : s ≠ x.g := hB.ne_ hT.blk (by decide)
  have hgs : x.g ≠ s := Ne.symm hsg
  have hB1 := hB.alloc (.cells (evcs e) 43)
  have hT1 := hT.alloc (.cells (evcs e) 43)
  have hF1 : Frm w (w.alloc (.cells (evcs e) 43)) (fun q => q = s ∨ TxBlk x q) := (Frm.refl w _).alloc _
  have v3 : (w.alloc (.cells (evcs e) 43)).cell? ⟨w.heap.size, 3, none⟩ = some (.int .i64 e.kind) := box_ev e w 3
  have v9 : (w.alloc (.cells (evcs e) 43)).cell? ⟨w.heap.size, 9, none⟩ = some (.int .i64 e.stamp) := box_ev e w 9
  obtain ⟨x0, x1, x2, x3, x4, x5, x6, x7⟩ : (w.alloc (.cells (evcs e) 43)).cell? ⟨x.g, 0, none⟩ = some (.int .i64 x.t.thread) ∧ (w.alloc (.cells (evcs e) 43)).cell? ⟨x.g, 1, none⟩ = some (.int .i64 x.t.begun) ∧ (w.alloc (.cells (evcs e) 43)).cell? ⟨x.g, 2, none⟩ = some (.int .i64 x.t.ended) ∧ (w.alloc (.cells (evcs e) 43)).cell? ⟨x.g, 3, none⟩ = some (.int .i64 x.t.stamp) ∧ (w.alloc (.cells (evcs e) 43)).cell? ⟨x.g, 4, none⟩ = some (.int .i64 x.t.seen) ∧ (w.alloc (.cells (evcs e) 43)).cell? ⟨x.g, 5, none⟩ = some (.int .i64 x.t.err) ∧ (w.alloc (.cells (evcs e) 43)).cell? ⟨x.g, 7, none⟩ = some (.bool x.t.ov) ∧ (w.alloc (.cells (evcs e) 43)).cell? ⟨x.g, 8, none⟩ = some x.sv :=
    ⟨(hT1.blk.cell 0).trans rfl, (hT1.blk.cell 1).trans rfl, (hT1.blk.cell 2).trans rfl, (hT1.blk.cell 3).trans rfl, (hT1.blk.cell 4).trans rfl, (hT1.blk.cell 5).trans rfl, (hT1.blk.cell 7).trans rfl, (hT1.blk.cell 8).trans rfl⟩
  have y2 : (w.alloc (.cells (evcs e) 43)).cell? ⟨s, 2, none⟩ = some (.int .i64 pub) := (hB1.cell 2).trans rfl
  have y3 : (w.alloc (.cells (evcs e) 43)).cell? ⟨s, 3, none⟩ = some (.int .i64 done) := (hB1.cell 3).trans rfl
  have fs : ∀ i, (w.alloc (.cells (evcs e) 43)).frozen? ⟨s, i, none⟩ = false := hB1.frozen
  have fg : ∀ i, (w.alloc (.cells (evcs e) 43)).frozen? ⟨x.g, i, none⟩ = false := hT1.blk.frozen
  have hqs : w.heap.size ≠ s := Ne.symm (Nat.ne_of_lt hB.lt)
  have hqg : w.heap.size ≠ x.g := Ne.symm (Nat.ne_of_lt hT.blk.lt)
  have hsq : s ≠ w.heap.size := Ne.symm hqs
  have hgq : x.g ≠ w.heap.size := Ne.symm hqg
  have hk5 : decide (e.kind = 5) = true := by simp [hk]
  have hs0 : decide (x.t.stamp = 0) = false := by simp [h0]
  rw [h1] at v9
  have hwr : IntKind.i64.wrap ((done : Int) + 1) = (done : Int) + 1 := wrap_small (by omega) (by omega)
  have hb2 : (x.t.stamp != IntKind.i64.wrap ((done : Int) + 1)) = false := by rw [hwr, h2]; simp
  have HB := Lib.hid hB1
  have HT := Lib.hid hT1
  have HF := Lib.hid hF1
  clear hB hT hB1 hT1 hF1
  go_enter Tryz.func50, Tryz.ntmps50
  go_wp2_with fail
  generalize w.alloc (.cells (evcs e) 43) = W1 at *
  go_quiet (fail)
  go_wp2
  all_goals (try (exfalso; rename (¬ (_ = false ∧ _ = false)) => hh; exact hh ⟨by simp [h0], hb2⟩))
  go_ret
  refine ⟨rfl, ?_⟩
  refine ⟨x.sv, ?_, ?_, .inl rfl, ?_⟩
  · exact ((HT.out.drewN _).far (HB.out.drewN _) _).set_ 7 _ _ rfl rfl
  · exact ((HB.out.drewN _).set_ 3 _).far hsg _
  · exact ((HF.out.drewN _).set _ _ _ (.inl (.inl rfl))).set _ _ _ (.inl (.inr (.inl rfl)))


set_option maxHeartbeats 4000000 in
theorem goes_publish (e : Ev) {s base : Nat} {w : World} {lv : Value} {at_ : Int} {pub done : Nat} {x : TxM} (hB : Blk w s 80 #[lv, .int .i64 at_, .int .i64 pub, .int .i64 done]) (hT : TxAt w base x) (hd : done ≤ 4611686018427387904) (hp : pub ≤ 4611686018427387904) (hk : e.kind = 4) (h0 : x.t.stamp = 0) (h2 : e.stamp = (pub : Int) + 1) :
    Calls Tryz.prog 50 #[.pointer (some ⟨s, 0, none⟩), .pointer (some ⟨x.g, 0, none⟩), .agg (evcs e)] w (GPost w base s lv at_ x { x.t with stamp := e.stamp, seen := e.stamp - 1, ended := e.at_ } (pub + 1) done) := by
  have hsg : s ≠ x.g := hB.ne_ hT.blk (by decide)
  have hgs : x.g ≠ s := Ne.symm hsg
  have hB1 := hB.alloc (.cells (evcs e) 43)
  have hT1 := hT.alloc (.cells (evcs e) 43)
  have hF1 : Frm w (w.alloc (.cells (evcs e) 43)) (fun q => q = s ∨ TxBlk x q) := (Frm.refl w _).alloc _
  have v0 : (w.alloc (.cells (evcs e) 43)).cell? ⟨w.heap.size, 0, none⟩ = some (.int .i64 e.at_) := box_ev e w 0
  have v3 : (w.alloc (.cells (evcs e) 43)).cell? ⟨w.heap.size, 3, none⟩ = some (.int .i64 e.kind) := box_ev e w 3
  have v9 : (w.alloc (.cells (evcs e) 43)).cell? ⟨w.heap.size, 9, none⟩ = some (.int .i64 e.stamp) := box_ev e w 9
  obtain ⟨x0, x1, x2, x3, x4, x5, x6, x7⟩ : (w.alloc (.cells (evcs e) 43)).cell? ⟨x.g, 0, none⟩ = some (.int .i64 x.t.thread) ∧ (w.alloc (.cells (evcs e) 43)).cell? ⟨x.g, 1, none⟩ = some (.int .i64 x.t.begun) ∧ (w.alloc (.cells (evcs e) 43)).cell? ⟨x.g, 2, none⟩ = some (.int .i64 x.t.ended) ∧ (w.alloc (.cells (evcs e) 43)).cell? ⟨x.g, 3, none⟩ = some (.int .i64 x.t.stamp) ∧ (w.alloc (.cells (evcs e) 43)).cell? ⟨x.g, 4, none⟩ = some (.int .i64 x.t.seen) ∧ (w.alloc (.cells (evcs e) 43)).cell? ⟨x.g, 5, none⟩ = some (.int .i64 x.t.err) ∧ (w.alloc (.cells (evcs e) 43)).cell? ⟨x.g, 7, none⟩ = some (.bool x.t.ov) ∧ (w.alloc (.cells (evcs e) 43)).cell? ⟨x.g, 8, none⟩ = some x.sv :=
    ⟨(hT1.blk.cell 0).trans rfl, (hT1.blk.cell 1).trans rfl, (hT1.blk.cell 2).trans rfl, (hT1.blk.cell 3).trans rfl, (hT1.blk.cell 4).trans rfl, (hT1.blk.cell 5).trans rfl, (hT1.blk.cell 7).trans rfl, (hT1.blk.cell 8).trans rfl⟩
  have y2 : (w.alloc (.cells (evcs e) 43)).cell? ⟨s, 2, none⟩ = some (.int .i64 pub) := (hB1.cell 2).trans rfl
  have y3 : (w.alloc (.cells (evcs e) 43)).cell? ⟨s, 3, none⟩ = some (.int .i64 done) := (hB1.cell 3).trans rfl
  have fs : ∀ i, (w.alloc (.cells (evcs e) 43)).frozen? ⟨s, i, none⟩ = false := hB1.frozen
  have fg : ∀ i, (w.alloc (.cells (evcs e) 43)).frozen? ⟨x.g, i, none⟩ = false := hT1.blk.frozen
  have hqs : w.heap.size ≠ s := Ne.symm (Nat.ne_of_lt hB.lt)
  have hqg : w.heap.size ≠ x.g := Ne.symm (Nat.ne_of_lt hT.blk.lt)
  have hsq : s ≠ w.heap.size := Ne.symm hqs
  have hgq : x.g ≠ w.heap.size := Ne.symm hqg
  rw [hk] at v3
  rw [h0] at x3
  rw [h2] at v9
  have hwr : IntKind.i64.wrap ((pub : Int) + 1) = (pub : Int) + 1 := wrap_small (by omega) (by omega)
  have hb2 : decide ((pub : Int) + 1 = IntKind.i64.wrap ((pub : Int) + 1)) = true := by rw [hwr]; simp
  have hsub : (pub : Int) + 1 - 1 = (pub : Int) := by omega
  have HB := Lib.hid hB1
  have HT := Lib.hid hT1
  have HF := Lib.hid hF1
  clear hB hT hB1 hT1 hF1
  go_enter Tryz.func50, Tryz.ntmps50
  go_wp2_with fail
  generalize w.alloc (.cells (evcs e) 43) = W1 at *
  go_wp2
  go_quiet (fail)
  go_wp2
  go_region
  go_wp2
  go_ret
  refine ⟨rfl, ?_⟩
  refine ⟨x.sv, ?_, ?_, .inl rfl, ?_⟩
  · refine TxAt.drew ?_; rw [h2, hsub]; exact ((((HT.out.drewN _).far (HB.out.drewN _) _).set_ 3 _ { x.t with stamp := (pub : Int) + 1 } rfl rfl).set_ 4 _ { x.t with stamp := (pub : Int) + 1, seen := pub } rfl rfl).set_ 2 _ _ rfl rfl
  · exact Blk.drew (((((HB.out.drewN _).set_ 2 _).far hsg _).far hsg _).far hsg _)
  · exact Frm.drew (((((HF.out.drewN _).set _ _ _ (.inl (.inl rfl))).set _ _ _ (.inl (.inr (.inl rfl)))).set _ _ _ (.inl (.inr (.inl rfl)))).set _ _ _ (.inl (.inr (.inl rfl))))


set_option maxHeartbeats 4000000 in
theorem goes_end (e : Ev) {s base : Nat} {w : World} {lv : Value} {at_ : Int} {pub done : Nat} {x : TxM} (hB : Blk w s 80 #[lv, .int .i64 at_, .int .i64 pub, .int .i64 done]) (hT : TxAt w base x) (hd : done ≤ 4611686018427387904) (hp : pub ≤ 4611686018427387904) (hk : e.kind = 6) (h0 : x.t.stamp = 0) :
    Calls Tryz.prog 50 #[.pointer (some ⟨s, 0, none⟩), .pointer (some ⟨x.g, 0, none⟩), .agg (evcs e)] w (GPost w base s lv at_ x { x.t with ov := true, ended := e.at_, err := e.err } pub done) := by
  have hsg : s ≠ x.g := hB.ne_ hT.blk (by decide)
  have hgs : x.g ≠ s := Ne.symm hsg
  have hB1 := hB.alloc (.cells (evcs e) 43)
  have hT1 := hT.alloc (.cells (evcs e) 43)
  have hF1 : Frm w (w.alloc (.cells (evcs e) 43)) (fun q => q = s ∨ TxBlk x q) := (Frm.refl w _).alloc _
  have v0 : (w.alloc (.cells (evcs e) 43)).cell? ⟨w.heap.size, 0, none⟩ = some (.int .i64 e.at_) := box_ev e w 0
  have v3 : (w.alloc (.cells (evcs e) 43)).cell? ⟨w.heap.size, 3, none⟩ = some (.int .i64 e.kind) := box_ev e w 3
  have v18 : (w.alloc (.cells (evcs e) 43)).cell? ⟨w.heap.size, 18, none⟩ = some (.int .i64 e.err) := box_ev e w 18
  obtain ⟨x0, x1, x2, x3, x4, x5, x6, x7⟩ : (w.alloc (.cells (evcs e) 43)).cell? ⟨x.g, 0, none⟩ = some (.int .i64 x.t.thread) ∧ (w.alloc (.cells (evcs e) 43)).cell? ⟨x.g, 1, none⟩ = some (.int .i64 x.t.begun) ∧ (w.alloc (.cells (evcs e) 43)).cell? ⟨x.g, 2, none⟩ = some (.int .i64 x.t.ended) ∧ (w.alloc (.cells (evcs e) 43)).cell? ⟨x.g, 3, none⟩ = some (.int .i64 x.t.stamp) ∧ (w.alloc (.cells (evcs e) 43)).cell? ⟨x.g, 4, none⟩ = some (.int .i64 x.t.seen) ∧ (w.alloc (.cells (evcs e) 43)).cell? ⟨x.g, 5, none⟩ = some (.int .i64 x.t.err) ∧ (w.alloc (.cells (evcs e) 43)).cell? ⟨x.g, 7, none⟩ = some (.bool x.t.ov) ∧ (w.alloc (.cells (evcs e) 43)).cell? ⟨x.g, 8, none⟩ = some x.sv :=
    ⟨(hT1.blk.cell 0).trans rfl, (hT1.blk.cell 1).trans rfl, (hT1.blk.cell 2).trans rfl, (hT1.blk.cell 3).trans rfl, (hT1.blk.cell 4).trans rfl, (hT1.blk.cell 5).trans rfl, (hT1.blk.cell 7).trans rfl, (hT1.blk.cell 8).trans rfl⟩
  have y2 : (w.alloc (.cells (evcs e) 43)).cell? ⟨s, 2, none⟩ = some (.int .i64 pub) := (hB1.cell 2).trans rfl
  have y3 : (w.alloc (.cells (evcs e) 43)).cell? ⟨s, 3, none⟩ = some (.int .i64 done) := (hB1.cell 3).trans rfl
  have fs : ∀ i, (w.alloc (.cells (evcs e) 43)).frozen? ⟨s, i, none⟩ = false := hB1.frozen
  have fg : ∀ i, (w.alloc (.cells (evcs e) 43)).frozen? ⟨x.g, i, none⟩ = false := hT1.blk.frozen
  have hqs : w.heap.size ≠ s := Ne.symm (Nat.ne_of_lt hB.lt)
  have hqg : w.heap.size ≠ x.g := Ne.symm (Nat.ne_of_lt hT.blk.lt)
  have hsq : s ≠ w.heap.size := Ne.symm hqs
  have hgq : x.g ≠ w.heap.size := Ne.symm hqg
  rw [hk] at v3
  rw [h0] at x3
  have HB := Lib.hid hB1
  have HT := Lib.hid hT1
  have HF := Lib.hid hF1
  clear hB hT hB1 hT1 hF1
  go_enter Tryz.func50, Tryz.ntmps50
  go_wp2_with fail
  generalize w.alloc (.cells (evcs e) 43) = W1 at *
  go_wp2
  go_region
  go_wp2
  go_ret
  refine ⟨rfl, ?_⟩
  refine ⟨x.sv, ?_, ?_, .inl rfl, ?_⟩
  · refine TxAt.drew ?_; exact ((HT.out.set_ 7 _ { x.t with ov := true } rfl rfl).set_ 2 _ { x.t with ov := true, ended := e.at_ } rfl rfl).set_ 5 _ _ rfl rfl
  · exact Blk.drew (((HB.out.far hsg _).far hsg _).far hsg _)
  · exact Frm.drew (((HF.out.set _ _ _ (.inl (.inr (.inl rfl)))).set _ _ _ (.inl (.inr (.inl rfl)))).set _ _ _ (.inl (.inr (.inl rfl))))

end Go.Proofs.YtffjcojehiblnaaGreatDoor
