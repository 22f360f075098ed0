/- Timely and Legal at two transactions, from what ordered answers. -/
import Derived.Test.YtffjcojehiblnaaDoorHk4
import Derived.Test.YtffjcojehiblnaaDoorHk5
namespace Go.Proofs.YtffjcojehiblnaaDoor
open Go.RowKit Go.Joins Go.ChangeShapes Go.WideShapes Go.Deep
set_option linter.unusedVariables false
set_option linter.unusedSimpArgs false
set_option maxRecDepth 100000

/-- What history.ordered answers where the order is one: the book. -/
def OrdPost (w : World) (b : Book) : Ending → World → Prop := fun r w' => ∃ lv s ll, r = .returned (.tuple #[lv, .int .i64 0]) ∧ BookAt w' w.heap.size s lv b ll ∧ Below w.heap.size w w'
set_option maxHeartbeats 1000000 in
theorem timely_two (ov : Value) (A : Option Addr) (n nc og oc : Nat) (b : Book) (t0 t1 : TxP) (w : World) (ho : Blk w og 3 #[.int .i64 0, .int .i64 1]) (hov : ov = .slice (some ⟨og, 0, none⟩) 2 oc) (hord : Calls Tryd.prog 22 #[.slice A n nc, ov] w (OrdPost w b)) (hb : b.l = [t0, t1]) (e0 : t0.ended = 3) (e1 : t1.ended = -1) (b0 : t0.begun = 0) (b1 : t1.begun = 4) :
    Calls Tryd.prog 10 #[.slice A n nc, ov] w fun r w' => r = .returned (.tuple #[.bool true, .int .i64 0]) ∧ Below w.heap.size w w' := by
  subst hov
  have HORD := Lib.hid hord
  have HO := Lib.hid ho
  clear hord ho
  go_enter Tryd.func10, Tryd.ntmps10
  go_upto_region 4 with (go_at_call 22; refine HORD.out.mono ?_; rintro r w1 ⟨lv, s, ll, hq, hBk, hb1⟩; subst hq)
  have hll : ll.length = 2 := by rw [← hBk.len, hb]; rfl
  obtain ⟨rb, cc, hlv, _, hrb⟩ := hBk.row.form (by omega)
  rw [hll] at hlv
  subst hlv
  obtain ⟨x, y, hxy⟩ : ∃ x y, ll = [x, y] := by
    match ll, hll with
    | [x, y], _ => exact ⟨x, y, rfl⟩
  subst hxy
  have hxt : x.t = t0 := by have := hBk.eq; rw [hb] at this; injection this
  have hyt : y.t = t1 := by have := hBk.eq; rw [hb] at this; injection this with _ h2; injection h2
  have hX := hBk.txs x (by simp)
  have hY := hBk.txs y (by simp)
  have p0 : w1.cell? ⟨rb, 0, none⟩ = some (.pointer (some ⟨x.g, 0, none⟩)) := by have := hBk.row.cells (g := rb) rfl 0 _ rfl; rwa [Addr.add_zero'] at this
  have p1 : w1.cell? ⟨rb, 1, none⟩ = some (.pointer (some ⟨y.g, 0, none⟩)) := by have := hBk.row.cells (g := rb) rfl 1 _ rfl; rwa [Addr.add_mid] at this
  have o0 : w1.cell? ⟨og, 0, none⟩ = some (.int .i64 0) := (hb1.cell (p := ⟨og, 0, none⟩) HO.out.lt).trans (HO.out.cell 0)
  have o1 : w1.cell? ⟨og, 1, none⟩ = some (.int .i64 1) := (hb1.cell (p := ⟨og, 1, none⟩) HO.out.lt).trans (HO.out.cell 1)
  have x1 : w1.cell? ⟨x.g, 1, none⟩ = some (.int .i64 0) := by have := (hX.blk.cell 1).trans (show x.cells[1]? = some (.int .i64 x.t.begun) from rfl); rw [hxt, b0] at this; exact this
  have x2 : w1.cell? ⟨x.g, 2, none⟩ = some (.int .i64 3) := by have := (hX.blk.cell 2).trans (show x.cells[2]? = some (.int .i64 x.t.ended) from rfl); rw [hxt, e0] at this; exact this
  have y1 : w1.cell? ⟨y.g, 1, none⟩ = some (.int .i64 4) := by have := (hY.blk.cell 1).trans (show y.cells[1]? = some (.int .i64 y.t.begun) from rfl); rw [hyt, b1] at this; exact this
  have y2 : w1.cell? ⟨y.g, 2, none⟩ = some (.int .i64 (-1)) := by have := (hY.blk.cell 2).trans (show y.cells[2]? = some (.int .i64 y.t.ended) from rfl); rw [hyt, e1] at this; exact this
  have HB := Lib.hid hb1
  clear hBk hX hY hb1 hxt hyt hb e0 e1 b0 b1 hll HORD HO hrb
  go_wp2_with fail
  refine wp_loop_rounds 3 ?_
  rw [rounds_succ]
  go_wp2_with fail
  rw [rounds_succ]
  go_wp2_with fail
  rw [rounds_succ]
  go_wp2_with fail
  go_ret2
  exact ⟨rfl, HB.out⟩
set_option maxHeartbeats 1000000 in
theorem legal_two (ov : Value) (A : Option Addr) (n nc og oc : Nat) (b : Book) (t0 t1 : TxP) (e1 : Ev) (w : World) (ho : Blk w og 3 #[.int .i64 1, .int .i64 0]) (hov : ov = .slice (some ⟨og, 0, none⟩) 2 oc) (hord : Calls Tryd.prog 22 #[.slice A n nc, ov] w (OrdPost w b)) (hb : b.l = [t0, t1]) (g1 : t1.steps = [e1]) (k1 : e1.kind = 2) (v1 : e1.value ≠ 0) :
    Calls Tryd.prog 11 #[.slice A n nc, ov] w fun r w' => r = .returned (.tuple #[.bool false, .int .i64 0]) ∧ Below w.heap.size w w' := by
  subst hov
  have HORD := Lib.hid hord
  have HO := Lib.hid ho
  clear hord ho
  go_enter Tryd.func11, Tryd.ntmps11
  go_upto_region 4 with (go_at_call 22; refine HORD.out.mono ?_; rintro r w1 ⟨lv, s, ll, hq, hBk, hb1⟩; subst hq)
  have hll : ll.length = 2 := by rw [← hBk.len, hb]; rfl
  obtain ⟨rb, cc, hlv, _, hrb⟩ := hBk.row.form (by omega)
  rw [hll] at hlv
  subst hlv
  obtain ⟨x, y, hxy⟩ : ∃ x y, ll = [x, y] := by
    match ll, hll with
    | [x, y], _ => exact ⟨x, y, rfl⟩
  subst hxy
  have hyt : y.t = t1 := by have := hBk.eq; rw [hb] at this; injection this with _ h2; injection h2
  have hY := hBk.txs y (by simp)
  obtain ⟨W2, hW2⟩ : ∃ W2, W2 = w1.alloc (.map #[] 0) := ⟨_, rfl⟩
  have p1 : w1.cell? ⟨rb, 1, none⟩ = some (.pointer (some ⟨y.g, 0, none⟩)) := by have := hBk.row.cells (g := rb) rfl 1 _ rfl; rwa [Addr.add_mid] at this
  have o0 : w1.cell? ⟨og, 0, none⟩ = some (.int .i64 1) := (hb1.cell (p := ⟨og, 0, none⟩) HO.out.lt).trans (HO.out.cell 0)
  have q1 : W2.cell? ⟨rb, 1, none⟩ = some (.pointer (some ⟨y.g, 0, none⟩)) := by rw [hW2]; exact (World.cell?_alloc_lt _ _ ⟨rb, 1, none⟩ (World.block_lt_of_cell? _ _ p1)).trans p1
  have u0 : W2.cell? ⟨og, 0, none⟩ = some (.int .i64 1) := by rw [hW2]; exact (World.cell?_alloc_lt _ _ ⟨og, 0, none⟩ (World.block_lt_of_cell? _ _ o0)).trans o0
  have HRUN : Hid (Calls Tryd.prog 23 #[.pointer (some ⟨y.g, 0, none⟩), .map (some w1.heap.size)] W2 fun r w' => r = .returned (.bool false) ∧ Below W2.heap.size W2 w') := Lib.hid (run_false (k := 0) (by rw [hW2]; exact hY.alloc _) (by rw [hW2]; exact heap_alloc_new w1 _) (by rw [hyt, g1]) k1 v1)
  have HB : Hid (Below w.heap.size w W2) := Lib.hid (by rw [hW2]; exact Below.alloc hb1 hb1.size _)
  have hmm := @run_makeMap Tryd.prog
  clear hBk hY hb1 hyt hb g1 k1 v1 hll HORD HO hrb p1 o0
  go_upto_region 5 with fail
  rw [← hW2]
  clear hmm hW2
  go_wp2_with fail
  refine wp_loop_rounds 1 ?_
  rw [rounds_succ]
  go_wp2_with (go_at_call 23; refine HRUN.out.mono ?_; rintro r w3 ⟨hq, hb3⟩; subst hq)
  go_ret2
  exact ⟨rfl, HB.out.trans (hb3.mono HB.out.size)⟩
end Go.Proofs.YtffjcojehiblnaaDoor
