/- A transaction run over an empty map of cells: its read tells something else. -/
import Derived.Test.YtffjcojehiblnaaGreatDoorPl
namespace Go.Proofs.YtffjcojehiblnaaGreatDoor
open Go.RowKit Go.Joins Go.ChangeShapes Go.WideShapes Go.Deep
set_option linter.unusedVariables false
set_option linter.unusedSimpArgs false
set_option maxRecDepth 100000

/-- A look into an empty map. -/
theorem run_lookup_empty (w : World) (m k : Nat) (q : Int) (ok : Bool) (hm : w.heap[m]? = some (.map #[] k)) : (Instr.lookup 76 (.map (some m)) (.int .i64 q) ok).run Tryz.prog w = .ok (if ok then .tuple #[.int .i64 0, .bool false] else .int .i64 0) w := by
  have hz : (zeroValue 2).run Tryz.prog w = .ok (.int .i64 0) w := by kernel_rfl
  have hc : (Instr.checkKey true 10000 3 (.int .i64 q)).run Tryz.prog w = .ok () w := by kernel_rfl
  have hf : (Instr.findKey 3 (.int .i64 q) []).run Tryz.prog w = .ok none w := by kernel_rfl
  have hg : (getObj m).run Tryz.prog w = .ok (.map #[] k) w := Go.run_getObj_map (P := Tryz.prog) (hb := hm)
  simp [Instr.lookup, run_underlying Tryz.underlying76, hg, hc, hf, hz]
theorem wpList_lookup_at {P : Program} {ops : Array Oper} {rest : List Oper} {o : Oper} {a : Act} {Q : Exit → Act → World → Prop} {w w' : World} {v : Value} {ok : Bool} (hgd : o.guard = none) (t : TypeId) (x y : Operand)
    (ho : o.op = .lookup t x y ok) {u z : Value} (hx : a.eval x = u) (hy : a.eval y = z) (hrun : (Instr.lookup t u z ok).run P w = .ok v w')
    (h : wpList P ops Q rest (a.put o.dst v) w') : wpList P ops Q (o :: rest) a w := by
  refine wpList_plain hgd fun K hK => ?_
  unfold Oper.wp
  simp only [execOp, ho, hx, hy, Sem.run_bind, hrun, Sem.run_pure, Result.andThen_ok]
  exact hK _ _ h
set_option maxHeartbeats 400000 in
theorem run_false {w : World} {base m k : Nat} {x : TxM} {e : Ev} (hx : TxAt w base x) (hm : w.heap[m]? = some (.map #[] k)) (hst : x.t.steps = [e]) (h3 : e.kind = 2) (hv : e.value ≠ 0) :
    Calls Tryz.prog 28 #[.pointer (some ⟨x.g, 0, none⟩), .map (some m)] w fun r w' => r = .returned (.bool false) ∧ Below w.heap.size w w' := by
  obtain ⟨sx, cx, hsx, _, hsxl⟩ := hx.steps.form (by rw [hst]; exact Nat.zero_lt_one)
  have hrg : w.rangeAt sx 0 (evcs e).toList := fun j v hv => by
    have := hx.steps.cells (g := sx) (by rw [hsx]; rfl) j v (by rw [hst]; exact hv)
    rwa [Addr.add_mid] at this
  have x8 : w.cell? ⟨x.g, 8, none⟩ = some (.slice (some ⟨sx, 0, none⟩) 1 cx) := by have := (hx.blk.cell 8).trans (show x.cells[8]? = some x.sv from rfl); rw [hsx, hst] at this; exact this
  have hml : m < w.heap.size := by
    rcases Nat.lt_or_ge m w.heap.size with h | h
    · exact h
    · rw [Array.getElem?_eq_none h] at hm; cases hm
  obtain ⟨W1, hW1⟩ : ∃ W1, W1 = w.alloc (.map #[] 0) := ⟨_, rfl⟩
  have hs1 : W1.heap.size = w.heap.size + 1 := by rw [hW1]; simp
  have m1 : W1.heap[w.heap.size]? = some (.map #[] 0) := by rw [hW1]; exact heap_alloc_new w _
  have m2 : W1.heap[m]? = some (.map #[] k) := by rw [hW1]; exact (Below.heap_alloc w _ m hml).trans hm
  have r1 : W1.rangeAt sx 0 (evcs e).toList := by rw [hW1]; exact World.rangeAt_alloc hrg _
  have y8 : W1.cell? ⟨x.g, 8, none⟩ = some (.slice (some ⟨sx, 0, none⟩) 1 cx) := by rw [hW1]; exact (World.cell?_alloc_lt _ _ ⟨x.g, 8, none⟩ (World.block_lt_of_cell? _ _ x8)).trans x8
  have v3 : (W1.alloc (.cells (evcs e) 43)).cell? ⟨W1.heap.size, 3, none⟩ = some (.int .i64 2) := by have := ev_at (ev_range W1 e) 3 _ rfl; rw [h3] at this; exact this
  have v4 : (W1.alloc (.cells (evcs e) 43)).cell? ⟨W1.heap.size, 4, none⟩ = some (.int .i64 e.cell) := ev_at (ev_range W1 e) 4 _ rfl
  have v5 : (W1.alloc (.cells (evcs e) 43)).cell? ⟨W1.heap.size, 5, none⟩ = some (.int .i64 e.value) := ev_at (ev_range W1 e) 5 _ rfl
  have n1 : (W1.alloc (.cells (evcs e) 43)).heap[w.heap.size]? = some (.map #[] 0) := (Below.heap_alloc W1 _ w.heap.size (by omega)).trans m1
  have n2 : (W1.alloc (.cells (evcs e) 43)).heap[m]? = some (.map #[] k) := (Below.heap_alloc W1 _ m (by omega)).trans m2
  have HR := Lib.hid r1
  have HN1 := Lib.hid (run_lookup_empty _ w.heap.size 0 e.cell true n1)
  have HN2 := Lib.hid (run_lookup_empty _ m k e.cell false n2)
  have HB : Hid (Below w.heap.size w (W1.alloc (.cells (evcs e) 43))) := Lib.hid (by rw [hW1]; exact Below.alloc (Below.alloc (Below.refl _ _) (Nat.le_refl _) _) (by simp) _)
  have hmm := @run_makeMap Tryz.prog
  have d1 : (e.value != 0) = true := by simp [hv]
  clear hx hm hst h3 hsx hsxl hrg x8 m1 m2 r1 n1 n2 hv
  go_enter Tryz.func28, Tryz.ntmps28
  go_upto_region 2 with fail
  rw [← hW1]
  clear hmm hW1
  go_wp2_with fail
  refine wp_loop_rounds 1 ?_
  rw [rounds_succ]
  go_upto_region 5 with (first
    | (refine wpList_load_mid rfl 43 (.tmp 20) rfl sx 0 rfl (evcs e).toList _ HR.out Tryz.underlying43 rfl (by kernel_rfl) ?_)
    | (refine wpList_alloc_ev rfl rfl ?_)
    | (refine wpList_store_ev e rfl (.tmp 7) (.tmp 21) rfl rfl rfl ?_))
  simp only [Act.put, List.setIfInBounds_toArray, List.set_cons_zero, List.set_cons_succ]
  generalize W1.alloc (.cells (evcs e) 43) = W2 at *
  generalize W1.heap.size = q at *
  clear HR y8 hs1
  go_wp2_with (first
    | (refine wpList_lookup_at (u := .map (some w.heap.size)) (z := .int .i64 e.cell) (v := .tuple #[.int .i64 0, .bool false]) (w' := W2) rfl 76 (.tmp 31) (.tmp 33) rfl rfl rfl HN1.out ?_)
    | (refine wpList_lookup_at (u := .map (some m)) (z := .int .i64 e.cell) (v := .int .i64 0) (w' := W2) rfl 76 (.tmp 39) (.tmp 41) rfl rfl rfl HN2.out ?_))
  go_ret
  exact ⟨rfl, HB.out⟩
end Go.Proofs.YtffjcojehiblnaaGreatDoor

/- Timely and Legal at two transactions, from what ordered answers. -/
namespace Go.Proofs.YtffjcojehiblnaaGreatDoor
open Go.RowKit Go.Joins Go.ChangeShapes Go.WideShapes Go.Deep
set_option linter.unusedVariables false
set_option linter.unusedSimpArgs false
set_option maxRecDepth 100000

/-- What history.ordered answers where the order is one: the book. -/
def OrdPost (w : World) (b : Book) : Ending → World → Prop := fun r w' => ∃ lv s ll, r = .returned (.tuple #[lv, .int .i64 0]) ∧ BookAt w' w.heap.size s lv b ll ∧ Below w.heap.size w w'
set_option maxHeartbeats 1000000 in
theorem timely_two (ov : Value) (A : Option Addr) (n nc og oc : Nat) (b : Book) (t0 t1 : TxP) (w : World) (ho : Blk w og 3 #[.int .i64 0, .int .i64 1]) (hov : ov = .slice (some ⟨og, 0, none⟩) 2 oc) (hord : Calls Tryz.prog 27 #[.slice A n nc, ov] w (OrdPost w b)) (hb : b.l = [t0, t1]) (e0 : t0.ended = 3) (e1 : t1.ended = -1) (b0 : t0.begun = 0) (b1 : t1.begun = 4) :
    Calls Tryz.prog 13 #[.slice A n nc, ov] w fun r w' => r = .returned (.tuple #[.bool true, .int .i64 0]) ∧ Below w.heap.size w w' := by
  subst hov
  have HORD := Lib.hid hord
  have HO := Lib.hid ho
  clear hord ho
  go_enter Tryz.func13, Tryz.ntmps13
  go_upto_region 4 with (go_at_call 27; refine HORD.out.mono ?_; rintro r w1 ⟨lv, s, ll, hq, hBk, hb1⟩; subst hq)
  have hll : ll.length = 2 := by rw [← hBk.len, hb]; rfl
  obtain ⟨rb, cc, hlv, _, hrb⟩ := hBk.row.form (by omega)
  rw [hll] at hlv
  subst hlv
  obtain ⟨x, y, hxy⟩ : ∃ x y, ll = [x, y] := by
    match ll, hll with
    | [x, y], _ => exact ⟨x, y, rfl⟩
  subst hxy
  have hxt : x.t = t0 := by have := hBk.eq; rw [hb] at this; injection this
  have hyt : y.t = t1 := by have := hBk.eq; rw [hb] at this; injection this with _ h2; injection h2
  have hX := hBk.txs x (by simp)
  have hY := hBk.txs y (by simp)
  have p0 : w1.cell? ⟨rb, 0, none⟩ = some (.pointer (some ⟨x.g, 0, none⟩)) := by have := hBk.row.cells (g := rb) rfl 0 _ rfl; rwa [Addr.add_zero'] at this
  have p1 : w1.cell? ⟨rb, 1, none⟩ = some (.pointer (some ⟨y.g, 0, none⟩)) := by have := hBk.row.cells (g := rb) rfl 1 _ rfl; rwa [Addr.add_mid] at this
  have o0 : w1.cell? ⟨og, 0, none⟩ = some (.int .i64 0) := (hb1.cell (p := ⟨og, 0, none⟩) HO.out.lt).trans (HO.out.cell 0)
  have o1 : w1.cell? ⟨og, 1, none⟩ = some (.int .i64 1) := (hb1.cell (p := ⟨og, 1, none⟩) HO.out.lt).trans (HO.out.cell 1)
  have x1 : w1.cell? ⟨x.g, 1, none⟩ = some (.int .i64 0) := by have := (hX.blk.cell 1).trans (show x.cells[1]? = some (.int .i64 x.t.begun) from rfl); rw [hxt, b0] at this; exact this
  have x2 : w1.cell? ⟨x.g, 2, none⟩ = some (.int .i64 3) := by have := (hX.blk.cell 2).trans (show x.cells[2]? = some (.int .i64 x.t.ended) from rfl); rw [hxt, e0] at this; exact this
  have y1 : w1.cell? ⟨y.g, 1, none⟩ = some (.int .i64 4) := by have := (hY.blk.cell 1).trans (show y.cells[1]? = some (.int .i64 y.t.begun) from rfl); rw [hyt, b1] at this; exact this
  have y2 : w1.cell? ⟨y.g, 2, none⟩ = some (.int .i64 (-1)) := by have := (hY.blk.cell 2).trans (show y.cells[2]? = some (.int .i64 y.t.ended) from rfl); rw [hyt, e1] at this; exact this
  have HB := Lib.hid hb1
  clear hBk hX hY hb1 hxt hyt hb e0 e1 b0 b1 hll HORD HO hrb
  go_wp2_with fail
  refine wp_loop_rounds 3 ?_
  rw [rounds_succ]
  go_wp2_with fail
  rw [rounds_succ]
  go_wp2_with fail
  rw [rounds_succ]
  go_wp2_with fail
  go_ret2
  exact ⟨rfl, HB.out⟩
set_option maxHeartbeats 1000000 in
theorem legal_two (ov : Value) (A : Option Addr) (n nc og oc : Nat) (b : Book) (t0 t1 : TxP) (e1 : Ev) (w : World) (ho : Blk w og 3 #[.int .i64 1, .int .i64 0]) (hov : ov = .slice (some ⟨og, 0, none⟩) 2 oc) (hord : Calls Tryz.prog 27 #[.slice A n nc, ov] w (OrdPost w b)) (hb : b.l = [t0, t1]) (g1 : t1.steps = [e1]) (k1 : e1.kind = 2) (v1 : e1.value ≠ 0) :
    Calls Tryz.prog 14 #[.slice A n nc, ov] w fun r w' => r = .returned (.tuple #[.bool false, .int .i64 0]) ∧ Below w.heap.size w w' := by
  subst hov
  have HORD := Lib.hid hord
  have HO := Lib.hid ho
  clear hord ho
  go_enter Tryz.func14, Tryz.ntmps14
  go_upto_region 4 with (go_at_call 27; refine HORD.out.mono ?_; rintro r w1 ⟨lv, s, ll, hq, hBk, hb1⟩; subst hq)
  have hll : ll.length = 2 := by rw [← hBk.len, hb]; rfl
  obtain ⟨rb, cc, hlv, _, hrb⟩ := hBk.row.form (by omega)
  rw [hll] at hlv
  subst hlv
  obtain ⟨x, y, hxy⟩ : ∃ x y, ll = [x, y] := by
    match ll, hll with
    | [x, y], _ => exact ⟨x, y, rfl⟩
  subst hxy
  have hyt : y.t = t1 := by have := hBk.eq; rw [hb] at this; injection this with _ h2; injection h2
  have hY := hBk.txs y (by simp)
  obtain ⟨W2, hW2⟩ : ∃ W2, W2 = w1.alloc (.map #[] 0) := ⟨_, rfl⟩
  have p1 : w1.cell? ⟨rb, 1, none⟩ = some (.pointer (some ⟨y.g, 0, none⟩)) := by have := hBk.row.cells (g := rb) rfl 1 _ rfl; rwa [Addr.add_mid] at this
  have o0 : w1.cell? ⟨og, 0, none⟩ = some (.int .i64 1) := (hb1.cell (p := ⟨og, 0, none⟩) HO.out.lt).trans (HO.out.cell 0)
  have q1 : W2.cell? ⟨rb, 1, none⟩ = some (.pointer (some ⟨y.g, 0, none⟩)) := by rw [hW2]; exact (World.cell?_alloc_lt _ _ ⟨rb, 1, none⟩ (World.block_lt_of_cell? _ _ p1)).trans p1
  have u0 : W2.cell? ⟨og, 0, none⟩ = some (.int .i64 1) := by rw [hW2]; exact (World.cell?_alloc_lt _ _ ⟨og, 0, none⟩ (World.block_lt_of_cell? _ _ o0)).trans o0
  have HRUN : Hid (Calls Tryz.prog 28 #[.pointer (some ⟨y.g, 0, none⟩), .map (some w1.heap.size)] W2 fun r w' => r = .returned (.bool false) ∧ Below W2.heap.size W2 w') := Lib.hid (run_false (k := 0) (by rw [hW2]; exact hY.alloc _) (by rw [hW2]; exact heap_alloc_new w1 _) (by rw [hyt, g1]) k1 v1)
  have HB : Hid (Below w.heap.size w W2) := Lib.hid (by rw [hW2]; exact Below.alloc hb1 hb1.size _)
  have hmm := @run_makeMap Tryz.prog
  clear hBk hY hb1 hyt hb g1 k1 v1 hll HORD HO hrb p1 o0
  go_upto_region 5 with fail
  rw [← hW2]
  clear hmm hW2
  go_wp2_with fail
  refine wp_loop_rounds 1 ?_
  rw [rounds_succ]
  go_wp2_with (go_at_call 28; refine HRUN.out.mono ?_; rintro r w3 ⟨hq, hb3⟩; subst hq)
  go_ret2
  exact ⟨rfl, HB.out.trans (hb3.mono HB.out.size)⟩
end Go.Proofs.YtffjcojehiblnaaGreatDoor

/- ordered at two transactions, from what slices.Sorted answers. -/
namespace Go.Proofs.YtffjcojehiblnaaGreatDoor
open Go.RowKit Go.Joins Go.ChangeShapes Go.WideShapes Go.Deep
set_option linter.unusedVariables false
set_option linter.unusedSimpArgs false
set_option maxRecDepth 100000

/-- What slices.Sorted answers over slices.Values of a list of 0 and 1. -/
def SortOK (og oc : Nat) (w : World) : Prop := ∀ W, Below w.heap.size w W → Calls Tryz.prog 47 #[.func (.func 68) #[] #[.pointer (some ⟨W.heap.size, 0, none⟩)]] (W.alloc (.cells #[.slice (some ⟨og, 0, none⟩) 2 oc] 24)) fun r w' =>
  ∃ g c, r = .returned (.slice (some ⟨g, 0, none⟩) 2 c) ∧ w'.cell? ⟨g, 0, none⟩ = some (.int .i64 0) ∧ w'.cell? ⟨g, 1, none⟩ = some (.int .i64 1) ∧ Below W.heap.size W w'
theorem values_any (og oc : Nat) (W : World) : Calls Tryz.prog 48 #[.slice (some ⟨og, 0, none⟩) 2 oc] W fun r w' => r = .returned (.func (.func 68) #[] #[.pointer (some ⟨W.heap.size, 0, none⟩)]) ∧ w' = W.alloc (.cells #[.slice (some ⟨og, 0, none⟩) 2 oc] 24) := by
  go_enter Tryz.func48, Tryz.ntmps48
  go_wp2
  go_ret
  exact ⟨rfl, rfl⟩
set_option maxHeartbeats 1000000 in
theorem ordered_two (A : Option Addr) (n nc og oc : Nat) (l : List Ev) (p : Addr) (b : Book) (t0 t1 : TxP) (w : World) (hl : l.length = n) (hn : n * 152 ≤ 140737488351232) (hR : Reads w w.heap.size 19 A n (evs l)) (hE : LaidAt w p) (hrd : readF book0 0 l = .ok b) (hb : b.l = [t0, t1]) (hso : SortOK og oc w) :
    Calls Tryz.prog 27 #[.slice A n nc, .slice (some ⟨og, 0, none⟩) 2 oc] w (OrdPost w b) := by
  have HRD := Lib.hid ((read_any A n nc l p w hl hn hR hE.ev (by have := hE.lt; omega)))
  have HSO := Lib.hid hso
  clear hl hn hR hE hso
  go_enter Tryz.func27, Tryz.ntmps27
  go_upto_region 4 with (go_at_call 15; refine HRD.out.mono ?_; rintro r w1 hq; unfold ReadPost at hq; rw [hrd] at hq; obtain ⟨lv, s, ll, hq, hBk, hb1⟩ := hq; subst hq)
  have hll : ll.length = 2 := by rw [← hBk.len, hb]; rfl
  obtain ⟨rb, cc, hlv, _, hrb⟩ := hBk.row.form (by omega)
  rw [hll] at hlv
  subst hlv
  have HS := Lib.hid (HSO.out w1 hb1)
  have HB := Lib.hid hb1
  have HK := Lib.hid hBk
  clear hBk hb1 hb hrd HRD HSO hll hrb
  go_wp2_with (first
    | (go_at_call 48; refine (values_any og oc _).mono ?_; rintro r w2 ⟨hq, hw⟩; subst hq; subst hw)
    | (go_at_call 47; refine HS.out.mono ?_; rintro r w2 ⟨g, c, hq, s0, s1, hb2⟩; subst hq))
  refine wp_loop_rounds 3 ?_
  rw [rounds_succ]
  go_wp2_with fail
  rw [rounds_succ]
  go_wp2_with fail
  rw [rounds_succ]
  go_wp2_with fail
  go_ret2
  exact ⟨_, s, ll, rfl, HK.out.below hb2 (Nat.le_refl _), HB.out.trans (hb2.mono HB.out.size)⟩
end Go.Proofs.YtffjcojehiblnaaGreatDoor
