/- Final at two transactions: the sort by stamps. -/
import Derived.Test.YtffjcojehiblnaaGreatDoorPk
namespace Go.Proofs.YtffjcojehiblnaaGreatDoor
open Go.RowKit Go.Joins Go.ChangeShapes Go.WideShapes Go.Deep
set_option linter.unusedVariables false
set_option linter.unusedSimpArgs false
set_option maxRecDepth 100000

set_option maxHeartbeats 400000 in
theorem fcmp_any {w : World} {base : Nat} {x y : TxM} (hx : TxAt w base x) (hy : TxAt w base y) : Calls Tryz.prog 22 #[.pointer (some ⟨x.g, 0, none⟩), .pointer (some ⟨y.g, 0, none⟩)] w fun r w' => r = .returned (.int .i64 (cmp3 x.t.stamp y.t.stamp)) ∧ ∃ k, w' = w.drewN k := by
  have c3 : w.cell? ⟨x.g, 3, none⟩ = some (.int .i64 x.t.stamp) := (hx.blk.cell 3).trans rfl
  have d3 : w.cell? ⟨y.g, 3, none⟩ = some (.int .i64 y.t.stamp) := (hy.blk.cell 3).trans rfl
  clear hx hy
  go_enter Tryz.func22, Tryz.ntmps22
  go_wp2_with fail
  go_quiet (exact Calls.quiet_of_same (cmp64_any _ _ _))
  go_wp2
  go_ret
  exact ⟨rfl, _, rfl⟩
/-- Two pointers that lie wrong change places. -/
structure PtrS (rb ro gx gy : Nat) (w : World) : Prop where
  x : w.cell? ⟨rb, ro, none⟩ = some (.pointer (some ⟨gx, 0, none⟩))
  y : w.cell? ⟨rb, ro + 1, none⟩ = some (.pointer (some ⟨gy, 0, none⟩))
theorem PtrS.below {rb ro gx gy : Nat} {w w' : World} (h : PtrS rb ro gx gy w) (hb : Below w.heap.size w w') : PtrS rb ro gx gy w' :=
  ⟨(hb.cell (World.block_lt_of_cell? w _ h.x)).trans h.x, (hb.cell (World.block_lt_of_cell? w _ h.y)).trans h.y⟩
set_option maxHeartbeats 1000000 in
theorem pins_two {w : World} {base rb ro cc : Nat} {x y : TxM} (hS : PtrS rb ro x.g y.g w) (hf : ∀ i, w.frozen? ⟨rb, i, none⟩ = false) (hx : TxAt w base x) (hy : TxAt w base y) (hp : y.t.stamp < x.t.stamp) :
    Calls Tryz.prog 54 #[.slice (some ⟨rb, ro, none⟩) 2 cc, .int .i64 0, .int .i64 2, .func (.func 22) #[] #[]] w fun r w' => r = .returned (.tuple #[]) ∧ ∃ k j, w' = (((w.drewN k).setCell ⟨rb, ro + 1, none⟩ (.pointer (some ⟨x.g, 0, none⟩))).setCell ⟨rb, ro, none⟩ (.pointer (some ⟨y.g, 0, none⟩))).drewN j := by
  have HC := Lib.hid (fcmp_any (w := w.drew) hy.drew hx.drew)
  have HS0 := Lib.hid hS
  have hc : cmp3 y.t.stamp x.t.stamp = -1 := by unfold cmp3; rw [if_pos hp]
  rw [hc] at HC
  clear hx hy hS hc hp
  have h1 : ∀ W, PtrS rb ro x.g y.g W → W.cell? ⟨rb, ro, none⟩ = some (.pointer (some ⟨x.g, 0, none⟩)) := fun W h => h.x
  have h2 : ∀ W, PtrS rb ro x.g y.g W → W.cell? ⟨rb, ro + 1, none⟩ = some (.pointer (some ⟨y.g, 0, none⟩)) := fun W h => h.y
  go_enter Tryz.func54, Tryz.ntmps54
  go_wp2_with fail
  refine wp_loop_rounds 2 ?_
  rw [rounds_succ]
  go_wp2_with fail
  refine wp_loop_rounds 2 ?_
  rw [rounds_succ]
  go_wp2_with fail
  go_region_held (PtrS rb ro x.g y.g) (first | exact ⟨HS0.out.x, HS0.out.y⟩) ((go_at_call 22; refine HC.out.mono ?_; rintro r w1 ⟨hr, k1, hw1⟩; subst hr; subst hw1))
  go_wp2_with fail
  refine wp_world fun W2 hW2 => ?_
  have q0 : W2.cell? ⟨rb, ro, none⟩ = some (.pointer (some ⟨x.g, 0, none⟩)) := by rw [hW2]; exact HS0.out.x
  have q1 : W2.cell? ⟨rb, ro + 1, none⟩ = some (.pointer (some ⟨y.g, 0, none⟩)) := by rw [hW2]; exact HS0.out.y
  have qf : ∀ i, W2.frozen? ⟨rb, i, none⟩ = false := fun i => by rw [hW2]; exact hf i
  have HW := Lib.hid hW2
  clear hW2 HC HS0 h1 h2 hf
  go_region
  go_wp2_with fail
  rw [rounds_succ]
  go_wp2_with fail
  go_quiet (fail)
  go_wp2_with fail
  rw [rounds_succ]
  go_wp2_with fail
  go_end0
  have e := HW.out
  subst e
  exact ⟨rfl, _, 1 + nq, by rw [← World.drewN_drewN]⟩
theorem sort_two {w : World} {base rb ro cc : Nat} {x y : TxM} (hS : PtrS rb ro x.g y.g w) (hf : ∀ i, w.frozen? ⟨rb, i, none⟩ = false) (hx : TxAt w base x) (hy : TxAt w base y) (hp : y.t.stamp < x.t.stamp) :
    Calls Tryz.prog 21 #[.slice (some ⟨rb, ro, none⟩) 2 cc, .func (.func 22) #[] #[]] w fun r w' => r = .returned (.tuple #[]) ∧ ∃ k j, w' = (((w.drewN k).setCell ⟨rb, ro + 1, none⟩ (.pointer (some ⟨x.g, 0, none⟩))).setCell ⟨rb, ro, none⟩ (.pointer (some ⟨y.g, 0, none⟩))).drewN j := by
  have H := Lib.hid (pins_two (cc := cc) hS hf hx hy hp)
  clear hS hx hy hp hf
  have HPD : Hid (∀ li : Int, Calls Tryz.prog 37 #[.slice (some ⟨rb, ro, none⟩) 2 cc, .int .i64 0, .int .i64 2, .int .i64 li, .func (.func 22) #[] #[]] w fun r w' => r = .returned (.tuple #[]) ∧ ∃ k j, w' = (((w.drewN k).setCell ⟨rb, ro + 1, none⟩ (.pointer (some ⟨x.g, 0, none⟩))).setCell ⟨rb, ro, none⟩ (.pointer (some ⟨y.g, 0, none⟩))).drewN j) := by
    refine Lib.hid fun li => ?_
    go_enter Tryz.func37, Tryz.ntmps37
    go_wp2_with fail
    refine wp_loop_rounds 1 ?_
    rw [rounds_succ]
    go_wp2_with (go_at_call 54; refine H.out.mono ?_; rintro r w1 ⟨hr, k1, j1, hw1⟩; subst hr)
    refine bodyPost_ret (results_none rfl _ _ _) rfl ?_
    exact ⟨rfl, _, _, rfl⟩
  have HLEN : Hid (∀ W, Calls Tryz.prog 38 #[.int .u64 2] W fun r w' => r = .returned (.int .i64 2) ∧ w' = W) := by
    refine Lib.hid fun W => ?_
    go_enter Tryz.func38, Tryz.ntmps38
    go_wp2
    go_ret
    exact ⟨by kernel_rfl, rfl⟩
  go_enter Tryz.func21, Tryz.ntmps21
  go_wp2_with (first
    | (go_at_call 38; refine (HLEN.out _).mono ?_; rintro r w1 ⟨hr, hw⟩; subst hr; subst hw)
    | (go_at_call 37; refine (HPD.out _).mono ?_; rintro r w1 ⟨hr, k1, j1, hw1⟩; subst hr))
  go_end0
  exact ⟨rfl, _, _, rfl⟩
end Go.Proofs.YtffjcojehiblnaaGreatDoor

/- Final at two transactions of one step each. -/
namespace Go.Proofs.YtffjcojehiblnaaGreatDoor
open Go.RowKit Go.Joins Go.ChangeShapes Go.WideShapes Go.Deep
set_option linter.unusedVariables false
set_option linter.unusedSimpArgs false
set_option maxRecDepth 100000

theorem info_i64 : (Tryz.prog.info? 2).map (fun i => (i.zero, i.size, i.bytes)) = some (some (.int .i64 0), 1, 8) := by kernel_rfl
theorem mk_three (W : World) : (Instr.makeSlice 32 (.int .i64 3) (.int .i64 3)).run Tryz.prog W = .ok (.slice (some ⟨W.heap.size, 0, none⟩) 3 3) (W.alloc (.cells #[.int .i64 0, .int .i64 0, .int .i64 0] 2)) := by
  obtain ⟨i0, hi0, hz0, hz1, hz2⟩ := info_parts info_i64
  have := run_make (P := Tryz.prog) W 32 2 i0 _ Tryz.underlying32 hi0 hz0 .i64 .i64 3 3 (by omega) (Int.le_refl _) (by rw [hz2]; omega) (by omega)
  rw [hz1, show madeCells (Value.int .i64 0).cells (Int.toNat 3 * 1) = #[.int .i64 0, .int .i64 0, .int .i64 0] by kernel_rfl] at this
  exact this
set_option maxHeartbeats 4000000 in
theorem final_two (A : Option Addr) (n nc : Nat) (l : List Ev) (p : Addr) (b : Book) (t0 t1 : TxP) (e0 e1 : Ev) (w : World) (hl : l.length = n) (hn : n * 152 ≤ 140737488351232) (hR : Reads w w.heap.size 19 A n (evs l)) (hE : LaidAt w p) (hrd : readF book0 0 l = .ok b) (hb : b.l = [t0, t1])
    (s0 : t0.stamp = 1) (s1 : t1.stamp = 0) (g0 : t0.steps = [e0]) (g1 : t1.steps = [e1]) (k0 : e0.kind = 3) (c0 : e0.cell = 2) (v0 : e0.value = 7) :
    Calls Tryz.prog 9 #[.slice A n nc, .int .i64 3] w fun r w' => ∃ g, r = .returned (.tuple #[.slice (some ⟨g, 0, none⟩) 3 3, .int .i64 0]) ∧ w'.cell? ⟨g, 2, none⟩ = some (.int .i64 7) ∧ w.heap.size ≤ g ∧ Below w.heap.size w w' := by
  have HRD := Lib.hid ((read_any A n nc l p w hl hn hR hE.ev (by have := hE.lt; omega)))
  clear hl hn hR hE
  go_enter Tryz.func9, Tryz.ntmps9
  go_upto_region 6 with (go_at_call 15; refine HRD.out.mono ?_; rintro r w1 hq; unfold ReadPost at hq; rw [hrd] at hq; obtain ⟨lv, s, ll, hq, hBk, hb1⟩ := hq; subst hq; (have hll : ll.length = 2 := by rw [← hBk.len, hb]; rfl); obtain ⟨rb, cc, hlv, _, hrb⟩ := hBk.row.form (by omega); rw [hll] at hlv; subst hlv)
  obtain ⟨x, y, hxy⟩ : ∃ x y, ll = [x, y] := by
    match ll, hll with
    | [x, y], _ => exact ⟨x, y, rfl⟩
  subst hxy
  have hxt : x.t = t0 := by have := hBk.eq; rw [hb] at this; injection this
  have hyt : y.t = t1 := by have := hBk.eq; rw [hb] at this; injection this with _ h2; injection h2
  have hX := hBk.txs x (by simp)
  have hY := hBk.txs y (by simp)
  obtain ⟨csr, hbr⟩ := own_blk hBk.row (b := rb) rfl
  have hPS : PtrS rb 0 x.g y.g w1 := ⟨by have := hBk.row.cells (g := rb) rfl 0 _ rfl; rwa [Addr.add_zero'] at this, by have := hBk.row.cells (g := rb) rfl 1 _ rfl; rwa [Addr.add_mid] at this⟩
  have HSO := Lib.hid (sort_two (cc := cc) hPS hbr.frozen hX hY (by rw [hxt, hyt, s0, s1]; decide))
  have hrx : rb ≠ x.g := hbr.ne_ hX.blk (by decide)
  have hry : rb ≠ y.g := hbr.ne_ hY.blk (by decide)
  have hlo : w.heap.size ≤ rb := (hBk.row.lt rb rfl).1
  go_wp2_with (first
    | (go_at_call 21; refine HSO.out.mono ?_; rintro r w2 ⟨hr, kk, jj, hw2⟩; subst hr)
    | (refine wpList_make_wide rfl 32 (.tmp 28) (.tmp 28) rfl rfl rfl (mk_three _) ?_))
  refine wp_world fun W3 hW3 => ?_
  have hF3 : Frm w1 W3 (fun q => q = rb) := by rw [hW3]; exact ((((((Frm.refl w1 (fun q => q = rb)).drewN kk).set rb 1 _ (.inl rfl)).set rb 0 _ (.inl rfl)).drewN jj).alloc _)
  have hX3 : TxAt W3 w.heap.size x := hX.frm hF3 fun q hq h => by
    subst h
    rcases hq with hq | hq
    · exact hrx hq
    · exact own_ne_blk hX.steps hbr (by decide) hq
  have hY3 : TxAt W3 w.heap.size y := hY.frm hF3 fun q hq h => by
    subst h
    rcases hq with hq | hq
    · exact hry hq
    · exact own_ne_blk hY.steps hbr (by decide) hq
  have hO3 : Blk W3 w1.heap.size 2 #[.int .i64 0, .int .i64 0, .int .i64 0] := by
    rw [hW3]
    have h := Blk.new ((((w1.drewN kk).setCell ⟨rb, 1, none⟩ (.pointer (some ⟨x.g, 0, none⟩))).setCell ⟨rb, 0, none⟩ (.pointer (some ⟨y.g, 0, none⟩))).drewN jj) 2 #[.int .i64 0, .int .i64 0, .int .i64 0]
    rw [show ((((w1.drewN kk).setCell ⟨rb, 1, none⟩ (.pointer (some ⟨x.g, 0, none⟩))).setCell ⟨rb, 0, none⟩ (.pointer (some ⟨y.g, 0, none⟩))).drewN jj).heap.size = w1.heap.size by simp] at h
    exact h
  have hR3 : Blk W3 rb 58 ((csr.setIfInBounds 1 (.pointer (some ⟨x.g, 0, none⟩))).setIfInBounds 0 (.pointer (some ⟨y.g, 0, none⟩))) := by rw [hW3]; exact ((((hbr.drewN kk).set_ 1 _).set_ 0 _).drewN jj).alloc _
  have hz1 : 1 < csr.size := by
    have h1 := (hbr.cell 1).symm.trans hPS.y
    exact (Array.getElem?_eq_some_iff.1 h1).1
  have p0 : W3.cell? ⟨rb, 0, none⟩ = some (.pointer (some ⟨y.g, 0, none⟩)) := (hR3.cell 0).trans (Array.getElem?_setIfInBounds_self_of_lt (by simp; omega))
  have p1 : W3.cell? ⟨rb, 1, none⟩ = some (.pointer (some ⟨x.g, 0, none⟩)) := (hR3.cell 1).trans ((Array.getElem?_setIfInBounds_ne (by decide)).trans (Array.getElem?_setIfInBounds_self_of_lt hz1))
  have hB3 : Below w.heap.size w W3 := hb1.trans (hF3.below hb1.size fun q h => h ▸ hlo)
  have hOlt : w1.heap.size < W3.heap.size := hO3.lt
  have hws := hb1.size
  obtain ⟨sx, cx, hsx, _, hsxl⟩ := hX3.steps.form (by rw [hxt, g0]; exact Nat.zero_lt_one)
  obtain ⟨sy, cy, hsy, _, hsyl⟩ := hY3.steps.form (by rw [hyt, g1]; exact Nat.zero_lt_one)
  have hrX : W3.rangeAt sx 0 (evcs e0).toList := fun j v hv => by
    have := hX3.steps.cells (g := sx) (by rw [hsx]; rfl) j v (by rw [hxt, g0]; exact hv)
    rwa [Addr.add_mid] at this
  have hrY : W3.rangeAt sy 0 (evcs e1).toList := fun j v hv => by
    have := hY3.steps.cells (g := sy) (by rw [hsy]; rfl) j v (by rw [hyt, g1]; exact hv)
    rwa [Addr.add_mid] at this
  have y8 : W3.cell? ⟨y.g, 8, none⟩ = some (.slice (some ⟨sy, 0, none⟩) 1 cy) := by have := (hY3.blk.cell 8).trans (show y.cells[8]? = some y.sv from rfl); rw [hsy, hyt, g1] at this; exact this
  have y3 : W3.cell? ⟨y.g, 3, none⟩ = some (.int .i64 0) := by have := (hY3.blk.cell 3).trans (show y.cells[3]? = some (.int .i64 y.t.stamp) from rfl); rw [hyt, s1] at this; exact this
  have x8 : W3.cell? ⟨x.g, 8, none⟩ = some (.slice (some ⟨sx, 0, none⟩) 1 cx) := by have := (hX3.blk.cell 8).trans (show x.cells[8]? = some x.sv from rfl); rw [hsx, hxt, g0] at this; exact this
  have x3 : W3.cell? ⟨x.g, 3, none⟩ = some (.int .i64 1) := by have := (hX3.blk.cell 3).trans (show x.cells[3]? = some (.int .i64 x.t.stamp) from rfl); rw [hxt, s0] at this; exact this
  have b3 : ∀ o, (W3.alloc o).cell? ⟨y.g, 3, none⟩ = some (.int .i64 0) := fun o => (World.cell?_alloc_lt _ _ ⟨y.g, 3, none⟩ (World.block_lt_of_cell? _ _ y3)).trans y3
  have a8 : (W3.alloc (.cells (evcs e1) 43)).cell? ⟨x.g, 8, none⟩ = some (.slice (some ⟨sx, 0, none⟩) 1 cx) := (World.cell?_alloc_lt _ _ ⟨x.g, 8, none⟩ (World.block_lt_of_cell? _ _ x8)).trans x8
  have a3 : (W3.alloc (.cells (evcs e1) 43)).cell? ⟨x.g, 3, none⟩ = some (.int .i64 1) := (World.cell?_alloc_lt _ _ ⟨x.g, 3, none⟩ (World.block_lt_of_cell? _ _ x3)).trans x3
  have a1 : (W3.alloc (.cells (evcs e1) 43)).cell? ⟨rb, 1, none⟩ = some (.pointer (some ⟨x.g, 0, none⟩)) := (World.cell?_alloc_lt _ _ ⟨rb, 1, none⟩ (World.block_lt_of_cell? _ _ p1)).trans p1
  have ar : (W3.alloc (.cells (evcs e1) 43)).rangeAt sx 0 (evcs e0).toList := World.rangeAt_alloc hrX _
  have aO := hO3.alloc (.cells (evcs e1) 43)
  have aF : Frm W3 (W3.alloc (.cells (evcs e1) 43)) (fun _ => False) := (Frm.refl W3 _).alloc _
  have HRX := Lib.hid ar
  have HRY := Lib.hid hrY
  have HO := Lib.hid aO
  have HB3 := Lib.hid hB3
  have HK := Lib.hid (⟨k0, c0, v0⟩ : e0.kind = 3 ∧ e0.cell = 2 ∧ e0.value = 7)
  have hbO := hws
  generalize w1.heap.size = O at *
  clear hW3 hF3 hX3 hY3 hO3 hR3 hz1 hB3 hsx hsy hrX hrY hX hY hxt hyt hPS hbr hBk hb1 HRD HSO g0 g1 s0 s1 k0 c0 v0 ar aO aF x3 x8 p1 hrd hb hsxl hsyl hll
  refine wp_loop_rounds 3 ?_
  rw [rounds_succ]
  go_wp2_with fail
  refine wp_loop_rounds 2 ?_
  rw [rounds_succ]
  go_wp2_with (first
    | (refine wpList_load_mid rfl 43 (.tmp 43) rfl sy 0 rfl (evcs e1).toList _ HRY.out Tryz.underlying43 rfl (by kernel_rfl) ?_)
    | (refine wpList_alloc_ev rfl rfl ?_)
    | (refine wpList_store_ev e1 rfl (.tmp 12) (.tmp 44) rfl rfl rfl ?_))
  rw [rounds_succ]
  go_wp2_with fail
  have hO4 : O < (W3.alloc (.cells (evcs e1) 43)).heap.size := HO.out.lt
  have HB4 := Lib.hid (Below.alloc HB3.out HB3.out.size (.cells (evcs e1) 43))
  clear y3 y8 b3 p0 HRY HB3
  generalize W3.alloc (.cells (evcs e1) 43) = W4 at *
  clear hOlt
  have u3 : (W4.alloc (.cells (evcs e0) 43)).cell? ⟨W4.heap.size, 3, none⟩ = some (.int .i64 3) := by have := ev_at (ev_range W4 e0) 3 _ rfl; rw [HK.out.1] at this; exact this
  have u4 : (W4.alloc (.cells (evcs e0) 43)).cell? ⟨W4.heap.size, 4, none⟩ = some (.int .i64 2) := by have := ev_at (ev_range W4 e0) 4 _ rfl; rw [HK.out.2.1] at this; exact this
  have u5 : (W4.alloc (.cells (evcs e0) 43)).cell? ⟨W4.heap.size, 5, none⟩ = some (.int .i64 7) := by have := ev_at (ev_range W4 e0) 5 _ rfl; rw [HK.out.2.2] at this; exact this
  have b3 : ∀ o, (W4.alloc o).cell? ⟨x.g, 3, none⟩ = some (.int .i64 1) := fun o => (World.cell?_alloc_lt _ _ ⟨x.g, 3, none⟩ (World.block_lt_of_cell? _ _ a3)).trans a3
  have hOB := HO.out.alloc (.cells (evcs e0) 43)
  have o2 : (W4.alloc (.cells (evcs e0) 43)).cell? ⟨O, 2, none⟩ = some (.int .i64 0) := (hOB.cell 2).trans rfl
  have of_ : ∀ i, (W4.alloc (.cells (evcs e0) 43)).frozen? ⟨O, i, none⟩ = false := hOB.frozen
  have HOB := Lib.hid hOB
  clear hOB a3
  rw [rounds_succ]
  go_wp2_with fail
  refine wp_loop_rounds 2 ?_
  rw [rounds_succ]
  go_wp2_with (first
    | (refine wpList_load_mid rfl 43 (.tmp 43) rfl sx 0 rfl (evcs e0).toList _ HRX.out Tryz.underlying43 rfl (by kernel_rfl) ?_)
    | (refine wpList_alloc_ev rfl rfl ?_)
    | (refine wpList_store_ev e0 rfl (.tmp 12) (.tmp 44) rfl rfl rfl ?_))
  rw [rounds_succ]
  go_wp2_with fail
  rw [rounds_succ]
  go_wp2_with fail
  go_ret2
  exact ⟨O, rfl, ((HO.out.set_ 2 (.int .i64 7)).alloc _).cell 2, hbO, Below.alloc (Below.setCell HB4.out hbO _) (by have := HB4.out.size; simp; omega) _⟩
end Go.Proofs.YtffjcojehiblnaaGreatDoor
