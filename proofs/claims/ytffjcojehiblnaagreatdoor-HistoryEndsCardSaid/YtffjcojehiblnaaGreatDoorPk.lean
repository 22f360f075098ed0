/- Places of two transactions: cmp.Compare, cmp.Or, history.places. -/
import Derived.Test.YtffjcojehiblnaaGreatDoorPj
import Derived.Deep.Cut
import Derived.Deep.RegionHeldLaw
namespace Go.Proofs.YtffjcojehiblnaaGreatDoor
open Go.RowKit Go.Joins Go.ChangeShapes Go.WideShapes Go.Deep
set_option linter.unusedVariables false
set_option linter.unusedSimpArgs false
set_option maxRecDepth 100000

def cmp3 (a b : Int) : Int := if a < b then -1 else if b < a then 1 else 0
theorem cmp64_any (a b : Int) (w : World) : Calls Tryz.prog 23 #[.int .i64 a, .int .i64 b] w fun r w' => r = .returned (.int .i64 (cmp3 a b)) ∧ w' = w := by
  unfold cmp3
  by_cases h1 : a < b
  · rw [if_pos h1]
    have d1 : decide (a < b) = true := by simp [h1]
    go_enter Tryz.func23, Tryz.ntmps23
    go_wp2
    go_ret
    exact ⟨rfl, rfl⟩
  rw [if_neg h1]
  have d1 : decide (a < b) = false := by simp; omega
  by_cases h2 : b < a
  · rw [if_pos h2]
    have d2 : decide (b < a) = true := by simp [h2]
    go_enter Tryz.func23, Tryz.ntmps23
    go_wp2
    go_ret
    exact ⟨rfl, rfl⟩
  · rw [if_neg h2]
    have d2 : decide (b < a) = false := by simp; omega
    go_enter Tryz.func23, Tryz.ntmps23
    go_wp2
    go_ret
    exact ⟨rfl, rfl⟩
theorem cmpint_any (a b : Int) (w : World) : Calls Tryz.prog 33 #[.int .i64 a, .int .i64 b] w fun r w' => r = .returned (.int .i64 (cmp3 a b)) ∧ w' = w := by
  unfold cmp3
  by_cases h1 : a < b
  · rw [if_pos h1]
    have d1 : decide (a < b) = true := by simp [h1]
    go_enter Tryz.func33, Tryz.ntmps33
    go_wp2
    go_ret
    exact ⟨rfl, rfl⟩
  rw [if_neg h1]
  have d1 : decide (a < b) = false := by simp; omega
  by_cases h2 : b < a
  · rw [if_pos h2]
    have d2 : decide (b < a) = true := by simp [h2]
    go_enter Tryz.func33, Tryz.ntmps33
    go_wp2
    go_ret
    exact ⟨rfl, rfl⟩
  · rw [if_neg h2]
    have d2 : decide (b < a) = false := by simp; omega
    go_enter Tryz.func33, Tryz.ntmps33
    go_wp2
    go_ret
    exact ⟨rfl, rfl⟩
/-- A transaction's place. -/
def place1 (t : TxP) : Int := if t.stamp = 0 then t.seen else t.stamp
def place2 (t : TxP) : Int := if t.stamp = 0 then 1 else 0
theorem place_any {w : World} {base : Nat} {x : TxM} (h : TxAt w base x) : Calls Tryz.prog 31 #[.pointer (some ⟨x.g, 0, none⟩)] w fun r w' => r = .returned (.tuple #[.int .i64 (place1 x.t), .int .i64 (place2 x.t)]) ∧ w' = w := by
  have c3 : w.cell? ⟨x.g, 3, none⟩ = some (.int .i64 x.t.stamp) := (h.blk.cell 3).trans rfl
  have c4 : w.cell? ⟨x.g, 4, none⟩ = some (.int .i64 x.t.seen) := (h.blk.cell 4).trans rfl
  unfold place1 place2
  clear h
  by_cases h0 : x.t.stamp = 0
  · rw [if_pos h0, if_pos h0]
    rw [h0] at c3
    clear h0
    go_enter Tryz.func31, Tryz.ntmps31
    go_wp2
    go_ret2
    exact ⟨rfl, rfl⟩
  · rw [if_neg h0, if_neg h0]
    have d1 : (x.t.stamp != 0) = true := by simp [h0]
    have d2 : decide (x.t.stamp ≠ 0) = true := by simp [h0]
    go_enter Tryz.func31, Tryz.ntmps31
    go_wp2
    go_ret2
    exact ⟨rfl, rfl⟩
theorem or_two (a b : Int) (g : Nat) (w : World) (hg : Blk w g 3 #[.int .i64 a, .int .i64 b]) : Calls Tryz.prog 32 #[.slice (some ⟨g, 0, none⟩) 2 2] w fun r w' => r = .returned (.int .i64 (if a = 0 then b else a)) ∧ w' = w := by
  have c0 : w.cell? ⟨g, 0, none⟩ = some (.int .i64 a) := (hg.cell 0).trans rfl
  have c1 : w.cell? ⟨g, 1, none⟩ = some (.int .i64 b) := (hg.cell 1).trans rfl
  clear hg
  by_cases h0 : a = 0
  · subst h0
    rw [if_pos rfl]
    by_cases h1 : b = 0
    · subst h1
      go_enter Tryz.func32, Tryz.ntmps32
      go_wp2
      refine wp_loop_rounds 3 ?_
      rw [rounds_succ]
      go_wp2
      rw [rounds_succ]
      go_wp2
      rw [rounds_succ]
      go_wp2
      go_ret
      exact ⟨rfl, rfl⟩
    · have d1 : (b != 0) = true := by simp [h1]
      go_enter Tryz.func32, Tryz.ntmps32
      go_wp2
      refine wp_loop_rounds 2 ?_
      rw [rounds_succ]
      go_wp2
      rw [rounds_succ]
      go_wp2
      go_ret
      exact ⟨rfl, rfl⟩
  · rw [if_neg h0]
    have d1 : (a != 0) = true := by simp [h0]
    go_enter Tryz.func32, Tryz.ntmps32
    go_wp2
    refine wp_loop_rounds 1 ?_
    rw [rounds_succ]
    go_wp2
    go_ret
    exact ⟨rfl, rfl⟩
def placesF (a b : TxP) : Int := if cmp3 (place1 a) (place1 b) = 0 then cmp3 (place2 a) (place2 b) else cmp3 (place1 a) (place1 b)
set_option maxHeartbeats 400000 in
theorem places_any {w : World} {base : Nat} {x y : TxM} (hx : TxAt w base x) (hy : TxAt w base y) : Calls Tryz.prog 18 #[.pointer (some ⟨x.g, 0, none⟩), .pointer (some ⟨y.g, 0, none⟩)] w fun r w' => r = .returned (.int .i64 (placesF x.t y.t)) ∧ Below w.heap.size w w' := by
  have HX := Lib.hid hx
  have HY := Lib.hid hy
  obtain ⟨p1, hp1⟩ : ∃ z, z = place1 x.t := ⟨_, rfl⟩
  obtain ⟨p2, hp2⟩ : ∃ z, z = place2 x.t := ⟨_, rfl⟩
  obtain ⟨q1, hq1⟩ : ∃ z, z = place1 y.t := ⟨_, rfl⟩
  obtain ⟨q2, hq2⟩ : ∃ z, z = place2 y.t := ⟨_, rfl⟩
  have HPX := Lib.hid (place_any HX.out)
  have HPY := Lib.hid (place_any HY.out)
  unfold placesF
  rw [← hp1, ← hp2] at *
  rw [← hq1, ← hq2] at *
  obtain ⟨c, hc⟩ : ∃ z, z = cmp3 p1 q1 := ⟨_, rfl⟩
  obtain ⟨d, hd⟩ : ∃ z, z = cmp3 p2 q2 := ⟨_, rfl⟩
  rw [← hc, ← hd]
  have HC1 := Lib.hid (fun W => hc ▸ cmp64_any p1 q1 W)
  have HC2 := Lib.hid (fun W => hd ▸ cmpint_any p2 q2 W)
  clear hx hy hp1 hp2 hq1 hq2 hc hd HX HY
  go_enter Tryz.func18, Tryz.ntmps18
  go_upto_region 3 with (go_at_call 31; refine HPX.out.mono ?_; rintro r w1 ⟨hr, hw⟩; subst hr; subst hw)
  go_wp2_with (first
    | (go_at_call 31; refine HPY.out.mono ?_; rintro r w1 ⟨hr, hw⟩; subst hr; subst hw)
    | (go_at_call 23; refine (HC1.out _).mono ?_; rintro r w1 ⟨hr, hw⟩; subst hr; subst hw)
    | (go_at_call 33; refine (HC2.out _).mono ?_; rintro r w1 ⟨hr, hw⟩; subst hr; subst hw)
    | (go_at_call 32; refine (or_two _ _ _ _ (Blk.new _ _ _)).mono ?_; rintro r w1 ⟨hr, hw⟩; subst hr; subst hw))
  all_goals go_ret
  all_goals exact ⟨rfl, Below.alloc (Below.refl _ _) (Nat.le_refl _) _⟩
end Go.Proofs.YtffjcojehiblnaaGreatDoor

/- Order at two transactions. -/
namespace Go.Proofs.YtffjcojehiblnaaGreatDoor
open Go.RowKit Go.Joins Go.ChangeShapes Go.WideShapes Go.Deep
set_option linter.unusedVariables false
set_option linter.unusedSimpArgs false
set_option maxRecDepth 100000

/-- What the comparison reads: the variable's list, two of its pointers. -/
structure OrdS (v rb ro i j m c gx gy : Nat) (w : World) : Prop where
  v : w.cell? ⟨v, 0, none⟩ = some (.slice (some ⟨rb, ro, none⟩) m c)
  x : w.cell? ⟨rb, ro + i, none⟩ = some (.pointer (some ⟨gx, 0, none⟩))
  y : w.cell? ⟨rb, ro + j, none⟩ = some (.pointer (some ⟨gy, 0, none⟩))
theorem OrdS.below {v rb ro i j m c gx gy : Nat} {w w' : World} (h : OrdS v rb ro i j m c gx gy w) (hb : Below w.heap.size w w') : OrdS v rb ro i j m c gx gy w' :=
  ⟨(hb.cell (World.block_lt_of_cell? w _ h.v)).trans h.v, (hb.cell (World.block_lt_of_cell? w _ h.x)).trans h.x, (hb.cell (World.block_lt_of_cell? w _ h.y)).trans h.y⟩
set_option maxHeartbeats 400000 in
theorem ordcmp_any {w : World} {base v rb ro i j m c : Nat} {x y : TxM} (hS : OrdS v rb ro i j m c x.g y.g w) (hi : i < m) (hj : j < m) (hx : TxAt w base x) (hy : TxAt w base y) :
    Calls Tryz.prog 17 #[.int .i64 i, .int .i64 j, .pointer (some ⟨v, 0, none⟩)] w fun r w' => r = .returned (.int .i64 (placesF x.t y.t)) ∧ Below w.heap.size w w' := by
  have HP := Lib.hid (places_any hx.drew hy.drew)
  have HS0 := Lib.hid hS
  clear hx hy hS
  have h1 : ∀ W, OrdS v rb ro i j m c x.g y.g W → W.cell? ⟨v, 0, none⟩ = some (.slice (some ⟨rb, ro, none⟩) m c) := fun W h => h.v
  have h2 : ∀ W, OrdS v rb ro i j m c x.g y.g W → W.cell? ⟨rb, ro + i, none⟩ = some (.pointer (some ⟨x.g, 0, none⟩)) := fun W h => h.x
  have h3 : ∀ W, OrdS v rb ro i j m c x.g y.g W → W.cell? ⟨rb, ro + j, none⟩ = some (.pointer (some ⟨y.g, 0, none⟩)) := fun W h => h.y
  go_enter Tryz.func17, Tryz.ntmps17
  go_wp2_with fail
  go_region_held (OrdS v rb ro i j m c x.g y.g) (first | exact ⟨HS0.out.v, HS0.out.x, HS0.out.y⟩ | exact OrdS.below (w := w.drew) ⟨HS0.out.v, HS0.out.x, HS0.out.y⟩ hb1) ((go_at_call 18; refine HP.out.mono ?_; rintro r w1 ⟨hr, hb1⟩; subst hr))
  go_wp2_with fail
  go_ret
  exact ⟨rfl, (Below.drew (Below.refl _ w)).trans hb1⟩
/-- Two numbers that lie right are let be. -/
structure PairS (g : Nat) (a b : Int) (v rb ro m c gx gy : Nat) (w : World) : Prop where
  a : w.cell? ⟨g, 0, none⟩ = some (.int .i64 a)
  b : w.cell? ⟨g, 1, none⟩ = some (.int .i64 b)
  o : OrdS v rb ro 1 0 m c gx gy w
theorem PairS.below {g : Nat} {a b : Int} {v rb ro m c gx gy : Nat} {w w' : World} (h : PairS g a b v rb ro m c gx gy w) (hb : Below w.heap.size w w') : PairS g a b v rb ro m c gx gy w' :=
  ⟨(hb.cell (World.block_lt_of_cell? w _ h.a)).trans h.a, (hb.cell (World.block_lt_of_cell? w _ h.b)).trans h.b, h.o.below hb⟩
set_option maxHeartbeats 400000 in
theorem ins_two {w : World} {base g v rb ro m c cc : Nat} {x y : TxM} (hS : PairS g 0 1 v rb ro m c x.g y.g w) (hm : 1 < m) (hx : TxAt w base x) (hy : TxAt w base y) (hp : 0 ≤ placesF x.t y.t) :
    Calls Tryz.prog 51 #[.slice (some ⟨g, 0, none⟩) 2 cc, .int .i64 0, .int .i64 2, .func (.func 17) #[] #[.pointer (some ⟨v, 0, none⟩)]] w fun r w' => r = .returned (.tuple #[]) ∧ Below w.heap.size w w' := by
  have HC := Lib.hid (ordcmp_any (w := w.drew) (i := 1) (j := 0) ⟨hS.o.v, hS.o.x, hS.o.y⟩ (by omega) (by omega) hx.drew hy.drew)
  have HS0 := Lib.hid hS
  obtain ⟨r, hr⟩ : ∃ z, z = placesF x.t y.t := ⟨_, rfl⟩
  rw [← hr] at HC hp
  have d1 : decide (r < 0) = false := by simp; omega
  clear hx hy hS hr
  have h1 : ∀ W, PairS g 0 1 v rb ro m c x.g y.g W → W.cell? ⟨g, 0, none⟩ = some (.int .i64 0) := fun W h => h.a
  have h2 : ∀ W, PairS g 0 1 v rb ro m c x.g y.g W → W.cell? ⟨g, 1, none⟩ = some (.int .i64 1) := fun W h => h.b
  go_enter Tryz.func51, Tryz.ntmps51
  go_wp2_with fail
  refine wp_loop_rounds 2 ?_
  rw [rounds_succ]
  go_wp2_with fail
  refine wp_loop_rounds 1 ?_
  rw [rounds_succ]
  go_wp2_with fail
  go_region_held (PairS g 0 1 v rb ro m c x.g y.g) (first | exact ⟨HS0.out.a, HS0.out.b, ⟨HS0.out.o.v, HS0.out.o.x, HS0.out.o.y⟩⟩ | exact PairS.below (w := w.drew) ⟨HS0.out.a, HS0.out.b, ⟨HS0.out.o.v, HS0.out.o.x, HS0.out.o.y⟩⟩ hb1) ((go_at_call 17; refine HC.out.mono ?_; rintro r w1 ⟨hr, hb1⟩; subst hr))
  go_wp2_with fail
  rw [rounds_succ]
  go_wp2_with fail
  go_end0
  exact ⟨rfl, (Below.drew (Below.refl _ w)).trans hb1⟩
theorem stable_two {w : World} {base g v rb ro m c cc : Nat} {x y : TxM} (hS : PairS g 0 1 v rb ro m c x.g y.g w) (hm : 1 < m) (hx : TxAt w base x) (hy : TxAt w base y) (hp : 0 ≤ placesF x.t y.t) :
    Calls Tryz.prog 16 #[.slice (some ⟨g, 0, none⟩) 2 cc, .func (.func 17) #[] #[.pointer (some ⟨v, 0, none⟩)]] w fun r w' => r = .returned (.tuple #[]) ∧ Below w.heap.size w w' := by
  have H := Lib.hid (ins_two (cc := cc) hS hm hx hy hp)
  clear hS hx hy hp
  have HST : Hid (Calls Tryz.prog 30 #[.slice (some ⟨g, 0, none⟩) 2 cc, .int .i64 2, .func (.func 17) #[] #[.pointer (some ⟨v, 0, none⟩)]] w fun r w' => r = .returned (.tuple #[]) ∧ Below w.heap.size w w') := by
    refine Lib.hid ?_
    go_enter Tryz.func30, Tryz.ntmps30
    go_wp2_with fail
    refine wp_loop_rounds 1 ?_
    rw [rounds_succ]
    go_wp2_with (go_at_call 51; refine H.out.mono ?_; rintro r w1 ⟨hr, hb1⟩; subst hr)
    refine wp_loop_rounds 1 ?_
    rw [rounds_succ]
    go_wp2_with fail
    go_end0
    exact ⟨rfl, hb1⟩
  go_enter Tryz.func16, Tryz.ntmps16
  go_wp2_with (go_at_call 30; refine HST.out.mono ?_; rintro r w1 ⟨hr, hb1⟩; subst hr)
  go_end0
  exact ⟨rfl, hb1⟩
theorem info_int : (Tryz.prog.info? 3).map (fun i => (i.zero, i.size, i.bytes)) = some (some (.int .i64 0), 1, 8) := by kernel_rfl
theorem news_int (W : World) (k : Int) : ∀ j u, ([.int .i64 k] : List Value)[j]? = some u → (W.alloc (.cells #[.int .i64 k] 3)).cell? ((⟨W.heap.size, 0, none⟩ : Addr).add j) = some u := World.news_of_block (cs := #[.int .i64 k]) (t := 3) (fr := (0, 0)) (heap_alloc_new W _)
/-- Order of two transactions that lie right. -/
theorem order_two (A : Option Addr) (n nc : Nat) (l : List Ev) (p : Addr) (b : Book) (t0 t1 : TxP) (w : World) (hl : l.length = n) (hn : n * 152 ≤ 140737488351232) (hR : Reads w w.heap.size 19 A n (evs l)) (hE : LaidAt w p) (hrd : readF book0 0 l = .ok b) (hb : b.l = [t0, t1]) (hp : 0 ≤ placesF t1 t0) :
    Calls Tryz.prog 6 #[.slice A n nc] w fun r w' => ∃ g c, r = .returned (.tuple #[.slice (some ⟨g, 0, none⟩) 2 c, .int .i64 0]) ∧ w'.cell? ⟨g, 0, none⟩ = some (.int .i64 0) ∧ w.heap.size ≤ g ∧ Below w.heap.size w w' := by
  have HRD := Lib.hid ((read_any A n nc l p w hl hn hR hE.ev (by have := hE.lt; omega)))
  obtain ⟨i0, hi0, hz0, hz1, hz2⟩ := info_parts info_int
  clear hl hn hR hE
  go_enter Tryz.func6, Tryz.ntmps6
  go_wp2_with (go_at_call 15; refine HRD.out.mono ?_; rintro r w1 hq; unfold ReadPost at hq; rw [hrd] at hq; obtain ⟨lv, s, ll, hq, hBk, hb1⟩ := hq; subst hq; (have hll : ll.length = 2 := by rw [← hBk.len, hb]; rfl); obtain ⟨R, cc, hlv, _, hRd⟩ := own_shapes hBk.row; rw [hll] at hlv hRd; obtain ⟨rb, ro, hRb, hrb, hcc⟩ := reads_flat hRd (by omega) (by decide); subst hRb; subst hlv)
  obtain ⟨x, y, hxy⟩ : ∃ x y, ll = [x, y] := by
    match ll, hll with
    | [x, y], _ => exact ⟨x, y, rfl⟩
  subst hxy
  have hxt : x.t = t0 := by have := hBk.eq; rw [hb] at this; injection this
  have hyt : y.t = t1 := by have := hBk.eq; rw [hb] at this; injection this with _ h2; injection h2
  have q0 := hcc 0 _ rfl
  have q1 := hcc 1 _ rfl
  have hX := hBk.txs x (by simp)
  have hY := hBk.txs y (by simp)
  have hBv : Blk (w1.alloc (.cells #[.slice (some ⟨rb, ro, none⟩) 2 cc] 51)) w1.heap.size 51 #[.slice (some ⟨rb, ro, none⟩) 2 cc] := Blk.new w1 _ _
  have hX1 := hX.alloc (.cells #[.slice (some ⟨rb, ro, none⟩) 2 cc] 51)
  have hY1 := hY.alloc (.cells #[.slice (some ⟨rb, ro, none⟩) 2 cc] 51)
  have hS1 : OrdS w1.heap.size rb ro 1 0 2 cc y.g x.g (w1.alloc (.cells #[.slice (some ⟨rb, ro, none⟩) 2 cc] 51)) := ⟨(hBv.cell 0).trans rfl, (World.cell?_alloc_lt _ _ ⟨rb, ro + 1, none⟩ hrb).trans q1, (World.cell?_alloc_lt _ _ ⟨rb, ro + 0, none⟩ hrb).trans q0⟩
  have hb2 : Below w.heap.size w (w1.alloc (.cells #[.slice (some ⟨rb, ro, none⟩) 2 cc] 51)) := Below.alloc hb1 hb1.size _
  rw [← hxt, ← hyt] at hp
  have HX := Lib.hid hX1
  have HY := Lib.hid hY1
  have HS := Lib.hid hS1
  have HB := Lib.hid hb2
  clear hBk hb1 hcc q0 q1 hX hY hX1 hY1 hBv hS1 hb2 hRd hll hxt hyt HRD hrd hb
  have hv0 : (w1.alloc (.cells #[.slice (some ⟨rb, ro, none⟩) 2 cc] 51)).cell? ⟨w1.heap.size, 0, none⟩ = some (.slice (some ⟨rb, ro, none⟩) 2 cc) := HS.out.v
  generalize w1.heap.size = v at *
  generalize w1.alloc (.cells #[.slice (some ⟨rb, ro, none⟩) 2 cc] 51) = W1 at *
  refine wp_loop_rounds 3 ?_
  rw [rounds_succ]
  go_wp2_with (at_builtin; go_must (refine wpList_append_lies _ rfl (.tmp 20) (.tmp 22) 24 rfl W1.heap.size 3 i0 _ 1 8 Tryz.underlying24 hi0 hz0 hz1 hz2 rfl (by decide) (.slice none 0 0) 0 [] rfl (World.ownsRow_nil _ _ _ _) ⟨W1.heap.size, 0, none⟩ 1 1 [.int .i64 0] rfl rfl (news_int W1 0) (by simp [Value.oneCell']) (by omega) (by decide) (by decide) (by simp) (W1.heap.size + 1) (by simp) ?_; intro g2 c2 w2 hown2 hgrow2 hat2 hlt2))
  have hb12 : Below W1.heap.size W1 w2 := (Below.alloc (Below.refl _ _) (Nat.le_refl _) _).trans (below_grown (World.ownsRow_nil _ W1.heap.size 3 1) hgrow2 (by simp))
  have HO2 := Lib.hid hown2
  clear hown2 hgrow2 hat2
  have hs12 := hb12.size
  rw [rounds_succ]
  go_wp2_with (at_builtin; go_must (refine wpList_append_lies _ rfl (.tmp 20) (.tmp 22) 24 rfl W1.heap.size 3 i0 _ 1 8 Tryz.underlying24 hi0 hz0 hz1 hz2 rfl (by decide) (.slice (some ⟨g2, 0, none⟩) 1 c2) 1 [.int .i64 0] rfl (HO2.out.alloc _) ⟨w2.heap.size, 0, none⟩ 1 1 [.int .i64 1] rfl rfl (news_int w2 1) (by simp [Value.oneCell']) (by omega) (by decide) (by decide) (by simp; omega) (w2.heap.size + 1) (by simp) ?_; intro g3 c3 w3 hown3 hgrow3 hat3 hlt3))
  have hb13 : Below W1.heap.size W1 w3 := (hb12.trans (Below.alloc (Below.refl _ _) hs12 _)).trans (below_grown (HO2.out.alloc _) hgrow3 (by simp; omega))
  have hg3 : W1.heap.size ≤ g3 := (hown3.lt g3 rfl).1
  have k0 : w3.cell? ⟨g3, 0, none⟩ = some (.int .i64 0) := by have := hown3.cells (g := g3) rfl 0 (.int .i64 0) rfl; rwa [Addr.add_zero'] at this
  have k1 : w3.cell? ⟨g3, 1, none⟩ = some (.int .i64 1) := by have := hown3.cells (g := g3) rfl 1 (.int .i64 1) rfl; rwa [Addr.add_mid] at this
  have HST := Lib.hid (stable_two (cc := c3) (base := w.heap.size) (x := y) (y := x) (w := w3) ⟨k0, k1, HS.out.below hb13⟩ (by omega) (HY.out.frm (Frm.of_below (S := fun _ => False) hb13) (fun _ _ h => h)) (HX.out.frm (Frm.of_below (S := fun _ => False) hb13) (fun _ _ h => h)) hp)
  have HB3 := Lib.hid (HB.out.trans (hb13.mono HB.out.size))
  have hgw : w.heap.size ≤ g3 := Nat.le_trans HB.out.size hg3
  clear hown3 hgrow3 hat3 hb12 hb13 HO2 hs12 hi0 hz0 hz1 hz2 hp
  rw [rounds_succ]
  go_wp2_with (go_at_call 16; refine HST.out.mono ?_; rintro r w4 ⟨hr, hb4⟩; subst hr)
  go_ret2
  exact ⟨g3, c3, rfl, (hb4.cell (World.block_lt_of_cell? _ _ k0)).trans k0, hgw, HB3.out.trans (hb4.mono HB3.out.size)⟩
end Go.Proofs.YtffjcojehiblnaaGreatDoor
