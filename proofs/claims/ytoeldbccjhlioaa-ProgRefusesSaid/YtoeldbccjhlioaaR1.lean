/- What the makers below a job's New do: place.ahead, Cells and Base; a table, a transaction's log, a transaction. -/
import Derived.Test.YtoeldbccjhlioaaPe
import Derived.Laws.MakeOwn
import Derived.Lib.BitFns
import Derived.PlainAid
namespace Go.Proofs.Ytoeldbccjhlioaa
open Go.RowKit Go.Joins Go.ChangeShapes Go.WideShapes Go.Deep
set_option linter.unusedVariables false
set_option maxRecDepth 100000

def RelA (w : World) (n : Nat) (gk : Nat) (s i : Value) (wr : World) : Prop :=
  ∃ (k : Nat) (z : Int), s = .int .i64 z ∧ i = .int .i64 k ∧ k ≤ n ∧ gk = n - k ∧ Below w.heap.size w wr

set_option maxHeartbeats 2000000 in
theorem ahead_any (c : Cfg) (l : List Reg) (A : Option Addr) (n nc q : Nat) (w : World) (hl : l.length = n) (hn : n ≤ 8) (hnc : n ≤ nc) (hq : q ≤ n) (hA : Reads w w.heap.size 2 A n (rows Reg.cells l)) :
    Calls Try.prog 12 #[.agg #[.int .i64 c.raw, .int .i64 c.ring, .int .i64 c.writes, .int .i64 c.stamps, .bool c.multi, .int .i64 c.tries, .slice A n nc], .int .i64 q] w fun e w' => ∃ z : Int, e = .returned (.int .i64 z) ∧ Below w.heap.size w w' := by
  have HL := Lib.hid hl
  clear hl
  have hqc : (q : Int) ≤ (nc : Int) := by omega
  go_enter Try.func12, Try.ntmps12
  go_wp2_with fail
  go_loopg [5, 17] q (fun gk s i wr => RelA w q gk s i wr)
  case atStart => exact ⟨0, c.raw, rfl, rfl, Nat.zero_le _, rfl, by repeat (first | with_reducible exact Below.refl _ _ | with_reducible refine Below.drew ?_ | with_reducible refine below_drewN ?_ _ | ((with_reducible refine Below.alloc ?_ ?_ _); (rotate_left; focus (first | with_reducible exact Nat.le_refl _ | omega | (simp; done) | (simp; omega) | (simp [World.setCell]; done) | (simp [World.setCell]; omega)))) | ((with_reducible refine Below.setCell ?_ ?_ _); (rotate_left; focus (first | with_reducible exact Nat.le_refl _ | omega | (simp; done) | (simp; omega) | (simp [World.setCell]; done) | (simp [World.setCell]; omega)))))⟩
  case round =>
    obtain ⟨k, z, rfl, rfl, hk, hgk, hbel⟩ := hrel
    have HG := Lib.hid hgk
    clear hgk
    by_cases hkn : k < q
    · obtain ⟨b, off, rfl, hb, hc⟩ := reads_flat hA (by omega) (by omega)
      obtain ⟨d0, d1⟩ := regs_cell HL.out hc (show k < n by omega)
      obtain ⟨r, hr⟩ : ∃ r, r = l[k]'(by rw [HL.out]; omega) := ⟨_, rfl⟩
      rw [← hr] at d0 d1
      have g0 : wr.cell? ⟨b, off + k * 2, none⟩ = some (.int .i64 r.kind) := (hbel.cell (p := ⟨b, off + k * 2, none⟩) (by simp; omega)).trans d0
      have g1 : wr.cell? ⟨b, off + k * 2 + 1, none⟩ = some (.int .i64 r.cap) := (hbel.cell (p := ⟨b, off + k * 2 + 1, none⟩) (by simp; omega)).trans d1
      clear d0 d1 hc hr
      go_wp2_with fail
      refine (psize_any r _).mono ?_
      rintro e w2 ⟨rfl, hb2⟩
      have hbel2 : Below w.heap.size w w2 := (hbel.alloc hbel.size _).trans (hb2.mono (by have := hbel.size; simp; omega))
      clear hb2
      go_wp2_with fail
      go_roundg (q - (k + 1))
      case measure => have := HG.out; omega
      case rel => exact ⟨k + 1, _, rfl, by go_num, by omega, rfl, hbel2⟩
    · obtain rfl : k = q := by omega
      go_wp2_with fail
      go_ret
      exact ⟨z, rfl, hbel⟩

theorem cells_any (c : Cfg) (l : List Reg) (A : Option Addr) (n nc : Nat) (w : World) (hl : l.length = n) (hn : n ≤ nc) (hnc : nc ≤ 9223372036854775807) (hA : Reads w w.heap.size 2 A n (rows Reg.cells l)) :
    Calls Try.prog 6 #[.agg #[.int .i64 c.raw, .int .i64 c.ring, .int .i64 c.writes, .int .i64 c.stamps, .bool c.multi, .int .i64 c.tries, .slice A n nc]] w fun e w' => ∃ z : Int, e = .returned (.tuple #[.int .i64 z, .int .i64 (checkF c l)]) ∧ Below w.heap.size w w' := by
  have HC := fun w' h => pcheck_any c l A n nc w' w.heap.size hl (by omega) h
  by_cases hok : cfgOk c l
  · rw [checkF_yes hok] at HC ⊢
    have hn8 : n ≤ 8 := by have := hok.2.2.2.2.2.2.2.2.2.2.1; omega
    clear hok
    go_enter Try.func6, Try.ntmps6
    go_wp2_with fail
    refine (HC _ (by simp) (by exact hA.alloc (Nat.le_refl _) _)).mono ?_
    rintro e w1 ⟨rfl, hb⟩
    have hB := (Blk.new w 24 #[.int .i64 c.raw, .int .i64 c.ring, .int .i64 c.writes, .int .i64 c.stamps, .bool c.multi, .int .i64 c.tries, .slice A n nc]).below hb (by simp)
    have c0 : w1.cell? ⟨w.heap.size, 0, none⟩ = some (.int .i64 c.raw) := (hB.cell 0).trans rfl
    have c1 : w1.cell? ⟨w.heap.size, 1, none⟩ = some (.int .i64 c.ring) := (hB.cell 1).trans rfl
    have c2 : w1.cell? ⟨w.heap.size, 2, none⟩ = some (.int .i64 c.writes) := (hB.cell 2).trans rfl
    have c3 : w1.cell? ⟨w.heap.size, 3, none⟩ = some (.int .i64 c.stamps) := (hB.cell 3).trans rfl
    have c4 : w1.cell? ⟨w.heap.size, 4, none⟩ = some (.bool c.multi) := (hB.cell 4).trans rfl
    have c5 : w1.cell? ⟨w.heap.size, 5, none⟩ = some (.int .i64 c.tries) := (hB.cell 5).trans rfl
    have c6 : w1.cell? ⟨w.heap.size, 6, none⟩ = some (.slice A n nc) := (hB.cell 6).trans rfl
    have hlt0 := hB.lt
    have hbel1 : Below w.heap.size w w1 := (by refine Below.trans ?_ (hb.mono (by simp)); repeat (first | with_reducible exact Below.refl _ _ | with_reducible refine Below.drew ?_ | with_reducible refine below_drewN ?_ _ | ((with_reducible refine Below.alloc ?_ ?_ _); (rotate_left; focus (first | with_reducible exact Nat.le_refl _ | omega | (simp; done) | (simp; omega) | (simp [World.setCell]; done) | (simp [World.setCell]; omega)))) | ((with_reducible refine Below.setCell ?_ ?_ _); (rotate_left; focus (first | with_reducible exact Nat.le_refl _ | omega | (simp; done) | (simp; omega) | (simp [World.setCell]; done) | (simp [World.setCell]; omega))))))
    clear hb hB HC
    go_wp2_with fail
    refine (ahead_any c l A n nc n _ hl hn8 hn (Nat.le_refl _) (by exact (hA.below hbel1).more hbel1.size)).mono ?_
    rintro e w2 ⟨z, rfl, hb2⟩
    go_wp2_with fail
    go_ret2
    exact ⟨z, rfl, hbel1.trans (hb2.mono hbel1.size)⟩
  · rw [checkF_no hok] at HC ⊢
    clear hok
    go_enter Try.func6, Try.ntmps6
    go_wp2_with fail
    refine (HC _ (by simp) (by exact hA.alloc (Nat.le_refl _) _)).mono ?_
    rintro e w1 ⟨rfl, hb⟩
    have hB := (Blk.new w 24 #[.int .i64 c.raw, .int .i64 c.ring, .int .i64 c.writes, .int .i64 c.stamps, .bool c.multi, .int .i64 c.tries, .slice A n nc]).below hb (by simp)
    have c0 : w1.cell? ⟨w.heap.size, 0, none⟩ = some (.int .i64 c.raw) := (hB.cell 0).trans rfl
    have c1 : w1.cell? ⟨w.heap.size, 1, none⟩ = some (.int .i64 c.ring) := (hB.cell 1).trans rfl
    have c2 : w1.cell? ⟨w.heap.size, 2, none⟩ = some (.int .i64 c.writes) := (hB.cell 2).trans rfl
    have c3 : w1.cell? ⟨w.heap.size, 3, none⟩ = some (.int .i64 c.stamps) := (hB.cell 3).trans rfl
    have c4 : w1.cell? ⟨w.heap.size, 4, none⟩ = some (.bool c.multi) := (hB.cell 4).trans rfl
    have c5 : w1.cell? ⟨w.heap.size, 5, none⟩ = some (.int .i64 c.tries) := (hB.cell 5).trans rfl
    have c6 : w1.cell? ⟨w.heap.size, 6, none⟩ = some (.slice A n nc) := (hB.cell 6).trans rfl
    have hlt0 := hB.lt
    have hbel1 : Below w.heap.size w w1 := (by refine Below.trans ?_ (hb.mono (by simp)); repeat (first | with_reducible exact Below.refl _ _ | with_reducible refine Below.drew ?_ | with_reducible refine below_drewN ?_ _ | ((with_reducible refine Below.alloc ?_ ?_ _); (rotate_left; focus (first | with_reducible exact Nat.le_refl _ | omega | (simp; done) | (simp; omega) | (simp [World.setCell]; done) | (simp [World.setCell]; omega)))) | ((with_reducible refine Below.setCell ?_ ?_ _); (rotate_left; focus (first | with_reducible exact Nat.le_refl _ | omega | (simp; done) | (simp; omega) | (simp [World.setCell]; done) | (simp [World.setCell]; omega))))))
    clear hb hB HC
    go_wp2_with fail
    go_ret2
    exact ⟨0, rfl, hbel1⟩

theorem base_yes (c : Cfg) (l : List Reg) (A : Option Addr) (n nc q : Nat) (w : World) (hl : l.length = n) (hn : n ≤ nc) (hnc : nc ≤ 9223372036854775807) (hA : Reads w w.heap.size 2 A n (rows Reg.cells l)) (hok : cfgOk c l) (hq : q < n) :
    Calls Try.prog 8 #[.agg #[.int .i64 c.raw, .int .i64 c.ring, .int .i64 c.writes, .int .i64 c.stamps, .bool c.multi, .int .i64 c.tries, .slice A n nc], .int .i64 q] w fun e w' => ∃ z : Int, e = .returned (.tuple #[.int .i64 z, .int .i64 0]) ∧ Below w.heap.size w w' := by
  have HC := fun w' h => pcheck_any c l A n nc w' w.heap.size hl (by omega) h
  rw [checkF_yes hok] at HC
  have hn8 : n ≤ 8 := by have := hok.2.2.2.2.2.2.2.2.2.2.1; omega
  have e1 : decide ((q : Int) < 0) = false := by simp
  have e2 : decide ((n : Int) ≤ (q : Int)) = false := by simp; omega
  clear hok
  go_enter Try.func8, Try.ntmps8
  go_wp2_with fail
  refine (HC _ (by simp) (by exact hA.alloc (Nat.le_refl _) _)).mono ?_
  rintro e w1 ⟨rfl, hb⟩
  have hB := (Blk.new w 24 #[.int .i64 c.raw, .int .i64 c.ring, .int .i64 c.writes, .int .i64 c.stamps, .bool c.multi, .int .i64 c.tries, .slice A n nc]).below hb (by simp)
  have c0 : w1.cell? ⟨w.heap.size, 0, none⟩ = some (.int .i64 c.raw) := (hB.cell 0).trans rfl
  have c1 : w1.cell? ⟨w.heap.size, 1, none⟩ = some (.int .i64 c.ring) := (hB.cell 1).trans rfl
  have c2 : w1.cell? ⟨w.heap.size, 2, none⟩ = some (.int .i64 c.writes) := (hB.cell 2).trans rfl
  have c3 : w1.cell? ⟨w.heap.size, 3, none⟩ = some (.int .i64 c.stamps) := (hB.cell 3).trans rfl
  have c4 : w1.cell? ⟨w.heap.size, 4, none⟩ = some (.bool c.multi) := (hB.cell 4).trans rfl
  have c5 : w1.cell? ⟨w.heap.size, 5, none⟩ = some (.int .i64 c.tries) := (hB.cell 5).trans rfl
  have c6 : w1.cell? ⟨w.heap.size, 6, none⟩ = some (.slice A n nc) := (hB.cell 6).trans rfl
  have hlt0 := hB.lt
  have hbel1 : Below w.heap.size w w1 := (by refine Below.trans ?_ (hb.mono (by simp)); repeat (first | with_reducible exact Below.refl _ _ | with_reducible refine Below.drew ?_ | with_reducible refine below_drewN ?_ _ | ((with_reducible refine Below.alloc ?_ ?_ _); (rotate_left; focus (first | with_reducible exact Nat.le_refl _ | omega | (simp; done) | (simp; omega) | (simp [World.setCell]; done) | (simp [World.setCell]; omega)))) | ((with_reducible refine Below.setCell ?_ ?_ _); (rotate_left; focus (first | with_reducible exact Nat.le_refl _ | omega | (simp; done) | (simp; omega) | (simp [World.setCell]; done) | (simp [World.setCell]; omega))))))
  clear hb hB HC
  go_wp2_with fail
  refine (ahead_any c l A n nc q _ hl hn8 hn (by omega) (by exact (hA.below hbel1).more hbel1.size)).mono ?_
  rintro e w2 ⟨z, rfl, hb2⟩
  go_wp2_with fail
  go_ret2
  exact ⟨z, rfl, hbel1.trans (hb2.mono hbel1.size)⟩

theorem len64_small (x : Int) (w : World) (h0 : 0 ≤ x) (h1 : x < 256) :
    Calls Try.prog 33 #[.int .u64 x] w fun e w' => e = .returned (.int .i64 (Lib.bitLen x.toNat)) ∧ w = w' := by
  have e1 : decide (4294967296 ≤ x) = false := by simp; omega
  have e2 : decide (65536 ≤ x) = false := by simp; omega
  have e3 : decide (256 ≤ x) = false := by simp; omega
  go_enter Try.func33, Try.ntmps33
  go_wp2
  go_ret
  refine ⟨congrArg Ending.returned (congrArg (Value.int IntKind.i64) ?_), rfl⟩
  have hl := Lib.len8_of x (by omega) (by omega)
  have l := Lib.bitLen_le8' x (by omega) (by omega)
  unfold Lib.len8 at hl
  rw [getElem?_pos Lib.len8tab x.toNat (by rw [Lib.len8tab_size]; omega), Option.getD_some] at hl
  rw [hl, RowKit.wrap64, RowKit.wrap64]
  omega
theorem len_small (x : Int) (w : World) (h0 : 0 ≤ x) (h1 : x < 256) :
    Calls Try.prog 30 #[.int .u64 x] w fun e w' => e = .returned (.int .i64 (Lib.bitLen x.toNat)) ∧ w = w' := by
  have HL := len64_small x w h0 h1
  go_enter Try.func30, Try.ntmps30
  go_wp2_with fail
  refine HL.mono ?_
  rintro e w1 ⟨rfl, rfl⟩
  go_wp2_with fail
  go_ret
  exact ⟨rfl, rfl⟩

theorem minfo_int : (Try.prog.info? 3).map (fun i => (i.zero, i.size, i.bytes)) = some (some (.int .i64 0), 1, 8) := by kernel_rfl
theorem mk_int (n : Nat) (h : n ≤ 1024) (W : World) : (Instr.makeSlice 80 (.int .i64 (n : Int)) (.int .i64 (n : Int))).run Try.prog W = .ok (.slice (some ⟨W.heap.size, 0, none⟩) n n) (W.alloc (.cells (madeCells #[.int .i64 0] n) 3)) := by
  obtain ⟨i, hi, hz, hs, hb⟩ := info_parts minfo_int
  have hr := run_make (P := Try.prog) W 80 3 i _ Try.underlying80 hi hz .i64 .i64 (n : Int) (n : Int) (by omega) (by omega) (by rw [hb]; omega) (by omega)
  rw [hs, Int.toNat_natCast, Nat.mul_one] at hr
  exact hr
theorem below_new {w : World} {o : Obj} : Below w.heap.size w (w.alloc o) := (Below.refl _ _).alloc (Nat.le_refl _) _

def RelT (b g n B : Nat) (mo : Int) (u : Value) (w : World) (gk : Nat) (i : Value) (wr : World) : Prop :=
  ∃ (k : Nat) (cs : Array Value), i = .int .i64 k ∧ k ≤ n ∧ gk = n - k ∧ Blk wr b 83 #[.int .i64 mo, .slice (some ⟨g, 0, none⟩) n n, .slice none 0 0, u] ∧ Blk wr g 3 cs ∧ cs.size = n ∧ Below B w wr

theorem clear_any (b g n B : Nat) (mo : Int) (tl u : Value) (w : World) (hn : n ≤ 64) (hb0 : B ≤ b) (hg0 : B ≤ g) (hb : Blk w b 83 #[.int .i64 mo, .slice (some ⟨g, 0, none⟩) n n, tl, u]) (cs : Array Value) (hg : Blk w g 3 cs) (hcs : cs.size = n) :
    Calls Try.prog 31 #[.pointer (some ⟨b, 0, none⟩)] w fun e w' => e = .returned (.tuple #[]) ∧ Below B w w' := by
  have c1 : w.cell? ⟨b, 1, none⟩ = some (.slice (some ⟨g, 0, none⟩) n n) := (hb.cell 1).trans rfl
  have c2 : w.cell? ⟨b, 2, none⟩ = some tl := (hb.cell 2).trans rfl
  have f2 : w.frozen? ⟨b, 2, none⟩ = false := hb.frozen 2
  have hbg : g ≠ b := hg.ne_ hb (by decide)
  have hlt := hb.lt
  have hB2 := hb.set_ 2 (.slice none 0 0)
  have hG2 := hg.far (p := ⟨b, 2, none⟩) hbg (.slice none 0 0)
  clear hb hg
  go_enter Try.func31, Try.ntmps31
  go_wp2_with fail
  clear c1 c2 f2
  go_loopg [13] n (fun gk i wr => RelT b g n B mo u w gk i wr)
  case atStart => exact ⟨0, cs, rfl, Nat.zero_le _, rfl, hB2, hG2, hcs, (Below.refl _ _).setCell hb0 _⟩
  case round =>
    obtain ⟨k, cs', rfl, hk, hgk, hBr, hGr, hsz, hbel⟩ := hrel
    have HG := Lib.hid hgk
    have c1 : wr.cell? ⟨b, 1, none⟩ = some (.slice (some ⟨g, 0, none⟩) n n) := (hBr.cell 1).trans rfl
    have hltr := hBr.lt
    have hltg := hGr.lt
    clear hgk
    by_cases hkn : k < n
    · have ck : wr.cell? ⟨g, k, none⟩ = some (cs'[k]'(by omega)) := by rw [hGr.cell]; exact Array.getElem?_eq_getElem (by omega)
      have fk : wr.frozen? ⟨g, k, none⟩ = false := hGr.frozen k
      obtain ⟨old, hold⟩ : ∃ z, z = cs'[k]'(by omega) := ⟨_, rfl⟩
      rw [← hold] at ck
      clear hold
      go_wp2_with fail
      go_roundg (n - (k + 1))
      case measure => have := HG.out; omega
      case rel => exact ⟨k + 1, _, by go_num, by omega, rfl, hBr.far (p := ⟨g, k, none⟩) (Ne.symm hbg) _, hGr.set_ k _, by simp [hsz], hbel.setCell hg0 _⟩
    · obtain rfl : k = n := by omega
      go_wp2_with fail
      go_end0
      exact ⟨rfl, hbel⟩

theorem bitLen_small : ∀ m : Nat, m ≤ 24 → Lib.bitLen (2 * m - 1) ≤ 6 := by decide

set_option maxHeartbeats 2000000 in
theorem table_new (m : Nat) (w : World) (h1 : 1 ≤ m) (h2 : m ≤ 24) :
    Calls Try.prog 29 #[.int .i64 m] w fun e w' => ∃ p : Addr, e = .returned (.tuple #[.pointer (some p), .int .i64 0]) ∧ Below w.heap.size w w' := by
  have e1 : decide ((m : Int) < 1) = false := by simp; omega
  have e2 : decide (24 < (m : Int)) = false := by simp; omega
  have e3 : IntKind.u64.wrap (2 * (m : Int) - 1) = 2 * (m : Int) - 1 := IntWalk.u64_in _ ⟨by omega, by omega⟩
  have hb := bitLen_small m h2
  have HB := len_small (2 * (m : Int) - 1)
  rw [show (2 * (m : Int) - 1).toNat = 2 * m - 1 by omega] at HB
  obtain ⟨L, hL⟩ : ∃ L, L = Lib.bitLen (2 * m - 1) := ⟨_, rfl⟩
  rw [← hL] at hb HB
  clear hL
  rcases show L = 0 ∨ L = 1 ∨ L = 2 ∨ L = 3 ∨ L = 4 ∨ L = 5 ∨ L = 6 by omega with rfl | rfl | rfl | rfl | rfl | rfl | rfl
  case' inl => (have hmk : ∀ W : World, (Instr.makeSlice 80 (.int .i64 1) (.int .i64 1)).run Try.prog W = .ok (.slice (some ⟨W.heap.size, 0, none⟩) 1 1) (W.alloc (.cells (madeCells #[.int .i64 0] 1) 3)) := mk_int 1 (by omega); (go_enter Try.func29, Try.ntmps29); go_wp2_with fail; (refine (HB _ (by omega) (by omega)).mono ?_); (rintro e w1 ⟨rfl, rfl⟩); go_wp2_with fail; (refine (clear_any (w.heap.size + 1) w.heap.size 1 w.heap.size m (.slice none 0 0) _ _ (by omega) (by omega) (by omega) (by exact Blk.new' (by simp)) _ (by exact (Blk.new w _ _).alloc _) (by simp [madeCells])).mono ?_); (rintro e w2 ⟨rfl, hb2⟩); go_wp2_with fail; go_ret2; exact ⟨_, rfl, (below_new.trans (below_new.mono (by simp))).trans hb2⟩)
  case' inr.inl => (have hmk : ∀ W : World, (Instr.makeSlice 80 (.int .i64 2) (.int .i64 2)).run Try.prog W = .ok (.slice (some ⟨W.heap.size, 0, none⟩) 2 2) (W.alloc (.cells (madeCells #[.int .i64 0] 2) 3)) := mk_int 2 (by omega); (go_enter Try.func29, Try.ntmps29); go_wp2_with fail; (refine (HB _ (by omega) (by omega)).mono ?_); (rintro e w1 ⟨rfl, rfl⟩); go_wp2_with fail; (refine (clear_any (w.heap.size + 1) w.heap.size 2 w.heap.size m (.slice none 0 0) _ _ (by omega) (by omega) (by omega) (by exact Blk.new' (by simp)) _ (by exact (Blk.new w _ _).alloc _) (by simp [madeCells])).mono ?_); (rintro e w2 ⟨rfl, hb2⟩); go_wp2_with fail; go_ret2; exact ⟨_, rfl, (below_new.trans (below_new.mono (by simp))).trans hb2⟩)
  case' inr.inr.inl => (have hmk : ∀ W : World, (Instr.makeSlice 80 (.int .i64 4) (.int .i64 4)).run Try.prog W = .ok (.slice (some ⟨W.heap.size, 0, none⟩) 4 4) (W.alloc (.cells (madeCells #[.int .i64 0] 4) 3)) := mk_int 4 (by omega); (go_enter Try.func29, Try.ntmps29); go_wp2_with fail; (refine (HB _ (by omega) (by omega)).mono ?_); (rintro e w1 ⟨rfl, rfl⟩); go_wp2_with fail; (refine (clear_any (w.heap.size + 1) w.heap.size 4 w.heap.size m (.slice none 0 0) _ _ (by omega) (by omega) (by omega) (by exact Blk.new' (by simp)) _ (by exact (Blk.new w _ _).alloc _) (by simp [madeCells])).mono ?_); (rintro e w2 ⟨rfl, hb2⟩); go_wp2_with fail; go_ret2; exact ⟨_, rfl, (below_new.trans (below_new.mono (by simp))).trans hb2⟩)
  case' inr.inr.inr.inl => (have hmk : ∀ W : World, (Instr.makeSlice 80 (.int .i64 8) (.int .i64 8)).run Try.prog W = .ok (.slice (some ⟨W.heap.size, 0, none⟩) 8 8) (W.alloc (.cells (madeCells #[.int .i64 0] 8) 3)) := mk_int 8 (by omega); (go_enter Try.func29, Try.ntmps29); go_wp2_with fail; (refine (HB _ (by omega) (by omega)).mono ?_); (rintro e w1 ⟨rfl, rfl⟩); go_wp2_with fail; (refine (clear_any (w.heap.size + 1) w.heap.size 8 w.heap.size m (.slice none 0 0) _ _ (by omega) (by omega) (by omega) (by exact Blk.new' (by simp)) _ (by exact (Blk.new w _ _).alloc _) (by simp [madeCells])).mono ?_); (rintro e w2 ⟨rfl, hb2⟩); go_wp2_with fail; go_ret2; exact ⟨_, rfl, (below_new.trans (below_new.mono (by simp))).trans hb2⟩)
  case' inr.inr.inr.inr.inl => (have hmk : ∀ W : World, (Instr.makeSlice 80 (.int .i64 16) (.int .i64 16)).run Try.prog W = .ok (.slice (some ⟨W.heap.size, 0, none⟩) 16 16) (W.alloc (.cells (madeCells #[.int .i64 0] 16) 3)) := mk_int 16 (by omega); (go_enter Try.func29, Try.ntmps29); go_wp2_with fail; (refine (HB _ (by omega) (by omega)).mono ?_); (rintro e w1 ⟨rfl, rfl⟩); go_wp2_with fail; (refine (clear_any (w.heap.size + 1) w.heap.size 16 w.heap.size m (.slice none 0 0) _ _ (by omega) (by omega) (by omega) (by exact Blk.new' (by simp)) _ (by exact (Blk.new w _ _).alloc _) (by simp [madeCells])).mono ?_); (rintro e w2 ⟨rfl, hb2⟩); go_wp2_with fail; go_ret2; exact ⟨_, rfl, (below_new.trans (below_new.mono (by simp))).trans hb2⟩)
  case' inr.inr.inr.inr.inr.inl => (have hmk : ∀ W : World, (Instr.makeSlice 80 (.int .i64 32) (.int .i64 32)).run Try.prog W = .ok (.slice (some ⟨W.heap.size, 0, none⟩) 32 32) (W.alloc (.cells (madeCells #[.int .i64 0] 32) 3)) := mk_int 32 (by omega); (go_enter Try.func29, Try.ntmps29); go_wp2_with fail; (refine (HB _ (by omega) (by omega)).mono ?_); (rintro e w1 ⟨rfl, rfl⟩); go_wp2_with fail; (refine (clear_any (w.heap.size + 1) w.heap.size 32 w.heap.size m (.slice none 0 0) _ _ (by omega) (by omega) (by omega) (by exact Blk.new' (by simp)) _ (by exact (Blk.new w _ _).alloc _) (by simp [madeCells])).mono ?_); (rintro e w2 ⟨rfl, hb2⟩); go_wp2_with fail; go_ret2; exact ⟨_, rfl, (below_new.trans (below_new.mono (by simp))).trans hb2⟩)
  case' inr.inr.inr.inr.inr.inr => (have hmk : ∀ W : World, (Instr.makeSlice 80 (.int .i64 64) (.int .i64 64)).run Try.prog W = .ok (.slice (some ⟨W.heap.size, 0, none⟩) 64 64) (W.alloc (.cells (madeCells #[.int .i64 0] 64) 3)) := mk_int 64 (by omega); (go_enter Try.func29, Try.ntmps29); go_wp2_with fail; (refine (HB _ (by omega) (by omega)).mono ?_); (rintro e w1 ⟨rfl, rfl⟩); go_wp2_with fail; (refine (clear_any (w.heap.size + 1) w.heap.size 64 w.heap.size m (.slice none 0 0) _ _ (by omega) (by omega) (by omega) (by exact Blk.new' (by simp)) _ (by exact (Blk.new w _ _).alloc _) (by simp [madeCells])).mono ?_); (rintro e w2 ⟨rfl, hb2⟩); go_wp2_with fail; go_ret2; exact ⟨_, rfl, (below_new.trans (below_new.mono (by simp))).trans hb2⟩)

theorem txlog_new (m : Nat) (w : World) (h1 : 1 ≤ m) (h2 : m ≤ 24) :
    Calls Try.prog 19 #[.int .i64 m] w fun e w' => ∃ p : Addr, e = .returned (.tuple #[.pointer (some p), .int .i64 0]) ∧ Below w.heap.size w w' := by
  have HT := table_new m w h1 h2
  go_enter Try.func19, Try.ntmps19
  go_wp2_with fail
  refine HT.mono ?_
  rintro e w1 ⟨p, rfl, hb⟩
  go_wp2_with fail
  go_ret2
  have hs := hb.size
  exact ⟨_, rfl, by repeat (first | with_reducible exact hb | with_reducible refine Below.drew ?_ | with_reducible refine below_drewN ?_ _ | ((with_reducible refine Below.alloc ?_ ?_ _); (rotate_left; focus (first | with_reducible exact Nat.le_refl _ | omega | (simp; done) | (simp; omega) | (simp [World.setCell]; done) | (simp [World.setCell]; omega)))) | ((with_reducible refine Below.setCell ?_ ?_ _); (rotate_left; focus (first | with_reducible exact Nat.le_refl _ | omega | (simp; done) | (simp; omega) | (simp [World.setCell]; done) | (simp [World.setCell]; omega)))))⟩

set_option maxHeartbeats 2000000 in
theorem core_new (raw ring stamps tries : Int) (m : Nat) (mu : Bool) (rv : Value) (w : World) (h1 : 1 ≤ m) (h2 : m ≤ 24) (r1 : 1 ≤ ring) (r2 : ring ≤ 16) (s1 : 1 ≤ stamps) (s2 : stamps ≤ 1099511627776) :
    Calls Try.prog 14 #[.agg #[.int .i64 raw, .int .i64 ring, .int .i64 m, .int .i64 stamps, .bool mu, .int .i64 tries, rv]] w fun e w' => ∃ p : Addr, e = .returned (.tuple #[.pointer (some p), .int .i64 0]) ∧ Below w.heap.size w w' := by
  have e1 : decide (ring < 1) = false := by simp; omega
  have e2 : decide (16 < ring) = false := by simp; omega
  have e3 : decide (stamps < 1) = false := by simp; omega
  have e4 : decide (1099511627776 < stamps) = false := by simp; omega
  have HT := fun w => txlog_new m w h1 h2
  go_enter Try.func14, Try.ntmps14
  go_wp2_with fail
  refine (HT _).mono ?_
  rintro e w1 ⟨p, rfl, hb⟩
  have hB := (Blk.new w 24 #[.int .i64 raw, .int .i64 ring, .int .i64 m, .int .i64 stamps, .bool mu, .int .i64 tries, rv]).below hb (by simp)
  have c1 : w1.cell? ⟨w.heap.size, 1, none⟩ = some (.int .i64 ring) := (hB.cell 1).trans rfl
  have c2 : w1.cell? ⟨w.heap.size, 2, none⟩ = some (.int .i64 m) := (hB.cell 2).trans rfl
  have c3 : w1.cell? ⟨w.heap.size, 3, none⟩ = some (.int .i64 stamps) := (hB.cell 3).trans rfl
  have c4 : w1.cell? ⟨w.heap.size, 4, none⟩ = some (.bool mu) := (hB.cell 4).trans rfl
  have hlt0 := hB.lt
  have hbel1 : Below w.heap.size w w1 := (by refine Below.trans ?_ (hb.mono (by simp)); repeat (first | with_reducible exact Below.refl _ _ | with_reducible refine Below.drew ?_ | with_reducible refine below_drewN ?_ _ | ((with_reducible refine Below.alloc ?_ ?_ _); (rotate_left; focus (first | with_reducible exact Nat.le_refl _ | omega | (simp; done) | (simp; omega) | (simp [World.setCell]; done) | (simp [World.setCell]; omega)))) | ((with_reducible refine Below.setCell ?_ ?_ _); (rotate_left; focus (first | with_reducible exact Nat.le_refl _ | omega | (simp; done) | (simp; omega) | (simp [World.setCell]; done) | (simp [World.setCell]; omega))))))
  have hs := hbel1.size
  clear hb hB HT
  go_wp2_with fail
  go_ret2
  exact ⟨_, rfl, by repeat (first | with_reducible exact hbel1 | with_reducible refine Below.drew ?_ | with_reducible refine below_drewN ?_ _ | ((with_reducible refine Below.alloc ?_ ?_ _); (rotate_left; focus (first | with_reducible exact Nat.le_refl _ | omega | (simp; done) | (simp; omega) | (simp [World.setCell]; done) | (simp [World.setCell]; omega)))) | ((with_reducible refine Below.setCell ?_ ?_ _); (rotate_left; focus (first | with_reducible exact Nat.le_refl _ | omega | (simp; done) | (simp; omega) | (simp [World.setCell]; done) | (simp [World.setCell]; omega)))))⟩
end Go.Proofs.Ytoeldbccjhlioaa
