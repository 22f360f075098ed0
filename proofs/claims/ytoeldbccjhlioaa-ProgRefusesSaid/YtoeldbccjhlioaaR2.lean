/- What a job's New does; the law's row. -/
import Derived.Test.YtoeldbccjhlioaaR1
import Derived.Lib.SliceRun
import Derived.Deep.RegionLaw
import Derived.Deep.AppendLies
import Derived.Deep.Cut
import Derived.Deep.CutRange
namespace Go.Proofs.Ytoeldbccjhlioaa
open Go.RowKit Go.Joins Go.ChangeShapes Go.WideShapes Go.Deep
set_option linter.unusedVariables false
set_option maxRecDepth 100000

theorem minfo_i64 : (Try.prog.info? 2).map (fun i => (i.zero, i.size, i.bytes)) = some (some (.int .i64 0), 1, 8) := by kernel_rfl
theorem ints_one (l : List Int) : ∀ u ∈ ints l, u.oneCell' = true := by
  intro u hu
  simp [ints] at hu
  obtain ⟨a, _, rfl⟩ := hu
  rfl
/-- An owned row as a slice that reads. -/
theorem own_shape {w : World} {B e n size : Nat} {v : Value} {xs : List Value} (h : w.ownsRow B e size v n xs) : ∃ R c, v = .slice R n c ∧ n ≤ c ∧ Reads w w.heap.size size R n xs := by
  rcases h.2 with ⟨rfl, rfl⟩ | ⟨g, cap, cur, rfl, hg, hh, hn, _⟩
  · exact ⟨none, 0, rfl, Nat.le_refl _, Reads.of_own h⟩
  · exact ⟨_, cap, rfl, hn, Reads.of_own h⟩
/-- A clone: some slice, in memory of its own. -/
theorem clone_any (A : Option Addr) (n nc : Nat) (zs : List Int) (w : World) (hn : n ≤ 4) (hA : Reads w w.heap.size 1 A n (ints zs)) :
    Calls Try.prog 7 #[.slice A n nc] w fun e w' => ∃ V k kc, e = .returned (.slice V k kc) ∧ Below w.heap.size w w' := by
  have heq := fun w => Lib.run_eql_slice_nil (P := Try.prog) w 25 2 A n nc 0 0 Try.underlying25
  obtain ⟨i0, hi0, hz0, hz1, hz2⟩ := info_parts minfo_i64
  cases A with
  | none =>
    have heq' : ∀ w, (binOp .eql 25 (.slice none n nc) (.slice none 0 0)).run Try.prog w = .ok (.bool true) w := heq
    clear heq
    go_enter Try.func7, Try.ntmps7
    go_wp2_with fail
    go_ret
    exact ⟨_, _, _, rfl, Below.refl _ _⟩
  | some a =>
    have heq' : ∀ w, (binOp .eql 25 (.slice (some a) n nc) (.slice none 0 0)).run Try.prog w = .ok (.bool false) w := heq
    have h63 : 0 + n ≤ maxLen := by unfold maxLen; omega
    have hby : (0 + n) * 8 ≤ 140737488355328 := by omega
    have hown : (w.alloc (.cells #[] 2)).ownsRow w.heap.size 2 1 (.slice (some ⟨w.heap.size, 0, none⟩) 0 0) 0 [] := World.ownsRow_lit w #[] 0 (Nat.le_refl _) (Nat.zero_le _) rfl
    clear heq
    go_enter Try.func7, Try.ntmps7
    go_wp2_with (at_builtin; go_must (refine wpList_append_any _ rfl _ _ 25 rfl w.heap.size 2 i0 _ 1 8 Try.underlying25 hi0 hz0 hz1 hz2 rfl (by omega) _ 0 [] (by rfl) hown (w.alloc (.cells #[] 2)).heap.size (some a) n nc (ints zs) (by rfl) ((hA.alloc (Nat.le_refl _) _).more (by simp)) (ints_one _) h63 hby (by simp) ?_; intro v' w1 hown1 hgrow _))
    obtain ⟨V, kc, rfl, _, _⟩ := own_shape hown1
    go_ret
    exact ⟨_, _, _, rfl, (below_new (w := w)).trans ⟨hgrow.os, hgrow.tape, hgrow.output, hgrow.size, fun q hq => hgrow.block q (by simp; omega) (fun e => by simp [Value.ownBlock] at e; omega)⟩⟩

theorem told_nil (w : World) : Calls Try.prog 13 #[.pointer none, .int .i64 0] w fun e w' => e = .returned (.slice none 0 0) ∧ w = w' := by
  go_enter Try.func13, Try.ntmps13
  go_wp2
  go_ret
  exact ⟨rfl, rfl⟩

theorem refuses_any (c : Cfg) (l : List Reg) (A : Option Addr) (n nc : Nat) (t : ByteArray) (B : Option Addr) (m mc : Nat) (w : World) (hl : l.length = n) (hn : n ≤ nc) (hnc : nc ≤ 9223372036854775807) (hA : Reads w w.heap.size 2 A n (rows Reg.cells l)) :
    Calls Try.prog 5 #[.agg #[.int .i64 c.raw, .int .i64 c.ring, .int .i64 c.writes, .int .i64 c.stamps, .bool c.multi, .int .i64 c.tries, .slice A n nc], .string t, .slice B m mc] w fun e w' =>
      e = .returned (.int .i64 (if cfgOk c l then (if 512 < t.size ∨ 4 < m then 1 else 0) else 13)) ∧ Below w.heap.size w w' := by
  have HC := fun w' h => rcheck_any c l A n nc w' w.heap.size hl (by omega) h
  by_cases hok : cfgOk c l
  · rw [checkF_yes hok] at HC
    rw [if_pos hok]
    clear hok
    by_cases h1 : 512 < t.size
    · have e1 : decide ((512 : Int) < (t.size : Int)) = true := by simp; omega
      rw [if_pos (.inl h1)]
      clear h1
      go_enter Try.func5, Try.ntmps5
      go_wp2_with fail
      refine (HC _ (by simp) (by exact hA.alloc (Nat.le_refl _) _)).mono ?_
      rintro e w1 ⟨rfl, hb⟩
      have hB := (Blk.new w 24 #[.int .i64 c.raw, .int .i64 c.ring, .int .i64 c.writes, .int .i64 c.stamps, .bool c.multi, .int .i64 c.tries, .slice A n nc]).below hb (by simp)
      have c0 : w1.cell? ⟨w.heap.size, 0, none⟩ = some (.int .i64 c.raw) := (hB.cell 0).trans rfl
      have c1 : w1.cell? ⟨w.heap.size, 1, none⟩ = some (.int .i64 c.ring) := (hB.cell 1).trans rfl
      have c2 : w1.cell? ⟨w.heap.size, 2, none⟩ = some (.int .i64 c.writes) := (hB.cell 2).trans rfl
      have c3 : w1.cell? ⟨w.heap.size, 3, none⟩ = some (.int .i64 c.stamps) := (hB.cell 3).trans rfl
      have c4 : w1.cell? ⟨w.heap.size, 4, none⟩ = some (.bool c.multi) := (hB.cell 4).trans rfl
      have c5 : w1.cell? ⟨w.heap.size, 5, none⟩ = some (.int .i64 c.tries) := (hB.cell 5).trans rfl
      have c6 : w1.cell? ⟨w.heap.size, 6, none⟩ = some (.slice A n nc) := (hB.cell 6).trans rfl
      have hlt0 := hB.lt
      have hbel1 : Below w.heap.size w w1 := (by refine Below.trans ?_ (hb.mono (by simp)); repeat (first | with_reducible exact Below.refl _ _ | with_reducible refine Below.drew ?_ | with_reducible refine below_drewN ?_ _ | ((with_reducible refine Below.alloc ?_ ?_ _); (rotate_left; focus (first | with_reducible exact Nat.le_refl _ | omega | (simp; done) | (simp; omega) | (simp [World.setCell]; done) | (simp [World.setCell]; omega)))) | ((with_reducible refine Below.setCell ?_ ?_ _); (rotate_left; focus (first | with_reducible exact Nat.le_refl _ | omega | (simp; done) | (simp; omega) | (simp [World.setCell]; done) | (simp [World.setCell]; omega))))))
      clear hb hB HC
      go_wp2_with fail
      go_ret
      exact ⟨rfl, hbel1⟩
    · have e1 : decide ((512 : Int) < (t.size : Int)) = false := by simp; omega
      by_cases h2 : 4 < m
      · have e2 : decide ((4 : Int) < (m : Int)) = true := by simp; omega
        rw [if_pos (.inr h2)]
        clear h1 h2
        go_enter Try.func5, Try.ntmps5
        go_wp2_with fail
        refine (HC _ (by simp) (by exact hA.alloc (Nat.le_refl _) _)).mono ?_
        rintro e w1 ⟨rfl, hb⟩
        have hB := (Blk.new w 24 #[.int .i64 c.raw, .int .i64 c.ring, .int .i64 c.writes, .int .i64 c.stamps, .bool c.multi, .int .i64 c.tries, .slice A n nc]).below hb (by simp)
        have c0 : w1.cell? ⟨w.heap.size, 0, none⟩ = some (.int .i64 c.raw) := (hB.cell 0).trans rfl
        have c1 : w1.cell? ⟨w.heap.size, 1, none⟩ = some (.int .i64 c.ring) := (hB.cell 1).trans rfl
        have c2 : w1.cell? ⟨w.heap.size, 2, none⟩ = some (.int .i64 c.writes) := (hB.cell 2).trans rfl
        have c3 : w1.cell? ⟨w.heap.size, 3, none⟩ = some (.int .i64 c.stamps) := (hB.cell 3).trans rfl
        have c4 : w1.cell? ⟨w.heap.size, 4, none⟩ = some (.bool c.multi) := (hB.cell 4).trans rfl
        have c5 : w1.cell? ⟨w.heap.size, 5, none⟩ = some (.int .i64 c.tries) := (hB.cell 5).trans rfl
        have c6 : w1.cell? ⟨w.heap.size, 6, none⟩ = some (.slice A n nc) := (hB.cell 6).trans rfl
        have hlt0 := hB.lt
        have hbel1 : Below w.heap.size w w1 := (by refine Below.trans ?_ (hb.mono (by simp)); repeat (first | with_reducible exact Below.refl _ _ | with_reducible refine Below.drew ?_ | with_reducible refine below_drewN ?_ _ | ((with_reducible refine Below.alloc ?_ ?_ _); (rotate_left; focus (first | with_reducible exact Nat.le_refl _ | omega | (simp; done) | (simp; omega) | (simp [World.setCell]; done) | (simp [World.setCell]; omega)))) | ((with_reducible refine Below.setCell ?_ ?_ _); (rotate_left; focus (first | with_reducible exact Nat.le_refl _ | omega | (simp; done) | (simp; omega) | (simp [World.setCell]; done) | (simp [World.setCell]; omega))))))
        clear hb hB HC
        go_wp2_with fail
        go_ret
        exact ⟨rfl, hbel1⟩
      · have e2 : decide ((4 : Int) < (m : Int)) = false := by simp; omega
        rw [if_neg (by omega)]
        clear h1 h2
        go_enter Try.func5, Try.ntmps5
        go_wp2_with fail
        refine (HC _ (by simp) (by exact hA.alloc (Nat.le_refl _) _)).mono ?_
        rintro e w1 ⟨rfl, hb⟩
        have hB := (Blk.new w 24 #[.int .i64 c.raw, .int .i64 c.ring, .int .i64 c.writes, .int .i64 c.stamps, .bool c.multi, .int .i64 c.tries, .slice A n nc]).below hb (by simp)
        have c0 : w1.cell? ⟨w.heap.size, 0, none⟩ = some (.int .i64 c.raw) := (hB.cell 0).trans rfl
        have c1 : w1.cell? ⟨w.heap.size, 1, none⟩ = some (.int .i64 c.ring) := (hB.cell 1).trans rfl
        have c2 : w1.cell? ⟨w.heap.size, 2, none⟩ = some (.int .i64 c.writes) := (hB.cell 2).trans rfl
        have c3 : w1.cell? ⟨w.heap.size, 3, none⟩ = some (.int .i64 c.stamps) := (hB.cell 3).trans rfl
        have c4 : w1.cell? ⟨w.heap.size, 4, none⟩ = some (.bool c.multi) := (hB.cell 4).trans rfl
        have c5 : w1.cell? ⟨w.heap.size, 5, none⟩ = some (.int .i64 c.tries) := (hB.cell 5).trans rfl
        have c6 : w1.cell? ⟨w.heap.size, 6, none⟩ = some (.slice A n nc) := (hB.cell 6).trans rfl
        have hlt0 := hB.lt
        have hbel1 : Below w.heap.size w w1 := (by refine Below.trans ?_ (hb.mono (by simp)); repeat (first | with_reducible exact Below.refl _ _ | with_reducible refine Below.drew ?_ | with_reducible refine below_drewN ?_ _ | ((with_reducible refine Below.alloc ?_ ?_ _); (rotate_left; focus (first | with_reducible exact Nat.le_refl _ | omega | (simp; done) | (simp; omega) | (simp [World.setCell]; done) | (simp [World.setCell]; omega)))) | ((with_reducible refine Below.setCell ?_ ?_ _); (rotate_left; focus (first | with_reducible exact Nat.le_refl _ | omega | (simp; done) | (simp; omega) | (simp [World.setCell]; done) | (simp [World.setCell]; omega))))))
        clear hb hB HC
        go_wp2_with fail
        go_ret
        exact ⟨rfl, hbel1⟩
  · rw [checkF_no hok] at HC
    rw [if_neg hok]
    clear hok
    go_enter Try.func5, Try.ntmps5
    go_wp2_with fail
    refine (HC _ (by simp) (by exact hA.alloc (Nat.le_refl _) _)).mono ?_
    rintro e w1 ⟨rfl, hb⟩
    have hB := (Blk.new w 24 #[.int .i64 c.raw, .int .i64 c.ring, .int .i64 c.writes, .int .i64 c.stamps, .bool c.multi, .int .i64 c.tries, .slice A n nc]).below hb (by simp)
    have c0 : w1.cell? ⟨w.heap.size, 0, none⟩ = some (.int .i64 c.raw) := (hB.cell 0).trans rfl
    have c1 : w1.cell? ⟨w.heap.size, 1, none⟩ = some (.int .i64 c.ring) := (hB.cell 1).trans rfl
    have c2 : w1.cell? ⟨w.heap.size, 2, none⟩ = some (.int .i64 c.writes) := (hB.cell 2).trans rfl
    have c3 : w1.cell? ⟨w.heap.size, 3, none⟩ = some (.int .i64 c.stamps) := (hB.cell 3).trans rfl
    have c4 : w1.cell? ⟨w.heap.size, 4, none⟩ = some (.bool c.multi) := (hB.cell 4).trans rfl
    have c5 : w1.cell? ⟨w.heap.size, 5, none⟩ = some (.int .i64 c.tries) := (hB.cell 5).trans rfl
    have c6 : w1.cell? ⟨w.heap.size, 6, none⟩ = some (.slice A n nc) := (hB.cell 6).trans rfl
    have hlt0 := hB.lt
    have hbel1 : Below w.heap.size w w1 := (by refine Below.trans ?_ (hb.mono (by simp)); repeat (first | with_reducible exact Below.refl _ _ | with_reducible refine Below.drew ?_ | with_reducible refine below_drewN ?_ _ | ((with_reducible refine Below.alloc ?_ ?_ _); (rotate_left; focus (first | with_reducible exact Nat.le_refl _ | omega | (simp; done) | (simp; omega) | (simp [World.setCell]; done) | (simp [World.setCell]; omega)))) | ((with_reducible refine Below.setCell ?_ ?_ _); (rotate_left; focus (first | with_reducible exact Nat.le_refl _ | omega | (simp; done) | (simp; omega) | (simp [World.setCell]; done) | (simp [World.setCell]; omega))))))
    clear hb hB HC
    go_wp2_with fail
    go_ret
    exact ⟨rfl, hbel1⟩

theorem jnew_no (c : Cfg) (l : List Reg) (A : Option Addr) (n nc : Nat) (t : ByteArray) (B : Option Addr) (m mc : Nat) (w : World) (hl : l.length = n) (hn : n ≤ nc) (hnc : nc ≤ 9223372036854775807) (hA : Reads w w.heap.size 2 A n (rows Reg.cells l)) (hno : ¬ cfgOk c l) :
    Calls Try.prog 4 #[.agg #[.int .i64 c.raw, .int .i64 c.ring, .int .i64 c.writes, .int .i64 c.stamps, .bool c.multi, .int .i64 c.tries, .slice A n nc], .string t, .slice B m mc] w fun e w' => e = .returned (.tuple #[.pointer none, .int .i64 13]) ∧ Below w.heap.size w w' := by
  have HC := fun w' h => cells_any c l A n nc w' hl hn hnc h
  rw [checkF_no hno] at HC
  clear hno
  go_enter Try.func4, Try.ntmps4
  go_wp2_with fail
  refine (HC _ (by exact (hA.alloc (Nat.le_refl _) _).more (by simp))).mono ?_
  rintro e w1 ⟨z, rfl, hb⟩
  have hB := (Blk.new w 24 #[.int .i64 c.raw, .int .i64 c.ring, .int .i64 c.writes, .int .i64 c.stamps, .bool c.multi, .int .i64 c.tries, .slice A n nc]).below hb (by simp)
  have c0 : w1.cell? ⟨w.heap.size, 0, none⟩ = some (.int .i64 c.raw) := (hB.cell 0).trans rfl
  have c1 : w1.cell? ⟨w.heap.size, 1, none⟩ = some (.int .i64 c.ring) := (hB.cell 1).trans rfl
  have c2 : w1.cell? ⟨w.heap.size, 2, none⟩ = some (.int .i64 c.writes) := (hB.cell 2).trans rfl
  have c3 : w1.cell? ⟨w.heap.size, 3, none⟩ = some (.int .i64 c.stamps) := (hB.cell 3).trans rfl
  have c4 : w1.cell? ⟨w.heap.size, 4, none⟩ = some (.bool c.multi) := (hB.cell 4).trans rfl
  have c5 : w1.cell? ⟨w.heap.size, 5, none⟩ = some (.int .i64 c.tries) := (hB.cell 5).trans rfl
  have c6 : w1.cell? ⟨w.heap.size, 6, none⟩ = some (.slice A n nc) := (hB.cell 6).trans rfl
  have hlt0 := hB.lt
  have hbel1 : Below w.heap.size w w1 := (by refine Below.trans ?_ (hb.mono (by simp)); repeat (first | with_reducible exact Below.refl _ _ | with_reducible refine Below.drew ?_ | with_reducible refine below_drewN ?_ _ | ((with_reducible refine Below.alloc ?_ ?_ _); (rotate_left; focus (first | with_reducible exact Nat.le_refl _ | omega | (simp; done) | (simp; omega) | (simp [World.setCell]; done) | (simp [World.setCell]; omega)))) | ((with_reducible refine Below.setCell ?_ ?_ _); (rotate_left; focus (first | with_reducible exact Nat.le_refl _ | omega | (simp; done) | (simp; omega) | (simp [World.setCell]; done) | (simp [World.setCell]; omega))))))
  clear hb hB HC
  go_wp2_with fail
  go_ret2
  exact ⟨rfl, hbel1⟩

theorem jnew_arg (c : Cfg) (l : List Reg) (A : Option Addr) (n nc : Nat) (t : ByteArray) (B : Option Addr) (m mc : Nat) (w : World) (hl : l.length = n) (hn : n ≤ nc) (hnc : nc ≤ 9223372036854775807) (hA : Reads w w.heap.size 2 A n (rows Reg.cells l)) (hok : cfgOk c l) (hno : 512 < t.size ∨ 4 < m) :
    Calls Try.prog 4 #[.agg #[.int .i64 c.raw, .int .i64 c.ring, .int .i64 c.writes, .int .i64 c.stamps, .bool c.multi, .int .i64 c.tries, .slice A n nc], .string t, .slice B m mc] w fun e w' => e = .returned (.tuple #[.pointer none, .int .i64 1]) ∧ Below w.heap.size w w' := by
  have HC := fun w' h => cells_any c l A n nc w' hl hn hnc h
  rw [checkF_yes hok] at HC
  clear hok
  by_cases h1 : 512 < t.size
  · have e1 : decide ((512 : Int) < (t.size : Int)) = true := by simp; omega
    clear h1 hno
    go_enter Try.func4, Try.ntmps4
    go_wp2_with fail
    refine (HC _ (by exact (hA.alloc (Nat.le_refl _) _).more (by simp))).mono ?_
    rintro e w1 ⟨z, rfl, hb⟩
    have hB := (Blk.new w 24 #[.int .i64 c.raw, .int .i64 c.ring, .int .i64 c.writes, .int .i64 c.stamps, .bool c.multi, .int .i64 c.tries, .slice A n nc]).below hb (by simp)
    have c0 : w1.cell? ⟨w.heap.size, 0, none⟩ = some (.int .i64 c.raw) := (hB.cell 0).trans rfl
    have c1 : w1.cell? ⟨w.heap.size, 1, none⟩ = some (.int .i64 c.ring) := (hB.cell 1).trans rfl
    have c2 : w1.cell? ⟨w.heap.size, 2, none⟩ = some (.int .i64 c.writes) := (hB.cell 2).trans rfl
    have c3 : w1.cell? ⟨w.heap.size, 3, none⟩ = some (.int .i64 c.stamps) := (hB.cell 3).trans rfl
    have c4 : w1.cell? ⟨w.heap.size, 4, none⟩ = some (.bool c.multi) := (hB.cell 4).trans rfl
    have c5 : w1.cell? ⟨w.heap.size, 5, none⟩ = some (.int .i64 c.tries) := (hB.cell 5).trans rfl
    have c6 : w1.cell? ⟨w.heap.size, 6, none⟩ = some (.slice A n nc) := (hB.cell 6).trans rfl
    have hlt0 := hB.lt
    have hbel1 : Below w.heap.size w w1 := (by refine Below.trans ?_ (hb.mono (by simp)); repeat (first | with_reducible exact Below.refl _ _ | with_reducible refine Below.drew ?_ | with_reducible refine below_drewN ?_ _ | ((with_reducible refine Below.alloc ?_ ?_ _); (rotate_left; focus (first | with_reducible exact Nat.le_refl _ | omega | (simp; done) | (simp; omega) | (simp [World.setCell]; done) | (simp [World.setCell]; omega)))) | ((with_reducible refine Below.setCell ?_ ?_ _); (rotate_left; focus (first | with_reducible exact Nat.le_refl _ | omega | (simp; done) | (simp; omega) | (simp [World.setCell]; done) | (simp [World.setCell]; omega))))))
    clear hb hB HC
    go_wp2_with fail
    go_ret2
    exact ⟨rfl, hbel1⟩
  · have e1 : decide ((512 : Int) < (t.size : Int)) = false := by simp; omega
    have e2 : decide ((4 : Int) < (m : Int)) = true := by simp; omega
    clear h1 hno
    go_enter Try.func4, Try.ntmps4
    go_wp2_with fail
    refine (HC _ (by exact (hA.alloc (Nat.le_refl _) _).more (by simp))).mono ?_
    rintro e w1 ⟨z, rfl, hb⟩
    have hB := (Blk.new w 24 #[.int .i64 c.raw, .int .i64 c.ring, .int .i64 c.writes, .int .i64 c.stamps, .bool c.multi, .int .i64 c.tries, .slice A n nc]).below hb (by simp)
    have c0 : w1.cell? ⟨w.heap.size, 0, none⟩ = some (.int .i64 c.raw) := (hB.cell 0).trans rfl
    have c1 : w1.cell? ⟨w.heap.size, 1, none⟩ = some (.int .i64 c.ring) := (hB.cell 1).trans rfl
    have c2 : w1.cell? ⟨w.heap.size, 2, none⟩ = some (.int .i64 c.writes) := (hB.cell 2).trans rfl
    have c3 : w1.cell? ⟨w.heap.size, 3, none⟩ = some (.int .i64 c.stamps) := (hB.cell 3).trans rfl
    have c4 : w1.cell? ⟨w.heap.size, 4, none⟩ = some (.bool c.multi) := (hB.cell 4).trans rfl
    have c5 : w1.cell? ⟨w.heap.size, 5, none⟩ = some (.int .i64 c.tries) := (hB.cell 5).trans rfl
    have c6 : w1.cell? ⟨w.heap.size, 6, none⟩ = some (.slice A n nc) := (hB.cell 6).trans rfl
    have hlt0 := hB.lt
    have hbel1 : Below w.heap.size w w1 := (by refine Below.trans ?_ (hb.mono (by simp)); repeat (first | with_reducible exact Below.refl _ _ | with_reducible refine Below.drew ?_ | with_reducible refine below_drewN ?_ _ | ((with_reducible refine Below.alloc ?_ ?_ _); (rotate_left; focus (first | with_reducible exact Nat.le_refl _ | omega | (simp; done) | (simp; omega) | (simp [World.setCell]; done) | (simp [World.setCell]; omega)))) | ((with_reducible refine Below.setCell ?_ ?_ _); (rotate_left; focus (first | with_reducible exact Nat.le_refl _ | omega | (simp; done) | (simp; omega) | (simp [World.setCell]; done) | (simp [World.setCell]; omega))))))
    clear hb hB HC
    go_wp2_with fail
    go_ret2
    exact ⟨rfl, hbel1⟩

def mcells (c : Cfg) (rg : Value) (z : Int) (tv : Value) (t : ByteArray) (av : Value) : Array Value :=
  #[.int .i64 c.raw, .int .i64 c.ring, .int .i64 c.writes, .int .i64 c.stamps, .bool c.multi, .int .i64 c.tries, rg, .int .i64 z, tv, .string t, av, .int .i64 0, .pointer none, .bool false, .bool false, .int .i64 0, .slice none 0 0,
    .slice none 0 0, .slice none 0 0, .nilFunc, .nilIface, .int .i64 0, .slice none 0 0, .bool false, .int .i64 0]
theorem info_event : ∃ i z, Try.prog.info? 104 = some i ∧ i.zero = some z := by
  have h : (Try.prog.info? 104).map (fun i => i.zero.isSome) = some true := by kernel_rfl
  cases hi : Try.prog.info? 104 with
  | none => rw [hi] at h; cases h
  | some i =>
    rw [hi] at h
    simp at h
    obtain ⟨z, hz⟩ := Option.isSome_iff_exists.1 h
    exact ⟨i, z, rfl, hz⟩
theorem app_nil (ty : TypeId) (w : World) : (Builtin.append_ #[42, 42] ty #[.slice none 0 0, .slice none 0 0]).run Try.prog w = .ok (.slice none 0 0) w := by
  obtain ⟨i, z, hi, hz⟩ := info_event
  exact run_append_of_nil w 0 42 ty 104 i i.size Try.underlying42 hi _ 0 [] (World.ownsRow_nil _ _ _ _) 0

set_option maxHeartbeats 4000000 in
theorem again_any (c : Cfg) (l : List Reg) (z : Int) (tv av : Value) (t : ByteArray) (x B : Nat) (w : World) (hok : cfgOk c l) (hB : B ≤ x) (hx : Blk w x 44 (mcells c (.slice none 0 0) z tv t av)) :
    Calls Try.prog 9 #[.pointer (some ⟨x, 0, none⟩)] w fun e w' => e = .returned (.tuple #[]) ∧ Below B w w' := by
  obtain ⟨raw, ring, writes, stamps, multi, tries⟩ := c
  obtain ⟨-, -, h3, h4, h5, h6, h7, h8, -⟩ := hok
  simp only at h3 h4 h5 h6 h7 h8
  obtain ⟨m, rfl⟩ := Int.eq_ofNat_of_zero_le (show 0 ≤ writes by omega)
  have HT := fun w => core_new raw ring stamps tries m multi (.slice none 0 0) w (by omega) (by omega) h3 h4 h7 h8
  have c0 : w.cell? ⟨x, 0, none⟩ = some (.int .i64 raw) := (hx.cell 0).trans rfl
  have c12 : w.cell? ⟨x, 12, none⟩ = some (.pointer none) := (hx.cell 12).trans rfl
  have c22 : w.cell? ⟨x, 22, none⟩ = some (.slice none 0 0) := (hx.cell 22).trans rfl
  have f22 : w.frozen? ⟨x, 22, none⟩ = false := hx.frozen 22
  have hap := fun ty w => app_nil ty w
  have hlt := hx.lt
  have HX := Lib.hid hx
  clear hx h3 h4 h5 h6 h7 h8 c0
  go_enter Try.func9, Try.ntmps9
  go_wp2_with fail
  go_region_with (go_at_call 13; refine (told_nil _).mono ?_; rintro e w2 ⟨rfl, rfl⟩)
  all_goals
    have hx1 : Blk ((w.setCell ⟨x, 22, none⟩ (.slice none 0 0)).drew) x 44 (mcells ⟨raw, ring, m, stamps, multi, tries⟩ (.slice none 0 0) z tv t av) := HX.out.set_ 22 (.slice none 0 0)
    have hbel1 : Below B w ((w.setCell ⟨x, 22, none⟩ (.slice none 0 0)).drew) := ((Below.refl _ _).setCell hB _).drew
    have hs1 : ((w.setCell ⟨x, 22, none⟩ (.slice none 0 0)).drew).heap.size = w.heap.size := by simp [World.setCell, World.drew]
    generalize (w.setCell ⟨x, 22, none⟩ (.slice none 0 0)).drew = w1 at *
    have c0 : w1.cell? ⟨x, 0, none⟩ = some (.int .i64 raw) := (hx1.cell 0).trans rfl
    have c1 : w1.cell? ⟨x, 1, none⟩ = some (.int .i64 ring) := (hx1.cell 1).trans rfl
    have c2 : w1.cell? ⟨x, 2, none⟩ = some (.int .i64 m) := (hx1.cell 2).trans rfl
    have c3 : w1.cell? ⟨x, 3, none⟩ = some (.int .i64 stamps) := (hx1.cell 3).trans rfl
    have c4 : w1.cell? ⟨x, 4, none⟩ = some (.bool multi) := (hx1.cell 4).trans rfl
    have c5 : w1.cell? ⟨x, 5, none⟩ = some (.int .i64 tries) := (hx1.cell 5).trans rfl
    have c6 : w1.cell? ⟨x, 6, none⟩ = some (.slice none 0 0) := (hx1.cell 6).trans rfl
    have hl1 := hx1.lt
    clear c12 c22 f22
    go_wp2_with fail
    refine (HT _).mono ?_
    rintro e w2 ⟨p, rfl, hb2⟩
    have hx2 := hx1.below hb2 hl1
    have hl2 := hx2.lt
    have d11 : w2.cell? ⟨x, 11, none⟩ = some (.int .i64 0) := (hx2.cell 11).trans rfl
    have f11 : w2.frozen? ⟨x, 11, none⟩ = false := hx2.frozen 11
    have d12 : w2.cell? ⟨x, 12, none⟩ = some (.pointer none) := (hx2.cell 12).trans rfl
    have f12 : w2.frozen? ⟨x, 12, none⟩ = false := hx2.frozen 12
    have d13 : w2.cell? ⟨x, 13, none⟩ = some (.bool false) := (hx2.cell 13).trans rfl
    have f13 : w2.frozen? ⟨x, 13, none⟩ = false := hx2.frozen 13
    have d14 : w2.cell? ⟨x, 14, none⟩ = some (.bool false) := (hx2.cell 14).trans rfl
    have f14 : w2.frozen? ⟨x, 14, none⟩ = false := hx2.frozen 14
    have d15 : w2.cell? ⟨x, 15, none⟩ = some (.int .i64 0) := (hx2.cell 15).trans rfl
    have f15 : w2.frozen? ⟨x, 15, none⟩ = false := hx2.frozen 15
    have d16 : w2.cell? ⟨x, 16, none⟩ = some (.slice none 0 0) := (hx2.cell 16).trans rfl
    have f16 : w2.frozen? ⟨x, 16, none⟩ = false := hx2.frozen 16
    have d17 : w2.cell? ⟨x, 17, none⟩ = some (.slice none 0 0) := (hx2.cell 17).trans rfl
    have f17 : w2.frozen? ⟨x, 17, none⟩ = false := hx2.frozen 17
    have d18 : w2.cell? ⟨x, 18, none⟩ = some (.slice none 0 0) := (hx2.cell 18).trans rfl
    have f18 : w2.frozen? ⟨x, 18, none⟩ = false := hx2.frozen 18
    have d19 : w2.cell? ⟨x, 19, none⟩ = some .nilFunc := (hx2.cell 19).trans rfl
    have f19 : w2.frozen? ⟨x, 19, none⟩ = false := hx2.frozen 19
    have d20 : w2.cell? ⟨x, 20, none⟩ = some .nilIface := (hx2.cell 20).trans rfl
    have f20 : w2.frozen? ⟨x, 20, none⟩ = false := hx2.frozen 20
    have d21 : w2.cell? ⟨x, 21, none⟩ = some (.int .i64 0) := (hx2.cell 21).trans rfl
    have f21 : w2.frozen? ⟨x, 21, none⟩ = false := hx2.frozen 21
    have hbel2 : Below B w w2 := hbel1.trans (hb2.mono (by omega))
    clear c0 c1 c2 c3 c4 c5 c6 hx1 hx2 hb2 hbel1 HT hap HX
    have hnf : ∀ (a : Addr) (w : World) m, (store a .nilFunc m).run Try.prog w = stored Try.prog w a .nilFunc m := fun a w m => run_store Try.prog w a _ m rfl
    go_wp2_with fail
    go_end0
    refine ⟨rfl, ?_⟩
    repeat (first | with_reducible exact hbel2 | with_reducible refine Below.setCell ?_ hB _)

theorem info_jreg : (Try.prog.info? 49).map (fun i => (i.zero, i.size, i.bytes)) = some (some (.agg #[.int .i64 0, .int .i64 0, .int .i64 0]), 3, 24) := by kernel_rfl
def RelJ (w : World) (c : Cfg) (A : Option Addr) (n nc : Nat) (z : Int) (t : ByteArray) (av : Value) (x : Nat) (gk : Nat) (i : Value) (wr : World) : Prop :=
  ∃ (k : Nat) (tv : Value) (xs : List Value), i = .int .i64 k ∧ k ≤ n ∧ gk = n - k ∧ wr.ownsRow w.heap.size 49 3 tv k xs ∧ Blk wr x 44 (mcells c (.slice none 0 0) z tv t av) ∧
    Blk wr w.heap.size 24 #[.int .i64 c.raw, .int .i64 c.ring, .int .i64 c.writes, .int .i64 c.stamps, .bool c.multi, .int .i64 c.tries, .slice A n nc] ∧ Below w.heap.size w wr
theorem job_snoc {w W3 W4 w2 : World} {x k : Nat} {tv tv' : Value} {ys : List Value} {c : Cfg} {rg : Value} {z : Int} {t : ByteArray} {av : Value} {cs : Array Value} (hb : Below W3.heap.size W3 W4) (hgrow : W4.grownBy w2 tv.ownBlock)
    (hown1 : w2.ownsRow w.heap.size 49 3 tv' k ys) (ho : ∀ q, tv.ownBlock = some q → w.heap.size ≤ q) (hX : Blk W3 x 44 (mcells c rg z tv t av)) (hB : Blk W3 w.heap.size 24 cs) (hbel : Below w.heap.size w W3) (ns : tv.ownBlock ≠ some x) (nb : tv.ownBlock ≠ some w.heap.size) (hx : w.heap.size ≤ x) :
    (w2.setCell ⟨x, 8, none⟩ tv').ownsRow w.heap.size 49 3 tv' k ys ∧ Blk (w2.setCell ⟨x, 8, none⟩ tv') x 44 (mcells c rg z tv' t av) ∧ Blk (w2.setCell ⟨x, 8, none⟩ tv') w.heap.size 24 cs ∧ Below w.heap.size w (w2.setCell ⟨x, 8, none⟩ tv') := by
  have hX2 := (hX.below hb hX.lt).grown hgrow (fun e => ns e.symm)
  have hB2 := (hB.below hb hB.lt).grown hgrow (fun e => nb e.symm)
  refine ⟨ownsRow_setCell_other hown1 (a := ⟨x, 8, none⟩) (own_blk_ne hown1 hX2 (by decide)) _, hX2.set_ 8 tv', hB2.far (p := ⟨x, 8, none⟩) (hB2.ne_ hX2 (by decide)) _, Below.setCell ?_ hx _⟩
  have hs := hbel.size
  exact (hbel.trans (hb.mono hs)).trans ⟨hgrow.os, hgrow.tape, hgrow.output, hgrow.size, fun q hq => hgrow.block q (by have := hb.size; omega) (fun e => by have := ho q e.symm; omega)⟩

set_option maxHeartbeats 8000000 in
theorem jnew_yes (c : Cfg) (l : List Reg) (A : Option Addr) (n nc : Nat) (t : ByteArray) (B : Option Addr) (m mc : Nat) (zs : List Int) (w : World) (hl : l.length = n) (hn : n ≤ nc) (hnc : nc ≤ 9223372036854775807) (hA : Reads w w.heap.size 2 A n (rows Reg.cells l)) (hok : cfgOk c l) (ht : t.size ≤ 512) (hm : m ≤ 4) (hB : Reads w w.heap.size 1 B m (ints zs)) :
    Calls Try.prog 4 #[.agg #[.int .i64 c.raw, .int .i64 c.ring, .int .i64 c.writes, .int .i64 c.stamps, .bool c.multi, .int .i64 c.tries, .slice A n nc], .string t, .slice B m mc] w fun e w' => ∃ p : Addr, e = .returned (.tuple #[.pointer (some p), .int .i64 0]) ∧ Below w.heap.size w w' := by
  have HC := fun w' h => cells_any c l A n nc w' hl hn hnc h
  rw [checkF_yes hok] at HC
  have HOK := Lib.hid hok
  obtain ⟨i0, hi0, hz0, hz1, hz2⟩ := info_parts info_jreg
  have hn8 : n ≤ 8 := by have := hok.2.2.2.2.2.2.2.2.2.2.1; omega
  have e1 : decide ((512 : Int) < (t.size : Int)) = false := by simp; omega
  have e2 : decide ((4 : Int) < (m : Int)) = false := by simp; omega
  clear hok
  have hA0 := hA
  have hB0 := hB
  go_enter Try.func4, Try.ntmps4
  go_wp2_with fail
  refine (HC _ (by exact (hA.alloc (Nat.le_refl _) _).more (by simp))).mono ?_
  rintro e w1 ⟨z, rfl, hb⟩
  have hBc := (Blk.new w 24 #[.int .i64 c.raw, .int .i64 c.ring, .int .i64 c.writes, .int .i64 c.stamps, .bool c.multi, .int .i64 c.tries, .slice A n nc]).below hb (by simp)
  have HB := Lib.hid hB0
  clear hB0 hB
  have hB := (Blk.new w 24 #[.int .i64 c.raw, .int .i64 c.ring, .int .i64 c.writes, .int .i64 c.stamps, .bool c.multi, .int .i64 c.tries, .slice A n nc]).below hb (by simp)
  have c0 : w1.cell? ⟨w.heap.size, 0, none⟩ = some (.int .i64 c.raw) := (hB.cell 0).trans rfl
  have c1 : w1.cell? ⟨w.heap.size, 1, none⟩ = some (.int .i64 c.ring) := (hB.cell 1).trans rfl
  have c2 : w1.cell? ⟨w.heap.size, 2, none⟩ = some (.int .i64 c.writes) := (hB.cell 2).trans rfl
  have c3 : w1.cell? ⟨w.heap.size, 3, none⟩ = some (.int .i64 c.stamps) := (hB.cell 3).trans rfl
  have c4 : w1.cell? ⟨w.heap.size, 4, none⟩ = some (.bool c.multi) := (hB.cell 4).trans rfl
  have c5 : w1.cell? ⟨w.heap.size, 5, none⟩ = some (.int .i64 c.tries) := (hB.cell 5).trans rfl
  have c6 : w1.cell? ⟨w.heap.size, 6, none⟩ = some (.slice A n nc) := (hB.cell 6).trans rfl
  have hlt0 := hB.lt
  have hbel1 : Below w.heap.size w w1 := (by refine Below.trans ?_ (hb.mono (by simp)); repeat (first | with_reducible exact Below.refl _ _ | with_reducible refine Below.drew ?_ | with_reducible refine below_drewN ?_ _ | ((with_reducible refine Below.alloc ?_ ?_ _); (rotate_left; focus (first | with_reducible exact Nat.le_refl _ | omega | (simp; done) | (simp; omega) | (simp [World.setCell]; done) | (simp [World.setCell]; omega)))) | ((with_reducible refine Below.setCell ?_ ?_ _); (rotate_left; focus (first | with_reducible exact Nat.le_refl _ | omega | (simp; done) | (simp; omega) | (simp [World.setCell]; done) | (simp [World.setCell]; omega))))))
  clear hb hB HC
  have R1 : Reads w1 w1.heap.size 1 B m (ints zs) := (HB.out.below hbel1).more hbel1.size
  go_upto_region 6 with fail
  go_cut [10] from 31 to 37 (fun sv wx => ∃ (x : Nat) (av : Value), sv = .pointer (some ⟨x, 0, none⟩) ∧ Blk wx x 44 (mcells c (.slice A n nc) z (.slice none 0 0) t av) ∧ Blk wx w.heap.size 24 #[.int .i64 c.raw, .int .i64 c.ring, .int .i64 c.writes, .int .i64 c.stamps, .bool c.multi, .int .i64 c.tries, .slice A n nc] ∧ Below w.heap.size w wx ∧ w.heap.size < x)
  case first =>
    go_region_with (first | (go_at_call 7; refine (clone_any B m mc zs _ hm (by exact R1)).mono ?_; rintro e w2 ⟨V, vk, vc, rfl, hb2⟩; have hB2 : Blk w2 w.heap.size 24 #[.int .i64 c.raw, .int .i64 c.ring, .int .i64 c.writes, .int .i64 c.stamps, .bool c.multi, .int .i64 c.tries, .slice A n nc] := Blk.below (by exact hBc) hb2 (by exact hlt0); have d0 : w2.cell? ⟨w.heap.size, 0, none⟩ = some (.int .i64 c.raw) := (hB2.cell 0).trans rfl; have d1 : w2.cell? ⟨w.heap.size, 1, none⟩ = some (.int .i64 c.ring) := (hB2.cell 1).trans rfl; have d2 : w2.cell? ⟨w.heap.size, 2, none⟩ = some (.int .i64 c.writes) := (hB2.cell 2).trans rfl; have d3 : w2.cell? ⟨w.heap.size, 3, none⟩ = some (.int .i64 c.stamps) := (hB2.cell 3).trans rfl; have d4 : w2.cell? ⟨w.heap.size, 4, none⟩ = some (.bool c.multi) := (hB2.cell 4).trans rfl; have d5 : w2.cell? ⟨w.heap.size, 5, none⟩ = some (.int .i64 c.tries) := (hB2.cell 5).trans rfl; have d6 : w2.cell? ⟨w.heap.size, 6, none⟩ = some (.slice A n nc) := (hB2.cell 6).trans rfl; have hlt2 := hB2.lt))
    all_goals
      have hbel2 : Below w.heap.size w w2 := by
        refine Below.trans ?_ (hb2.mono (by exact hbel1.size))
        repeat (first | with_reducible exact hbel1 | with_reducible refine Below.drew ?_ | with_reducible refine below_drewN ?_ _ | ((with_reducible refine Below.alloc ?_ ?_ _); (rotate_left; focus (first | with_reducible exact Nat.le_refl _ | omega | (simp; done) | (simp; omega) | (simp [World.setCell]; done) | (simp [World.setCell]; omega)))) | ((with_reducible refine Below.setCell ?_ ?_ _); (rotate_left; focus (first | with_reducible exact Nat.le_refl _ | omega | (simp; done) | (simp; omega) | (simp [World.setCell]; done) | (simp [World.setCell]; omega)))))
      have hs2 := hbel2.size
      go_wp2_with fail
      go_meet
      exact ⟨w2.heap.size, .slice V vk vc, rfl, Blk.new _ _ _, hB2.alloc _, by repeat (first | with_reducible exact hbel2 | with_reducible refine Below.drew ?_ | with_reducible refine below_drewN ?_ _ | ((with_reducible refine Below.alloc ?_ ?_ _); (rotate_left; focus (first | with_reducible exact Nat.le_refl _ | omega | (simp; done) | (simp; omega) | (simp [World.setCell]; done) | (simp [World.setCell]; omega)))) | ((with_reducible refine Below.setCell ?_ ?_ _); (rotate_left; focus (first | with_reducible exact Nat.le_refl _ | omega | (simp; done) | (simp; omega) | (simp [World.setCell]; done) | (simp [World.setCell]; omega))))), hlt2⟩
  case rest =>
    obtain ⟨x, av, rfl, hX, hBx, hbelx, hxW⟩ := hcut
    have c6 : wc.cell? ⟨w.heap.size, 6, none⟩ = some (.slice A n nc) := (hBx.cell 6).trans rfl
    have x6 : wc.cell? ⟨x, 6, none⟩ = some (.slice A n nc) := (hX.cell 6).trans rfl
    have fx6 : wc.frozen? ⟨x, 6, none⟩ = false := hX.frozen 6
    have hxl := hX.lt
    have hwl := hBx.lt
    clear c0 c1 c2 c3 c4 c5 hBc R1 e1 e2
    have hX2 : Blk (wc.setCell ⟨x, 6, none⟩ (.slice none 0 0)) x 44 (mcells c (.slice none 0 0) z (.slice none 0 0) t av) := hX.set_ 6 (.slice none 0 0)
    have hBx2 := hBx.far (p := ⟨x, 6, none⟩) (by simp; omega) (.slice none 0 0)
    have hbel3 : Below w.heap.size w (wc.setCell ⟨x, 6, none⟩ (.slice none 0 0)) := hbelx.setCell (by simp; omega) _
    have hne : ¬ (x = w.heap.size) := by omega
    go_wp2_with fail
    clear c6 x6 fx6 hX hBx hbelx
    go_loopg [45] n (fun gk i wr => RelJ w c A n nc z t av x gk i wr)
    case atStart => exact ⟨0, .slice none 0 0, [], rfl, Nat.zero_le _, rfl, World.ownsRow_nil _ _ _ _, hX2, hBx2, hbel3⟩
    case round =>
      obtain ⟨k, tv, xs, rfl, hk, hgk, hown, hX, hBr, hbel⟩ := hrel
      have HG := Lib.hid hgk
      have x8 : wr.cell? ⟨x, 8, none⟩ = some tv := (hX.cell 8).trans rfl
      have fx8 : wr.frozen? ⟨x, 8, none⟩ = false := hX.frozen 8
      have hxl := hX.lt
      have hwl := hBr.lt
      clear hgk hX2 hBx2 hbel3
      by_cases hkn : k < n
      · obtain ⟨b, off, rfl, hb, hc⟩ := reads_flat hA (by omega) (by omega)
        obtain ⟨d0, d1⟩ := regs_cell hl hc hkn
        obtain ⟨r, hr⟩ : ∃ r, r = l[k]'(by omega) := ⟨_, rfl⟩
        rw [← hr] at d0 d1
        have g0 : wr.cell? ⟨b, off + k * 2, none⟩ = some (.int .i64 r.kind) := (hbel.cell (p := ⟨b, off + k * 2, none⟩) (by simp; omega)).trans d0
        have g1 : wr.cell? ⟨b, off + k * 2 + 1, none⟩ = some (.int .i64 r.cap) := (hbel.cell (p := ⟨b, off + k * 2 + 1, none⟩) (by simp; omega)).trans d1
        have hbr : b < wr.heap.size := by have := hbel.size; omega
        have c0 : wr.cell? ⟨w.heap.size, 0, none⟩ = some (.int .i64 c.raw) := (hBr.cell 0).trans rfl
        have c1 : wr.cell? ⟨w.heap.size, 1, none⟩ = some (.int .i64 c.ring) := (hBr.cell 1).trans rfl
        have c2 : wr.cell? ⟨w.heap.size, 2, none⟩ = some (.int .i64 c.writes) := (hBr.cell 2).trans rfl
        have c3 : wr.cell? ⟨w.heap.size, 3, none⟩ = some (.int .i64 c.stamps) := (hBr.cell 3).trans rfl
        have c4 : wr.cell? ⟨w.heap.size, 4, none⟩ = some (.bool c.multi) := (hBr.cell 4).trans rfl
        have c5 : wr.cell? ⟨w.heap.size, 5, none⟩ = some (.int .i64 c.tries) := (hBr.cell 5).trans rfl
        have c6 : wr.cell? ⟨w.heap.size, 6, none⟩ = some (.slice (some ⟨b, off, none⟩) n nc) := (hBr.cell 6).trans rfl
        clear d0 d1 hc hr
        have hbel' := hbel.alloc hbel.size (.cells #[.int .i64 r.kind, .int .i64 r.cap] 46)
        go_wp2_with fail
        refine (base_yes c l (some ⟨b, off, none⟩) n nc k _ hl hn hnc (by exact (hA.below hbel').more hbel'.size) HOK.out hkn).mono ?_
        rintro e w3 ⟨bz, rfl, hb3⟩
        have hown3 := (hown.alloc (.cells #[.int .i64 r.kind, .int .i64 r.cap] 46)).kept (only_of_below hb3 none) (by cases Value.ownBlock _ <;> simp)
        have hX3 := (hX.alloc (.cells #[.int .i64 r.kind, .int .i64 r.cap] 46)).below hb3 (by simp; omega)
        have hB3 := (hBr.alloc (.cells #[.int .i64 r.kind, .int .i64 r.cap] 46)).below hb3 (by simp; omega)
        have hR3 := (Blk.new wr 46 #[.int .i64 r.kind, .int .i64 r.cap]).below hb3 (by simp)
        have hbel3 : Below w.heap.size w w3 := hbel'.trans (hb3.mono hbel'.size)
        have r0 : w3.cell? ⟨wr.heap.size, 0, none⟩ = some (.int .i64 r.kind) := (hR3.cell 0).trans rfl
        have r1 : w3.cell? ⟨wr.heap.size, 1, none⟩ = some (.int .i64 r.cap) := (hR3.cell 1).trans rfl
        have hrl := hR3.lt
        have hxl3 := hX3.lt
        have y8 : w3.cell? ⟨x, 8, none⟩ = some tv := (hX3.cell 8).trans rfl
        have fy8 : w3.frozen? ⟨x, 8, none⟩ = false := hX3.frozen 8
        have ns : tv.ownBlock ≠ some x := own_blk_ne hown3 hX3 (by decide)
        have nb : tv.ownBlock ≠ some w.heap.size := own_blk_ne hown3 hB3 (by decide)
        have hn1 : k + 1 ≤ maxLen := by unfold maxLen; omega
        have hnb : (k + 1) * 24 ≤ 140737488355328 := by omega
        have hs3 : w.heap.size ≤ w3.heap.size := hbel3.size
        clear c0 c1 c2 c3 c4 c5 c6 x8 fx8 g0 g1 hown hX hBr hb3 hR3 hbel'
        have HX3 := Lib.hid hX3
        have HB3 := Lib.hid hB3
        have HBL := Lib.hid hbel3
        clear hX3 hB3 hbel3
        go_wp2_with fail
        go_region_law
          ((refine step_append_lies _ (by rfl) _ _ _ (by rfl) w.heap.size 49 i0 _ 3 24 Try.underlying35 hi0 hz0 hz1 hz2 rfl (by omega) tv k xs (by rfl) (show _ from hown3.alloc _)
              ⟨w3.heap.size, 0, none⟩ 1 1 [.int .i64 r.kind, .int .i64 bz, .int .i64 r.cap] (by rfl) (by rfl) (World.news_of_block (cs := #[.int .i64 r.kind, .int .i64 bz, .int .i64 r.cap]) (t := 49) (fr := (0, 0)) (heap_alloc_new w3 _)) (by simp [Value.oneCell'])
              (by omega) hn1 hnb (by simp; omega) (w3.heap.size + 1) (by simp) ?_; intro gg cap w2 hown1 hgrow hat hlt2; have fl2 : w2.frozen? ⟨x, 8, none⟩ = false := (hgrow.frozen_far ⟨x, 8, none⟩ (by simp; omega) (Ne.symm ns)).trans ((frozen?_alloc_cells w3 _ _ ⟨x, 8, none⟩).trans fy8); have cl2 : w2.cell? ⟨x, 8, none⟩ = some tv := (hgrow.cell_far ⟨x, 8, none⟩ (by simp; omega) (Ne.symm ns)).trans ((World.cell?_alloc_lt w3 _ ⟨x, 8, none⟩ hxl3).trans y8)))
        all_goals
          have ho := hown3.alloc (.cells #[.int .i64 r.kind, .int .i64 bz, .int .i64 r.cap] 49)
          have hfin := job_snoc (by first | exact below_new | exact below_new.drew | exact below_drewN below_new _) hgrow hown1 (fun q hq => (ho.lt q hq).1) HX3.out HB3.out HBL.out ns nb (by omega)
          have HFIN := Lib.hid hfin
          clear hfin hgrow hown1 hown3 ho
          go_wp2_with fail
          go_roundg (n - (k + 1))
          case measure => have := HG.out; omega
          case rel => exact ⟨k + 1, _, _, by go_num, by omega, rfl, HFIN.out.1, HFIN.out.2.1, HFIN.out.2.2.1, HFIN.out.2.2.2⟩
      · obtain rfl : k = n := by omega
        clear x8 fx8
        go_wp2_with fail
        refine (again_any c l z tv av t x w.heap.size _ HOK.out (by omega) hX).mono ?_
        rintro e w3 ⟨rfl, hb3⟩
        go_wp2_with fail
        go_ret2
        exact ⟨_, rfl, hbel.trans hb3⟩
end Go.Proofs.Ytoeldbccjhlioaa
