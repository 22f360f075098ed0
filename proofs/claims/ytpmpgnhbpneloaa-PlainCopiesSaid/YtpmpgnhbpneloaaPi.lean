/- What the document's Config does: a configuration in memory of its own. -/
import Derived.Test.YtpmpgnhbpneloaaPh
namespace Go.Proofs.Ytpmpgnhbpneloaa
open Go.RowKit Go.Joins Go.ChangeShapes Go.WideShapes Go.Deep
set_option linter.unusedVariables false
set_option maxRecDepth 100000

theorem info_reg : (Try.prog.info? 82).map (fun i => (i.zero, i.size, i.bytes)) = some (some (.agg #[.int .i64 0, .int .i64 0]), 2, 16) := by kernel_rfl

/-- An owned row as a slice that reads. -/
theorem own_shape {w : World} {B e n size : Nat} {v : Value} {xs : List Value} (h : w.ownsRow B e size v n xs) : ∃ R c, v = .slice R n c ∧ n ≤ c ∧ Reads w w.heap.size size R n xs := by
  rcases h.2 with ⟨rfl, rfl⟩ | ⟨g, cap, cur, rfl, hg, hh, hn, _⟩
  · exact ⟨none, 0, rfl, Nat.le_refl _, Reads.of_own h⟩
  · exact ⟨_, cap, rfl, hn, Reads.of_own h⟩

theorem own_base {w : World} {B B' e n size : Nat} {v : Value} {xs : List Value} (h : w.ownsRow B e size v n xs) (hB : B' ≤ B) : w.ownsRow B' e size v n xs :=
  ⟨h.1, h.2.imp id fun ⟨g, cap, cur, hv, hg, r⟩ => ⟨g, cap, cur, hv, Nat.le_trans hB hg, r⟩⟩

def CopyPost (c : Cfg) (regs : List Reg) (n : Nat) (w : World) : Ending → World → Prop := fun e w' =>
  ∃ rv rc, e = .returned (.agg #[.int .i64 c.raw, .int .i64 c.ring, .int .i64 c.writes, .int .i64 c.stamps, .bool c.multi, .int .i64 c.tries, .slice rv n rc]) ∧ w'.ownsRow w.heap.size 82 2 (.slice rv n rc) n (rows Reg.cells regs) ∧ Below w.heap.size w w'

def RelK (c : Cfg) (regs : List Reg) (A : Option Addr) (n nc : Nat) (w : World) (gk : Nat) (rv i : Value) (wr : World) : Prop :=
  ∃ k : Nat, rv = rv ∧ i = .int .i64 k ∧ k ≤ n ∧ gk = n - k ∧ wr.ownsRow (w.heap.size + 2) 82 2 rv k (rows Reg.cells (regs.take k)) ∧
    Blk wr w.heap.size 24 #[.int .i64 c.raw, .int .i64 c.ring, .int .i64 c.writes, .int .i64 c.stamps, .bool c.multi, .int .i64 c.tries, .slice A n nc] ∧
    Blk wr (w.heap.size + 1) 24 #[.int .i64 0, .int .i64 0, .int .i64 0, .int .i64 0, .bool false, .int .i64 0, .slice none 0 0] ∧ Below w.heap.size w wr

set_option maxHeartbeats 4000000 in
theorem rconfig_any (c : Cfg) (regs : List Reg) (A : Option Addr) (n nc : Nat) (w : World) (hl : regs.length = n) (hn : n ≤ 8) (hA : Reads w w.heap.size 2 A n (rows Reg.cells regs)) :
    Calls Try.prog 38 #[.agg #[.int .i64 c.raw, .int .i64 c.ring, .int .i64 c.writes, .int .i64 c.stamps, .bool c.multi, .int .i64 c.tries, .slice A n nc]] w (CopyPost c regs n w) := by
  have HL := Lib.hid hl
  obtain ⟨i0, hi0, hz0, hz1, hz2⟩ := info_parts info_reg
  obtain ⟨raw, ring, writes, stamps, multi, tries⟩ := c
  simp only
  clear hl
  go_enter Try.func38, Try.ntmps38
  go_wp2_with fail
  go_loopg [3, 4] n (fun gk rv i wr => RelK ⟨raw, ring, writes, stamps, multi, tries⟩ regs A n nc w gk rv i wr)
  case atStart => exact ⟨0, rfl, rfl, Nat.zero_le _, rfl, World.ownsRow_nil _ _ _ _, (Blk.new _ _ _).alloc _, Blk.new' (by simp), by repeat (first | with_reducible exact Below.refl _ _ | with_reducible refine Below.drew ?_ | with_reducible refine below_drewN ?_ _ | ((with_reducible refine Below.alloc ?_ ?_ _); (rotate_left; focus (first | with_reducible exact Nat.le_refl _ | omega | (simp; done) | (simp; omega) | (simp [World.setCell]; done) | (simp [World.setCell]; omega)))) | ((with_reducible refine Below.setCell ?_ ?_ _); (rotate_left; focus (first | with_reducible exact Nat.le_refl _ | omega | (simp; done) | (simp; omega) | (simp [World.setCell]; done) | (simp [World.setCell]; omega)))))⟩
  case round =>
    obtain ⟨k, _, rfl, hk, hgk, hown, hB, hR, hbel⟩ := hrel
    have HG := Lib.hid hgk
    have c0 : wr.cell? ⟨w.heap.size, 0, none⟩ = some (.int .i64 raw) := (hB.cell 0).trans rfl
    have c1 : wr.cell? ⟨w.heap.size, 1, none⟩ = some (.int .i64 ring) := (hB.cell 1).trans rfl
    have c2 : wr.cell? ⟨w.heap.size, 2, none⟩ = some (.int .i64 writes) := (hB.cell 2).trans rfl
    have c3 : wr.cell? ⟨w.heap.size, 3, none⟩ = some (.int .i64 stamps) := (hB.cell 3).trans rfl
    have c4 : wr.cell? ⟨w.heap.size, 4, none⟩ = some (.bool multi) := (hB.cell 4).trans rfl
    have c5 : wr.cell? ⟨w.heap.size, 5, none⟩ = some (.int .i64 tries) := (hB.cell 5).trans rfl
    have c6 : wr.cell? ⟨w.heap.size, 6, none⟩ = some (.slice A n nc) := (hB.cell 6).trans rfl
    have hlt := hR.lt
    have hlt0 := hB.lt
    clear hgk
    by_cases hkn : k < n
    · obtain ⟨b, off, rfl, hb, hc⟩ := reads_flat hA (by omega) (by omega)
      obtain ⟨d0, d1⟩ := regs_cell HL.out hc hkn
      have hkl : k < regs.length := by rw [HL.out]; exact hkn
      obtain ⟨r, hr⟩ : ∃ r, r = regs[k] := ⟨_, rfl⟩
      rw [← hr] at d0 d1
      have g0 : wr.cell? ⟨b, off + k * 2, none⟩ = some (.int .i64 r.kind) := (hbel.cell (p := ⟨b, off + k * 2, none⟩) (by simp; omega)).trans d0
      have g1 : wr.cell? ⟨b, off + k * 2 + 1, none⟩ = some (.int .i64 r.cap) := (hbel.cell (p := ⟨b, off + k * 2 + 1, none⟩) (by simp; omega)).trans d1
      have HR := Lib.hid hr
      have hc2 : ∀ u ∈ ([.int .i64 r.kind, .int .i64 r.cap] : List Value), u.oneCell' = true := (by intro u hu; simp at hu; rcases hu with rfl | rfl <;> rfl)
      have hc3 : k + 1 ≤ maxLen := (by unfold maxLen; omega)
      have hc4 : (k + 1) * 16 ≤ 140737488355328 := (by omega)
      have hc5 : w.heap.size + 2 ≤ (wr.alloc (.cells #[.int .i64 r.kind, .int .i64 r.cap] 82)).heap.size := (by simp; omega)
      clear d0 d1 hc hr c0 c1 c2 c3 c4 c5
      go_wp2_with (at_builtin; go_must (refine wpList_append_own _ rfl _ _ 22 rfl (w.heap.size + 2) 82 i0 _ 2 16 Try.underlying22 hi0 hz0 hz1 hz2 rfl (by decide) _ _ _ rfl (hown.alloc _) ⟨wr.heap.size, 0, none⟩ 1 1 [.int .i64 r.kind, .int .i64 r.cap] rfl rfl (World.news_of_block (cs := #[.int .i64 r.kind, .int .i64 r.cap]) (t := 82) (fr := (0, 0)) (heap_alloc_new wr _)) hc2 hc3 hc4 hc5 ?_; intro v' w1 hown' hgrow _))
      go_roundg (n - (k + 1))
      case measure => have := HG.out; omega
      case rel =>
        have ho := hown.alloc (.cells #[.int .i64 r.kind, .int .i64 r.cap] 82)
        refine ⟨k + 1, rfl, by go_num, by omega, rfl, ?_, (hB.alloc _).grown hgrow (fun e => by have := (ho.lt _ e.symm).1; omega), (hR.alloc _).grown hgrow (fun e => by have := (ho.lt _ e.symm).1; omega), ?_⟩
        · rw [List.take_succ_eq_append_getElem hkl, rows_snoc, ← HR.out]
          exact hown'
        · have hsz := hbel.size
          exact (hbel.alloc hsz _).trans ⟨hgrow.os, hgrow.tape, hgrow.output, hgrow.size, fun q hq => hgrow.block q (by simp; omega) (fun e => by have := (ho.lt _ e.symm).1; omega)⟩
    · obtain rfl : k = n := by omega
      obtain ⟨rv, rc, rfl, hrc, hRd⟩ := own_shape hown
      rw [List.take_of_length_le (by rw [HL.out]; exact Nat.le_refl _)] at hown
      have f6 : wr.frozen? ⟨w.heap.size, 6, none⟩ = false := hB.frozen 6
      have r0 : wr.cell? ⟨w.heap.size + 1, 0, none⟩ = some (.int .i64 0) := (hR.cell 0).trans rfl
      have r1 : wr.cell? ⟨w.heap.size + 1, 1, none⟩ = some (.int .i64 0) := (hR.cell 1).trans rfl
      have r2 : wr.cell? ⟨w.heap.size + 1, 2, none⟩ = some (.int .i64 0) := (hR.cell 2).trans rfl
      have r3 : wr.cell? ⟨w.heap.size + 1, 3, none⟩ = some (.int .i64 0) := (hR.cell 3).trans rfl
      have r4 : wr.cell? ⟨w.heap.size + 1, 4, none⟩ = some (.bool false) := (hR.cell 4).trans rfl
      have r5 : wr.cell? ⟨w.heap.size + 1, 5, none⟩ = some (.int .i64 0) := (hR.cell 5).trans rfl
      have r6 : wr.cell? ⟨w.heap.size + 1, 6, none⟩ = some (.slice none 0 0) := (hR.cell 6).trans rfl
      have q0 : wr.frozen? ⟨w.heap.size + 1, 0, none⟩ = false := hR.frozen 0
      have q1 : wr.frozen? ⟨w.heap.size + 1, 1, none⟩ = false := hR.frozen 1
      have q2 : wr.frozen? ⟨w.heap.size + 1, 2, none⟩ = false := hR.frozen 2
      have q3 : wr.frozen? ⟨w.heap.size + 1, 3, none⟩ = false := hR.frozen 3
      have q4 : wr.frozen? ⟨w.heap.size + 1, 4, none⟩ = false := hR.frozen 4
      have q5 : wr.frozen? ⟨w.heap.size + 1, 5, none⟩ = false := hR.frozen 5
      have q6 : wr.frozen? ⟨w.heap.size + 1, 6, none⟩ = false := hR.frozen 6
      have HO := Lib.hid hown
      have HBE := Lib.hid hbel
      clear hown hbel hRd hB hR
      go_wp2_with fail
      refine bodyPost_ret (v := .agg #[.int .i64 raw, .int .i64 ring, .int .i64 writes, .int .i64 stamps, .bool multi, .int .i64 tries, .slice rv k rc]) (by simp [results, Try.results38, go_sem, r0, r1, r2, r3, r4, r5, r6]) rfl ?_
      refine ⟨rv, rc, rfl, ?_, ?_⟩
      · refine own_base (B := w.heap.size + 2) ?_ (by omega)
        repeat (first | with_reducible exact HO.out | ((with_reducible refine ownsRow_setCell_below ?_ ?_ _); (rotate_left; focus (first | (simp; done) | (simp; omega)))))
      · repeat (first | with_reducible exact HBE.out | with_reducible refine Below.drew ?_ | with_reducible refine below_drewN ?_ _ | ((with_reducible refine Below.alloc ?_ ?_ _); (rotate_left; focus (first | with_reducible exact Nat.le_refl _ | omega | (simp; done) | (simp; omega) | (simp [World.setCell]; done) | (simp [World.setCell]; omega)))) | ((with_reducible refine Below.setCell ?_ ?_ _); (rotate_left; focus (first | with_reducible exact Nat.le_refl _ | omega | (simp; done) | (simp; omega) | (simp [World.setCell]; done) | (simp [World.setCell]; omega)))))
end Go.Proofs.Ytpmpgnhbpneloaa
