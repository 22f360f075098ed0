/- What a plain state's Load, Store and Raw do; what 'both' does. -/
import Derived.Test.YtpmpgnhbpneloaaPj
import Derived.Laws.CopyRow
import Derived.PlainAid
namespace Go.Proofs.Ytpmpgnhbpneloaa
open Go.RowKit Go.Joins Go.ChangeShapes Go.WideShapes Go.Deep
set_option linter.unusedVariables false
set_option maxRecDepth 100000

/-- The plain cell of a place. -/
def uidx (p : Int) (R : Nat) : Nat := (p % 18446744073709551616).toNat % R

theorem at_any (p : Int) (s g R : Nat) (w : World) (hR : 1 ≤ R) (hR64 : R ≤ 64) (hc : w.cell? ⟨s, 0, none⟩ = some (.slice (some ⟨g, 0, none⟩) R R)) :
    Calls Try.prog 23 #[.pointer (some ⟨s, 0, none⟩), .int .i64 p] w fun e w' => e = .returned (.pointer (some ⟨g, uidx p R, none⟩)) ∧ ∃ n, w' = w.drewN n := by
  obtain ⟨U, hU⟩ : ∃ U : Nat, IntKind.u64.wrap p = (U : Int) := ⟨(p % 18446744073709551616).toNat, by rw [IntKind.wrap_u64]; omega⟩
  have hU2 : U = (p % 18446744073709551616).toNat := by rw [IntKind.wrap_u64] at hU; omega
  have hU3 : U < 18446744073709551616 := by omega
  have hq : uidx p R = U % R := by rw [uidx, ← hU2]
  rw [hq]
  clear hq hU2
  have hlt : U % R < R := Nat.mod_lt _ (by omega)
  have e1 : IntKind.u64.wrap (R : Int) = (R : Int) := IntWalk.u64_in _ ⟨by omega, by omega⟩
  have e2 : ((U : Int)).tmod (R : Int) = ((U % R : Nat) : Int) := by
    rw [Int.tmod_eq_emod_of_nonneg (by omega)]
    rfl
  have e3 : IntKind.u64.wrap ((U % R : Nat) : Int) = ((U % R : Nat) : Int) := IntWalk.u64_in _ ⟨by omega, by omega⟩
  have e4 : ((U % R : Nat) : Int) < (R : Int) := by omega
  have e5 : ¬ (R = 0) := by omega
  generalize U % R = I at *
  go_enter Try.func23, Try.ntmps23
  go_wp2_with fail
  go_quiet (fail)
  go_wp2
  go_ret
  exact ⟨rfl, _, rfl⟩

theorem load_any (p : Int) (s g R : Nat) (raw : List Int) (w : World) (hR : 1 ≤ R) (hR64 : R ≤ 64) (hl : raw.length = R) (hc : w.cell? ⟨s, 0, none⟩ = some (.slice (some ⟨g, 0, none⟩) R R)) (hg : Blk w g 2 (ints raw).toArray) :
    Calls Try.prog 10 #[.pointer (some ⟨s, 0, none⟩), .int .i64 p] w fun e w' => e = .returned (.int .i64 (raw.getD (uidx p R) 0)) ∧ ∃ n, w' = w.drewN n := by
  have hlt : uidx p R < R := Nat.mod_lt _ (by omega)
  have c1 : w.cell? ⟨g, uidx p R, none⟩ = some (.int .i64 (raw.getD (uidx p R) 0)) := by
    rw [hg.cell]
    simp [ints, List.getD_eq_getElem?_getD, List.getElem?_eq_getElem (show uidx p R < raw.length by omega)]
  have HA := at_any p s g R w hR hR64 hc
  obtain ⟨V, hV⟩ : ∃ V, V = raw.getD (uidx p R) 0 := ⟨_, rfl⟩
  rw [← hV] at c1 ⊢
  clear hc hg hV
  go_enter Try.func10, Try.ntmps10
  go_wp2_with fail
  refine HA.mono ?_
  rintro e w1 ⟨rfl, m, rfl⟩
  go_wp2_with fail
  go_ret
  exact ⟨rfl, m, rfl⟩

theorem store_any (p v : Int) (s g R : Nat) (raw : List Int) (w : World) (hR : 1 ≤ R) (hR64 : R ≤ 64) (hl : raw.length = R) (hc : w.cell? ⟨s, 0, none⟩ = some (.slice (some ⟨g, 0, none⟩) R R)) (hg : Blk w g 2 (ints raw).toArray) :
    Calls Try.prog 9 #[.pointer (some ⟨s, 0, none⟩), .int .i64 p, .int .i64 v] w fun e w' => e = .returned (.tuple #[]) ∧ ∃ n, w' = (w.drewN n).setCell ⟨g, uidx p R, none⟩ (.int .i64 v) := by
  have hlt : uidx p R < R := Nat.mod_lt _ (by omega)
  have c1 : w.cell? ⟨g, uidx p R, none⟩ = some (.int .i64 (raw.getD (uidx p R) 0)) := by
    rw [hg.cell]
    simp [ints, List.getD_eq_getElem?_getD, List.getElem?_eq_getElem (show uidx p R < raw.length by omega)]
  have f1 : w.frozen? ⟨g, uidx p R, none⟩ = false := hg.frozen _
  have HA := at_any p s g R w hR hR64 hc
  clear hc hg
  go_enter Try.func9, Try.ntmps9
  go_wp2_with fail
  refine HA.mono ?_
  rintro e w1 ⟨rfl, m, rfl⟩
  go_wp2_with fail
  go_end0
  exact ⟨rfl, m, rfl⟩

theorem copied_any (A : Option Addr) (n nc B : Nat) (zs : List Int) (w : World) (hn : n ≤ 1024) (hB : B ≤ w.heap.size) (hA : Reads w B 1 A n (ints zs)) :
    Calls Try.prog 24 #[.slice A n nc] w fun e w' => e = .returned (.slice (some ⟨w.heap.size, 0, none⟩) n n) ∧ Blk w' w.heap.size 2 (ints zs).toArray ∧ Below w.heap.size w w' := by
  have hl : zs.length = n := by have := hA.1; simpa [ints] using this
  have hmk := mk_ints n hn
  have hcp : ∃ w2, (∀ ty, (Builtin.copy_ #[34, 34] ty #[.slice (some ⟨w.heap.size, 0, none⟩) n n, .slice A n nc]).run Try.prog (w.alloc (.cells (ints (List.replicate n 0)).toArray 2)) = .ok (goInt n) w2) ∧ Blk w2 w.heap.size 2 (ints zs).toArray ∧ Below w.heap.size w w2 := by
    by_cases h0 : n = 0
    · subst h0
      obtain rfl : zs = [] := List.eq_nil_of_length_eq_zero hl
      exact ⟨_, fun ty => run_copy_none _ _ _ ty 2 _ _ _ _ _ _ Try.underlying34 (by kernel_rfl) (by simp), Blk.new _ _ _, below_new⟩
    · obtain ⟨ad, rfl, hb, hcell⟩ := hA.2 (by omega)
      refine ⟨(w.alloc (.cells (ints (List.replicate n 0)).toArray 2)).setRow w.heap.size (ints zs).toArray, fun ty => ?_, ?_, ?_⟩
      · have h := run_copy_row (P := Try.prog) (w.alloc (.cells (ints (List.replicate n 0)).toArray 2)) 34 34 ty 2 w.heap.size 0 n n ad n nc _ _ (ints zs) Try.underlying34 (by kernel_rfl) (Blk.new w _ _) (by simp [ints, hl]) (fun j v hj => by
          rw [World.cell?_alloc_lt w _ _ (by rw [block_of_add]; omega)]; exact hcell j v hj) (by simp [ints, hl]) (by intro v hv; simp [ints] at hv; obtain ⟨a, _, rfl⟩ := hv; rfl)
        rw [show (ints zs).length = n by simp [ints, hl]] at h
        rw [h]
        congr 2
        simp [ints]
      · exact setRow_heap (w.alloc (.cells (ints (List.replicate n 0)).toArray 2)) w.heap.size _ (ints zs).toArray _ _ (Blk.new w 2 (ints (List.replicate n 0)).toArray)
      · refine ⟨rfl, rfl, rfl, by simp [World.setRow], fun q hq => ?_⟩
        have : ((w.alloc (.cells (ints (List.replicate n 0)).toArray 2)).setRow w.heap.size (ints zs).toArray).heap[q]? = (w.alloc (.cells (ints (List.replicate n 0)).toArray 2)).heap[q]? := by
          simp only [World.setRow, Array.getElem?_modify]
          rw [if_neg (by omega)]
        exact this.trans (Below.heap_alloc w _ q hq)
  obtain ⟨w2, hcp, hb2, hbel⟩ := hcp
  have HB := Lib.hid hb2
  have HBEL := Lib.hid hbel
  clear hA hb2 hbel
  go_enter Try.func24, Try.ntmps24
  go_wp2_with fail
  go_ret
  exact ⟨rfl, HB.out, HBEL.out⟩

theorem raw_any (s g R : Nat) (raw : List Int) (w : World) (hR64 : R ≤ 64) (hl : raw.length = R) (hc : w.cell? ⟨s, 0, none⟩ = some (.slice (some ⟨g, 0, none⟩) R R)) (hg : Blk w g 2 (ints raw).toArray) :
    Calls Try.prog 11 #[.pointer (some ⟨s, 0, none⟩)] w fun e w' => e = .returned (.slice (some ⟨w.heap.size, 0, none⟩) R R) ∧ Blk w' w.heap.size 2 (ints raw).toArray ∧ Below w.heap.size w w' := by
  have hA : Reads w w.heap.size 1 (some ⟨g, 0, none⟩) R (ints raw) := by
    refine ⟨by simp [ints, hl], fun _ => ⟨_, rfl, hg.lt, fun j u hu => ?_⟩⟩
    have := hg.cell j
    simp only [List.getElem?_toArray, hu] at this
    rw [← this]
    unfold Addr.add
    split <;> simp_all
  have HA := copied_any _ R R _ raw w (by omega) (Nat.le_refl _) hA
  clear hg hA
  go_enter Try.func11, Try.ntmps11
  go_wp2_with fail
  refine HA.mono ?_
  rintro e w1 ⟨rfl, hb, hbel⟩
  go_wp2_with fail
  go_ret
  exact ⟨rfl, hb, hbel⟩

set_option maxHeartbeats 2000000 in
theorem both_no (c : Cfg) (regs : List Reg) (A : Option Addr) (n nc : Nat) (w : World) (hl : regs.length = n) (hn : n ≤ 9223372036854775807) (hA : Reads w w.heap.size 2 A n (rows Reg.cells regs)) (hno : ¬ cfgOk c regs) :
    Calls Try.prog 8 #[.agg #[.int .i64 c.raw, .int .i64 c.ring, .int .i64 c.writes, .int .i64 c.stamps, .bool c.multi, .int .i64 c.tries, .slice A n nc]] w fun e w' => e = .returned (.tuple #[.pointer none, .pointer none, .bool true]) ∧ Below w.heap.size w w' := by
  have HNO := Lib.hid hno
  clear hno
  go_enter Try.func8, Try.ntmps8
  go_wp2_with fail
  refine (pnew_no c regs A n nc _ hl hn (by exact (hA.alloc (Nat.le_refl _) _).more (by simp)) HNO.out).mono ?_
  rintro e w1 ⟨rfl, hb⟩
  have hB := (Blk.new w 24 #[.int .i64 c.raw, .int .i64 c.ring, .int .i64 c.writes, .int .i64 c.stamps, .bool c.multi, .int .i64 c.tries, .slice A n nc]).below hb (by simp)
  have c0 : w1.cell? ⟨w.heap.size, 0, none⟩ = some (.int .i64 c.raw) := (hB.cell 0).trans rfl
  have c1 : w1.cell? ⟨w.heap.size, 1, none⟩ = some (.int .i64 c.ring) := (hB.cell 1).trans rfl
  have c2 : w1.cell? ⟨w.heap.size, 2, none⟩ = some (.int .i64 c.writes) := (hB.cell 2).trans rfl
  have c3 : w1.cell? ⟨w.heap.size, 3, none⟩ = some (.int .i64 c.stamps) := (hB.cell 3).trans rfl
  have c4 : w1.cell? ⟨w.heap.size, 4, none⟩ = some (.bool c.multi) := (hB.cell 4).trans rfl
  have c5 : w1.cell? ⟨w.heap.size, 5, none⟩ = some (.int .i64 c.tries) := (hB.cell 5).trans rfl
  have c6 : w1.cell? ⟨w.heap.size, 6, none⟩ = some (.slice A n nc) := (hB.cell 6).trans rfl
  have hlt0 := hB.lt
  have hbel1 : Below w.heap.size w w1 := (by refine Below.trans ?_ (hb.mono (by simp)); repeat (first | with_reducible exact Below.refl _ _ | with_reducible refine Below.drew ?_ | with_reducible refine below_drewN ?_ _ | ((with_reducible refine Below.alloc ?_ ?_ _); (rotate_left; focus (first | with_reducible exact Nat.le_refl _ | omega | (simp; done) | (simp; omega) | (simp [World.setCell]; done) | (simp [World.setCell]; omega)))) | ((with_reducible refine Below.setCell ?_ ?_ _); (rotate_left; focus (first | with_reducible exact Nat.le_refl _ | omega | (simp; done) | (simp; omega) | (simp [World.setCell]; done) | (simp [World.setCell]; omega))))))
  clear hb hB
  go_wp2_with fail
  refine (rnew_no c regs A n nc _ hl hn (by exact (hA.below hbel1).more hbel1.size) HNO.out).mono ?_
  rintro e w2 ⟨rfl, hb2⟩
  go_wp2_with fail
  go_ret3
  exact ⟨rfl, hbel1.trans (hb2.mono hbel1.size)⟩

def BothPost (c : Cfg) (regs : List Reg) (R : Nat) (w : World) : Ending → World → Prop := fun e w' =>
  ∃ (s g s' g' : Nat) (tv tv' : Value) (l l' : List TM) (rv : Option Addr) (rc : Nat × Nat) (B : Nat), e = .returned (.tuple #[.pointer (some ⟨s, 0, none⟩), .pointer (some ⟨s', 0, none⟩), .bool true]) ∧ PIs w' (w.heap.size + 1) s g tv (List.replicate R 0) l ∧ RIs w' B s' g' rv rc tv' c regs (List.replicate R 0) l' ∧
    l.map TM.t = regs.map thing0 ∧ l'.map TM.t = regs.map thing0 ∧ Below w.heap.size w w' ∧ w.heap.size ≤ B ∧ (∀ b, LBlocks tv l b → b < B) ∧ s < B ∧ g < B

set_option maxHeartbeats 2000000 in
theorem both_yes (c : Cfg) (regs : List Reg) (A : Option Addr) (n nc R : Nat) (w : World) (hl : regs.length = n) (hn : n ≤ 8) (hA : Reads w w.heap.size 2 A n (rows Reg.cells regs)) (hok : cfgOk c regs) (hR : c.raw = (R : Int)) (hR64 : R ≤ 64) :
    Calls Try.prog 8 #[.agg #[.int .i64 c.raw, .int .i64 c.ring, .int .i64 c.writes, .int .i64 c.stamps, .bool c.multi, .int .i64 c.tries, .slice A n nc]] w (BothPost c regs R w) := by
  have HOK := Lib.hid hok
  have HR := Lib.hid hR
  clear hok hR
  go_enter Try.func8, Try.ntmps8
  go_wp2_with fail
  refine (pnew_yes c regs A n nc R _ hl hn (by exact (hA.alloc (Nat.le_refl _) _).more (by simp)) HOK.out HR.out hR64).mono ?_
  rintro e w1 ⟨s, g, tv, l, rfl, hP, hlt, hb⟩
  have hB := (Blk.new w 24 #[.int .i64 c.raw, .int .i64 c.ring, .int .i64 c.writes, .int .i64 c.stamps, .bool c.multi, .int .i64 c.tries, .slice A n nc]).below hb (by simp)
  have c0 : w1.cell? ⟨w.heap.size, 0, none⟩ = some (.int .i64 c.raw) := (hB.cell 0).trans rfl
  have c1 : w1.cell? ⟨w.heap.size, 1, none⟩ = some (.int .i64 c.ring) := (hB.cell 1).trans rfl
  have c2 : w1.cell? ⟨w.heap.size, 2, none⟩ = some (.int .i64 c.writes) := (hB.cell 2).trans rfl
  have c3 : w1.cell? ⟨w.heap.size, 3, none⟩ = some (.int .i64 c.stamps) := (hB.cell 3).trans rfl
  have c4 : w1.cell? ⟨w.heap.size, 4, none⟩ = some (.bool c.multi) := (hB.cell 4).trans rfl
  have c5 : w1.cell? ⟨w.heap.size, 5, none⟩ = some (.int .i64 c.tries) := (hB.cell 5).trans rfl
  have c6 : w1.cell? ⟨w.heap.size, 6, none⟩ = some (.slice A n nc) := (hB.cell 6).trans rfl
  have hlt0 := hB.lt
  have hbel1 : Below w.heap.size w w1 := (by refine Below.trans ?_ (hb.mono (by simp)); repeat (first | with_reducible exact Below.refl _ _ | with_reducible refine Below.drew ?_ | with_reducible refine below_drewN ?_ _ | ((with_reducible refine Below.alloc ?_ ?_ _); (rotate_left; focus (first | with_reducible exact Nat.le_refl _ | omega | (simp; done) | (simp; omega) | (simp [World.setCell]; done) | (simp [World.setCell]; omega)))) | ((with_reducible refine Below.setCell ?_ ?_ _); (rotate_left; focus (first | with_reducible exact Nat.le_refl _ | omega | (simp; done) | (simp; omega) | (simp [World.setCell]; done) | (simp [World.setCell]; omega))))))
  clear hb hB
  have HP := Lib.hid hP
  clear hP
  go_wp2_with fail
  refine (rnew_yes c regs A n nc R _ hl hn (by exact (hA.below hbel1).more hbel1.size) HOK.out HR.out hR64).mono ?_
  rintro e w2 ⟨s', g', rv, rc, tv', l', rfl, hQ, hlt', hb2⟩
  have HQ := Lib.hid hQ
  have hP := HP.out
  have hP2 := Lib.hid (hP.below hb2)
  have hlb := fun b h => (hP.ls.blk (b := b) h).2.1
  have hsl := hP.blk.lt
  have hgl := hP.rawb.lt
  clear hP hQ
  go_wp2_with fail
  go_ret3
  exact ⟨s, g, s', g', tv, tv', l, l', rv, rc, w1.heap.size, rfl, by simpa using hP2.out, HQ.out, hlt, hlt', hbel1.trans (hb2.mono hbel1.size), hbel1.size, hlb, hsl, hgl⟩
end Go.Proofs.Ytpmpgnhbpneloaa
