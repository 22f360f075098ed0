/- What plain.New does. -/
import Derived.Test.YtpmpgnhbpneloaaPg
namespace Go.Proofs.Ytpmpgnhbpneloaa
open Go.RowKit Go.Joins Go.ChangeShapes Go.WideShapes Go.Deep
set_option linter.unusedVariables false
set_option maxRecDepth 100000

theorem pnew_no (c : Cfg) (regs : List Reg) (A : Option Addr) (n nc : Nat) (w : World) (hl : regs.length = n) (hn : n ≤ 9223372036854775807) (hA : Reads w w.heap.size 2 A n (rows Reg.cells regs)) (hno : ¬ cfgOk c regs) :
    Calls Try.prog 21 #[.agg #[.int .i64 c.raw, .int .i64 c.ring, .int .i64 c.writes, .int .i64 c.stamps, .bool c.multi, .int .i64 c.tries, .slice A n nc]] w fun e w' => e = .returned (.tuple #[.pointer none, .int .i64 13]) ∧ Below w.heap.size w w' := by
  have HC := fun w' h => pcheck_any c regs A n nc w' w.heap.size hl hn h
  rw [checkF_no hno] at HC
  clear hno
  go_enter Try.func21, Try.ntmps21
  go_wp2_with fail
  refine (HC _ (by simp) (by exact hA.alloc (Nat.le_refl _) _)).mono ?_
  rintro e w1 ⟨rfl, hb⟩
  go_wp2_with fail
  go_ret2
  exact ⟨rfl, (by refine Below.trans ?_ (hb.mono (by simp)); repeat (first | with_reducible exact Below.refl _ _ | with_reducible refine Below.drew ?_ | with_reducible refine below_drewN ?_ _ | ((with_reducible refine Below.alloc ?_ ?_ _); (rotate_left; focus (first | with_reducible exact Nat.le_refl _ | omega | (simp; done) | (simp; omega) | (simp [World.setCell]; done) | (simp [World.setCell]; omega)))) | ((with_reducible refine Below.setCell ?_ ?_ _); (rotate_left; focus (first | with_reducible exact Nat.le_refl _ | omega | (simp; done) | (simp; omega) | (simp [World.setCell]; done) | (simp [World.setCell]; omega))))))⟩

def RelN (w : World) (regs : List Reg) (R n s g : Nat) (gk : Nat) (i : Value) (wr : World) : Prop :=
  ∃ (k : Nat) (tv : Value) (l : List TM), i = .int .i64 k ∧ k ≤ n ∧ gk = n - k ∧ PIs wr w.heap.size s g tv (List.replicate R 0) l ∧ l.length = k ∧ l.map TM.t = (regs.take k).map thing0 ∧ Below w.heap.size w wr

set_option maxHeartbeats 4000000 in
theorem pnew_yes (c : Cfg) (regs : List Reg) (A : Option Addr) (n nc R : Nat) (w : World) (hl : regs.length = n) (hn : n ≤ 8) (hA : Reads w w.heap.size 2 A n (rows Reg.cells regs)) (hok : cfgOk c regs) (hR : c.raw = (R : Int)) (hR64 : R ≤ 64) :
    Calls Try.prog 21 #[.agg #[.int .i64 c.raw, .int .i64 c.ring, .int .i64 c.writes, .int .i64 c.stamps, .bool c.multi, .int .i64 c.tries, .slice A n nc]] w fun e w' =>
      ∃ (s g : Nat) (tv : Value) (l : List TM), e = .returned (.tuple #[.pointer (some ⟨s, 0, none⟩), .int .i64 0]) ∧ PIs w' w.heap.size s g tv (List.replicate R 0) l ∧ l.map TM.t = regs.map thing0 ∧ Below w.heap.size w w' := by
  have HC := fun w' h => pcheck_any c regs A n nc w' w.heap.size hl (by omega) h
  rw [checkF_yes hok] at HC
  have HOK : Hid (∀ r ∈ regs, regOk r) := Lib.hid hok.2.2.2.2.2.2.2.2.2.2.2
  have HL := Lib.hid hl
  obtain ⟨i0, hi0, hz0, hz1, hz2⟩ := info_parts info_thing
  clear hok hl
  obtain ⟨raw, ring, writes, stamps, multi, tries⟩ := c
  simp only at hR
  subst hR
  simp only at HC ⊢
  have hmk := mk_ints R (by omega)
  go_enter Try.func21, Try.ntmps21
  go_wp2_with fail
  refine (HC _ (by simp) (by exact hA.alloc (Nat.le_refl _) _)).mono ?_
  rintro e w1 ⟨rfl, hb⟩
  have hB := (Blk.new w 24 #[.int .i64 R, .int .i64 ring, .int .i64 writes, .int .i64 stamps, .bool multi, .int .i64 tries, .slice A n nc]).below hb (by simp)
  have c0 : w1.cell? ⟨w.heap.size, 0, none⟩ = some (.int .i64 R) := (hB.cell 0).trans rfl
  have c6 : w1.cell? ⟨w.heap.size, 6, none⟩ = some (.slice A n nc) := (hB.cell 6).trans rfl
  have hlt := hB.lt
  have hbel1 : Below w.heap.size w w1 := (by refine Below.trans ?_ (hb.mono (by simp)); repeat (first | with_reducible exact Below.refl _ _ | with_reducible refine Below.drew ?_ | with_reducible refine below_drewN ?_ _ | ((with_reducible refine Below.alloc ?_ ?_ _); (rotate_left; focus (first | with_reducible exact Nat.le_refl _ | omega | (simp; done) | (simp; omega) | (simp [World.setCell]; done) | (simp [World.setCell]; omega)))) | ((with_reducible refine Below.setCell ?_ ?_ _); (rotate_left; focus (first | with_reducible exact Nat.le_refl _ | omega | (simp; done) | (simp; omega) | (simp [World.setCell]; done) | (simp [World.setCell]; omega))))))
  have hsz1 := hbel1.size
  clear HC hb
  go_wp2_with fail
  clear hmk c0 c6
  go_loopg [22] n (fun gk i wr => RelN w regs R n (w1.heap.size + 1) w1.heap.size gk i wr)
  case atStart =>
    refine ⟨0, .slice none 0 0, [], rfl, Nat.zero_le _, rfl, ?_, rfl, rfl, by repeat (first | with_reducible exact hbel1 | with_reducible refine Below.drew ?_ | with_reducible refine below_drewN ?_ _ | ((with_reducible refine Below.alloc ?_ ?_ _); (rotate_left; focus (first | with_reducible exact Nat.le_refl _ | omega | (simp; done) | (simp; omega) | (simp [World.setCell]; done) | (simp [World.setCell]; omega)))) | ((with_reducible refine Below.setCell ?_ ?_ _); (rotate_left; focus (first | with_reducible exact Nat.le_refl _ | omega | (simp; done) | (simp; omega) | (simp [World.setCell]; done) | (simp [World.setCell]; omega)))))⟩
    have h1 : Blk ((w1.alloc (.cells (ints (List.replicate R 0)).toArray 2)).alloc (.cells #[.slice (some ⟨w1.heap.size, 0, none⟩) R R, .slice none 0 0] 68)) (w1.heap.size + 1) 68 #[.slice (some ⟨w1.heap.size, 0, none⟩) R R, .slice none 0 0] := Blk.new' (by simp)
    exact ⟨by simpa using h1, (Blk.new w1 _ _).alloc _, LIs.nil, by simp, by have := hbel1.size; omega, hbel1.size⟩
  case round =>
    obtain ⟨k, tv, l, rfl, hk, hgk, hP, hll, hlt, hbel⟩ := hrel
    have HG := Lib.hid hgk
    have HLT := Lib.hid hlt
    have HLL := Lib.hid hll
    have hsl := hP.blk.lt
    have cs1 : wr.cell? ⟨w1.heap.size + 1, 1, none⟩ = some tv := (hP.blk.cell 1).trans rfl
    have fs1 : wr.frozen? ⟨w1.heap.size + 1, 1, none⟩ = false := hP.blk.frozen 1
    clear hgk hlt hll
    by_cases hkn : k < n
    · obtain ⟨b, off, rfl, hb, hc⟩ := reads_flat hA (by omega) (by omega)
      obtain ⟨d0, d1⟩ := regs_cell HL.out hc hkn
      have hkl : k < regs.length := by rw [HL.out]; exact hkn
      have hro := HOK.out _ (List.getElem_mem hkl)
      obtain ⟨r, hr⟩ : ∃ r, r = regs[k] := ⟨_, rfl⟩
      rw [← hr] at d0 d1 hro
      have g0 : wr.cell? ⟨b, off + k * 2, none⟩ = some (.int .i64 r.kind) := (hbel.cell (p := ⟨b, off + k * 2, none⟩) (by simp; omega)).trans d0
      have g1 : wr.cell? ⟨b, off + k * 2 + 1, none⟩ = some (.int .i64 r.cap) := (hbel.cell (p := ⟨b, off + k * 2 + 1, none⟩) (by simp; omega)).trans d1
      have HR := Lib.hid hr
      obtain ⟨h1, h2, h3, h4⟩ := hro
      obtain ⟨kind, cap⟩ := r
      simp only at g0 g1 h1 h2 h3 h4
      obtain ⟨C, rfl⟩ := Int.eq_ofNat_of_zero_le h3
      clear d0 d1 hc hr
      by_cases hk1 : kind = 1
      · subst hk1
        have hmk := mk_ints C (by omega)
        have hP3 := ((hP.alloc (.cells #[.int .i64 1, .int .i64 C] 82)).alloc (.cells #[.int .i64 1, .int .i64 C, .slice (some ⟨wr.heap.size + 1 + 1, 0, none⟩) C C, .slice none 0 0] 71)).alloc (.cells (ints (List.replicate C 0)).toArray 2)
        have hT : Blk (((wr.alloc (.cells #[.int .i64 1, .int .i64 C] 82)).alloc (.cells #[.int .i64 1, .int .i64 C, .slice (some ⟨wr.heap.size + 1 + 1, 0, none⟩) C C, .slice none 0 0] 71)).alloc (.cells (ints (List.replicate C 0)).toArray 2)) (wr.heap.size + 1) 71 #[.int .i64 1, .int .i64 C, .slice (some ⟨wr.heap.size + 1 + 1, 0, none⟩) C C, .slice none 0 0] := (Blk.new' (by simp)).alloc _
        have hV : ThingIs (((wr.alloc (.cells #[.int .i64 1, .int .i64 C] 82)).alloc (.cells #[.int .i64 1, .int .i64 C, .slice (some ⟨wr.heap.size + 1 + 1, 0, none⟩) C C, .slice none 0 0] 71)).alloc (.cells (ints (List.replicate C 0)).toArray 2)) w.heap.size ⟨thing0 ⟨1, C⟩, .slice (some ⟨wr.heap.size + 1 + 1, 0, none⟩) C C, .slice none 0 0⟩ := by
          refine ⟨?_, World.ownsRow_nil _ _ _ _⟩
          have h := World.ownsRow_lit (base := w.heap.size) (e := 2) (size := 1) ((wr.alloc (.cells #[.int .i64 1, .int .i64 C] 82)).alloc (.cells #[.int .i64 1, .int .i64 C, .slice (some ⟨wr.heap.size + 1 + 1, 0, none⟩) C C, .slice none 0 0] 71)) (ints (List.replicate C 0)).toArray C (by have := hbel.size; simp; omega) (by unfold maxLen; omega) (by simp [ints])
          simpa [thing0] using h
        have hcl : ∀ ty, (Builtin.clear_ #[34] ty #[.slice (some ⟨wr.heap.size + 1 + 1, 0, none⟩) C C]).run Try.prog (((wr.alloc (.cells #[.int .i64 1, .int .i64 C] 82)).alloc (.cells #[.int .i64 1, .int .i64 C, .slice (some ⟨wr.heap.size + 1 + 1, 0, none⟩) C C, .slice none 0 0] 71)).alloc (.cells (ints (List.replicate C 0)).toArray 2)) = .ok (.tuple #[]) _ := fun ty => clear_zeros _ _ C ty (Blk.new' (by simp))
        have hsv : ∀ y ∈ l, sep y.vv (.slice (some ⟨wr.heap.size + 1 + 1, 0, none⟩) C C) := by
          intro y hy b hb e
          have := ((hP.ls.things y hy).vs.lt b hb).2
          simp [Value.ownBlock] at e
          omega
        have hsr : (Value.slice (some ⟨wr.heap.size + 1 + 1, 0, none⟩) C C).ownBlock ≠ some w1.heap.size := by simp [Value.ownBlock]; have := hP.rawb.lt; omega
        have hbel3 : Below w.heap.size w (((wr.alloc (.cells #[.int .i64 1, .int .i64 C] 82)).alloc (.cells #[.int .i64 1, .int .i64 C, .slice (some ⟨wr.heap.size + 1 + 1, 0, none⟩) C C, .slice none 0 0] 71)).alloc (.cells (ints (List.replicate C 0)).toArray 2)) := by have := hbel.size; repeat (first | with_reducible exact hbel | with_reducible refine Below.drew ?_ | with_reducible refine below_drewN ?_ _ | ((with_reducible refine Below.alloc ?_ ?_ _); (rotate_left; focus (first | with_reducible exact Nat.le_refl _ | omega | (simp; done) | (simp; omega) | (simp [World.setCell]; done) | (simp [World.setCell]; omega)))) | ((with_reducible refine Below.setCell ?_ ?_ _); (rotate_left; focus (first | with_reducible exact Nat.le_refl _ | omega | (simp; done) | (simp; omega) | (simp [World.setCell]; done) | (simp [World.setCell]; omega)))))
        go_wp2_with fail
        clear hcl hmk hP
        generalize ((wr.alloc (.cells #[.int .i64 1, .int .i64 C] 82)).alloc (.cells #[.int .i64 1, .int .i64 C, .slice (some ⟨wr.heap.size + 1 + 1, 0, none⟩) C C, .slice none 0 0] 71)).alloc (.cells (ints (List.replicate C 0)).toArray 2) = W3 at *
        obtain ⟨X, hX⟩ : ∃ X : TM, X = ⟨thing0 ⟨1, C⟩, (.slice (some ⟨wr.heap.size + 1 + 1, 0, none⟩) C C), .slice none 0 0⟩ := ⟨_, rfl⟩
        have hsl := hP3.blk.lt
        have cs1 : W3.cell? ⟨w1.heap.size + 1, 1, none⟩ = some tv := (hP3.blk.cell 1).trans rfl
        have fs1 : W3.frozen? ⟨w1.heap.size + 1, 1, none⟩ = false := hP3.blk.frozen 1
        have t0 : W3.cell? ⟨wr.heap.size + 1, 0, none⟩ = some (.int .i64 1) := (hT.cell 0).trans rfl
        have t1 : W3.cell? ⟨wr.heap.size + 1, 1, none⟩ = some (.int .i64 C) := (hT.cell 1).trans rfl
        have t2 : W3.cell? ⟨wr.heap.size + 1, 2, none⟩ = some ((.slice (some ⟨wr.heap.size + 1 + 1, 0, none⟩) C C)) := (hT.cell 2).trans rfl
        have t3 : W3.cell? ⟨wr.heap.size + 1, 3, none⟩ = some (.slice none 0 0) := (hT.cell 3).trans rfl
        have htl := hT.lt
        have hown := hP3.ls.row
        have ns : tv.ownBlock ≠ some (w1.heap.size + 1) := fun e => hP3.ls.ne (.inl e) hP3.blk (by decide) (by decide) (by decide) rfl
        have hn1 : l.length + 1 ≤ maxLen := by have := HLL.out; unfold maxLen; omega
        have hnb : (l.length + 1) * 64 ≤ 140737488355328 := by have := HLL.out; omega
        have hs3 : w.heap.size ≤ W3.heap.size := hbel3.size
        have HP3 := Lib.hid hP3
        have HV := Lib.hid hV
        have HSV := Lib.hid hsv
        have HSR := Lib.hid hsr
        have HB3 := Lib.hid hbel3
        have HXX := Lib.hid hX
        clear hP3 hT hV hsv hsr hbel3 hX
        go_region_law
          ((refine step_append_lies _ (by rfl) _ _ _ (by rfl) w.heap.size 71 i0 _ 4 64 Try.underlying66 hi0 hz0 hz1 hz2 rfl (by omega) tv l.length (rows TM.cells l) (by rfl) (show _ from hown.alloc _)
              ⟨W3.heap.size, 0, none⟩ 1 1 [.int .i64 1, .int .i64 C, (.slice (some ⟨wr.heap.size + 1 + 1, 0, none⟩) C C), .slice none 0 0] (by rfl) (by rfl) (World.news_of_block (cs := #[.int .i64 1, .int .i64 C, (.slice (some ⟨wr.heap.size + 1 + 1, 0, none⟩) C C), .slice none 0 0]) (t := 71) (fr := (0, 0)) (heap_alloc_new W3 _)) (by simp [Value.oneCell'])
              (by omega) hn1 hnb (by simp; omega) (W3.heap.size + 1) (by simp) ?_; intro gg cap w2 hown1 hgrow hat hlt2; have fl2 : w2.frozen? ⟨w1.heap.size + 1, 1, none⟩ = false := (hgrow.frozen_far ⟨w1.heap.size + 1, 1, none⟩ (by simp; omega) (Ne.symm ns)).trans ((frozen?_alloc_cells W3 _ _ ⟨w1.heap.size + 1, 1, none⟩).trans fs1); have cl2 : w2.cell? ⟨w1.heap.size + 1, 1, none⟩ = some tv := (hgrow.cell_far ⟨w1.heap.size + 1, 1, none⟩ (by simp; omega) (Ne.symm ns)).trans ((World.cell?_alloc_lt W3 _ ⟨w1.heap.size + 1, 1, none⟩ hsl).trans cs1)))
        all_goals
          have hfin := PIs.snoc (x := X) HP3.out (by rw [HXX.out]; exact HV.out) (by rw [HXX.out]; exact HSV.out) (by rw [HXX.out]; exact HSR.out) (by rw [HXX.out]) (by first | exact below_new | exact below_new.drew | exact below_drewN below_new _) hgrow (by rw [HXX.out]; exact hown1)
          have HFIN := Lib.hid hfin
          clear hfin hgrow hown1 hown
          go_wp2_with fail
          go_roundg (n - (k + 1))
          case measure => have := HG.out; omega
          case rel =>
            refine ⟨k + 1, _, l ++ [X], by go_num, by omega, rfl, HFIN.out.1, by rw [List.length_append, HLL.out]; rfl, ?_, HB3.out.trans HFIN.out.2⟩
            rw [List.map_append, HLT.out, List.take_succ_eq_append_getElem hkl, List.map_append, ← HR.out, HXX.out]
            rfl
      · have e1 : (kind == 1) = false := by simp [hk1]
        have hP3 := (hP.alloc (.cells #[.int .i64 kind, .int .i64 C] 82)).alloc (.cells #[.int .i64 kind, .int .i64 C, .slice none 0 0, .slice none 0 0] 71)
        have hT : Blk ((wr.alloc (.cells #[.int .i64 kind, .int .i64 C] 82)).alloc (.cells #[.int .i64 kind, .int .i64 C, .slice none 0 0, .slice none 0 0] 71)) (wr.heap.size + 1) 71 #[.int .i64 kind, .int .i64 C, .slice none 0 0, .slice none 0 0] := Blk.new' (by simp)
        have hV : ThingIs ((wr.alloc (.cells #[.int .i64 kind, .int .i64 C] 82)).alloc (.cells #[.int .i64 kind, .int .i64 C, .slice none 0 0, .slice none 0 0] 71)) w.heap.size ⟨thing0 ⟨kind, C⟩, .slice none 0 0, .slice none 0 0⟩ := by
          refine ⟨?_, World.ownsRow_nil _ _ _ _⟩
          simp only [thing0, hk1, if_false]
          exact World.ownsRow_nil _ _ _ _
        have hsv : ∀ y ∈ l, sep y.vv (.slice none 0 0) := by
          intro y hy b hb e
          simp [Value.ownBlock] at e
        have hsr : (Value.slice none 0 0).ownBlock ≠ some w1.heap.size := by simp [Value.ownBlock]
        have hbel3 : Below w.heap.size w ((wr.alloc (.cells #[.int .i64 kind, .int .i64 C] 82)).alloc (.cells #[.int .i64 kind, .int .i64 C, .slice none 0 0, .slice none 0 0] 71)) := by have := hbel.size; repeat (first | with_reducible exact hbel | with_reducible refine Below.drew ?_ | with_reducible refine below_drewN ?_ _ | ((with_reducible refine Below.alloc ?_ ?_ _); (rotate_left; focus (first | with_reducible exact Nat.le_refl _ | omega | (simp; done) | (simp; omega) | (simp [World.setCell]; done) | (simp [World.setCell]; omega)))) | ((with_reducible refine Below.setCell ?_ ?_ _); (rotate_left; focus (first | with_reducible exact Nat.le_refl _ | omega | (simp; done) | (simp; omega) | (simp [World.setCell]; done) | (simp [World.setCell]; omega)))))
        go_wp2_with fail
        clear e1 hP
        generalize (wr.alloc (.cells #[.int .i64 kind, .int .i64 C] 82)).alloc (.cells #[.int .i64 kind, .int .i64 C, .slice none 0 0, .slice none 0 0] 71) = W3 at *
        obtain ⟨X, hX⟩ : ∃ X : TM, X = ⟨thing0 ⟨kind, C⟩, (.slice none 0 0), .slice none 0 0⟩ := ⟨_, rfl⟩
        have hsl := hP3.blk.lt
        have cs1 : W3.cell? ⟨w1.heap.size + 1, 1, none⟩ = some tv := (hP3.blk.cell 1).trans rfl
        have fs1 : W3.frozen? ⟨w1.heap.size + 1, 1, none⟩ = false := hP3.blk.frozen 1
        have t0 : W3.cell? ⟨wr.heap.size + 1, 0, none⟩ = some (.int .i64 kind) := (hT.cell 0).trans rfl
        have t1 : W3.cell? ⟨wr.heap.size + 1, 1, none⟩ = some (.int .i64 C) := (hT.cell 1).trans rfl
        have t2 : W3.cell? ⟨wr.heap.size + 1, 2, none⟩ = some ((.slice none 0 0)) := (hT.cell 2).trans rfl
        have t3 : W3.cell? ⟨wr.heap.size + 1, 3, none⟩ = some (.slice none 0 0) := (hT.cell 3).trans rfl
        have htl := hT.lt
        have hown := hP3.ls.row
        have ns : tv.ownBlock ≠ some (w1.heap.size + 1) := fun e => hP3.ls.ne (.inl e) hP3.blk (by decide) (by decide) (by decide) rfl
        have hn1 : l.length + 1 ≤ maxLen := by have := HLL.out; unfold maxLen; omega
        have hnb : (l.length + 1) * 64 ≤ 140737488355328 := by have := HLL.out; omega
        have hs3 : w.heap.size ≤ W3.heap.size := hbel3.size
        have HP3 := Lib.hid hP3
        have HV := Lib.hid hV
        have HSV := Lib.hid hsv
        have HSR := Lib.hid hsr
        have HB3 := Lib.hid hbel3
        have HXX := Lib.hid hX
        clear hP3 hT hV hsv hsr hbel3 hX
        go_region_law
          ((refine step_append_lies _ (by rfl) _ _ _ (by rfl) w.heap.size 71 i0 _ 4 64 Try.underlying66 hi0 hz0 hz1 hz2 rfl (by omega) tv l.length (rows TM.cells l) (by rfl) (show _ from hown.alloc _)
              ⟨W3.heap.size, 0, none⟩ 1 1 [.int .i64 kind, .int .i64 C, (.slice none 0 0), .slice none 0 0] (by rfl) (by rfl) (World.news_of_block (cs := #[.int .i64 kind, .int .i64 C, (.slice none 0 0), .slice none 0 0]) (t := 71) (fr := (0, 0)) (heap_alloc_new W3 _)) (by simp [Value.oneCell'])
              (by omega) hn1 hnb (by simp; omega) (W3.heap.size + 1) (by simp) ?_; intro gg cap w2 hown1 hgrow hat hlt2; have fl2 : w2.frozen? ⟨w1.heap.size + 1, 1, none⟩ = false := (hgrow.frozen_far ⟨w1.heap.size + 1, 1, none⟩ (by simp; omega) (Ne.symm ns)).trans ((frozen?_alloc_cells W3 _ _ ⟨w1.heap.size + 1, 1, none⟩).trans fs1); have cl2 : w2.cell? ⟨w1.heap.size + 1, 1, none⟩ = some tv := (hgrow.cell_far ⟨w1.heap.size + 1, 1, none⟩ (by simp; omega) (Ne.symm ns)).trans ((World.cell?_alloc_lt W3 _ ⟨w1.heap.size + 1, 1, none⟩ hsl).trans cs1)))
        all_goals
          have hfin := PIs.snoc (x := X) HP3.out (by rw [HXX.out]; exact HV.out) (by rw [HXX.out]; exact HSV.out) (by rw [HXX.out]; exact HSR.out) (by rw [HXX.out]) (by first | exact below_new | exact below_new.drew | exact below_drewN below_new _) hgrow (by rw [HXX.out]; exact hown1)
          have HFIN := Lib.hid hfin
          clear hfin hgrow hown1 hown
          go_wp2_with fail
          go_roundg (n - (k + 1))
          case measure => have := HG.out; omega
          case rel =>
            refine ⟨k + 1, _, l ++ [X], by go_num, by omega, rfl, HFIN.out.1, by rw [List.length_append, HLL.out]; rfl, ?_, HB3.out.trans HFIN.out.2⟩
            rw [List.map_append, HLT.out, List.take_succ_eq_append_getElem hkl, List.map_append, ← HR.out, HXX.out]
            rfl
    · obtain rfl : k = n := by omega
      go_wp2_with fail
      go_ret2
      refine ⟨_, _, _, _, rfl, hP, ?_, hbel⟩
      rw [HLT.out, List.take_of_length_le (by rw [HL.out]; exact Nat.le_refl _)]
end Go.Proofs.Ytpmpgnhbpneloaa
