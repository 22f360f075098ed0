/- What plain.New does. -/
import Derived.Test.YtpmpgnhbpneloaaPf
import Derived.Laws.MakeOwn
import Derived.Lib.SliceRun
import Derived.Deep.RegionLaw
import Derived.Deep.AppendLies
namespace Go.Proofs.Ytpmpgnhbpneloaa
open Go.RowKit Go.Joins Go.ChangeShapes Go.WideShapes Go.Deep
set_option linter.unusedVariables false
set_option maxRecDepth 100000

theorem minfo_i64 : (Try.prog.info? 2).map (fun i => (i.zero, i.size, i.bytes)) = some (some (.int .i64 0), 1, 8) := by kernel_rfl
theorem info_thing : (Try.prog.info? 71).map (fun i => (i.zero, i.size, i.bytes)) = some (some (.agg #[.int .i64 0, .int .i64 0, .slice none 0 0, .slice none 0 0]), 4, 64) := by kernel_rfl
theorem made_ints (n : Nat) : madeCells #[.int .i64 0] n = (ints (List.replicate n 0)).toArray := by
  apply Array.ext'
  rw [toList_madeCells_one]
  simp [ints]
theorem mk_ints (n : Nat) (h : n ≤ 1024) (W : World) : (Instr.makeSlice 34 (.int .i64 (n : Int)) (.int .i64 (n : Int))).run Try.prog W = .ok (.slice (some ⟨W.heap.size, 0, none⟩) n n) (W.alloc (.cells (ints (List.replicate n 0)).toArray 2)) := by
  obtain ⟨i, hi, hz, hs, hb⟩ := info_parts minfo_i64
  have hr := run_make (P := Try.prog) W 34 2 i _ Try.underlying34 hi hz .i64 .i64 (n : Int) (n : Int) (by omega) (by omega) (by rw [hb]; omega) (by omega)
  rw [hs, Int.toNat_natCast, Nat.mul_one] at hr
  rw [← made_ints]
  exact hr

theorem setCell_same {w : World} {b : Nat} {t : TypeId} {cs : Array Value} (h : Blk w b t cs) {i : Nat} {u : Value} (hu : cs[i]? = some u) : w.setCell ⟨b, i, none⟩ u = w := by
  have hh : (w.setCell ⟨b, i, none⟩ u).heap = w.heap := by
    apply Array.ext
    · simp [World.setCell]
    · intro j h1 h2
      simp only [World.setCell, Array.getElem_modify]
      by_cases hj : b = j
      · subst hj
        rw [if_pos rfl]
        have hb : w.heap[b] = .cells cs t (0, 0) := by
          have := h
          unfold Blk at this
          rw [Array.getElem?_eq_getElem h2] at this
          injection this
        rw [hb]
        have hi : i < cs.size := (Array.getElem?_eq_some_iff.1 hu).1
        have : cs.setIfInBounds i u = cs := by
          apply Array.ext
          · simp
          · intro q h1 h2
            rw [Array.getElem_setIfInBounds h2]
            by_cases hq : i = q
            · subst hq
              rw [if_pos rfl]
              exact (Array.getElem?_eq_some_iff.1 hu).2.symm
            · rw [if_neg hq]
        simp [this]
      · rw [if_neg hj]
  have e : w.setCell ⟨b, i, none⟩ u = { w with heap := (w.setCell ⟨b, i, none⟩ u).heap } := rfl
  rw [e, hh]
theorem setCells_same {w : World} {b : Nat} {t : TypeId} {cs : Array Value} (h : Blk w b t cs) : ∀ (l : List Value) (o : Nat), (∀ (j : Nat) u, l[j]? = some u → cs[o + j]? = some u) → w.setCells b o l = w
  | [], _, _ => rfl
  | u :: l, o, hl => by
    rw [World.setCells, setCell_same h (by simpa using hl 0 u rfl)]
    exact setCells_same h l (o + 1) fun j v hv => by rw [Nat.add_assoc, Nat.add_comm 1 j]; exact hl (j + 1) v hv

/-- A list of zeros is cleared: nothing turns. -/
theorem clear_zeros (w : World) (b n ty : Nat) (h : Blk w b 2 (ints (List.replicate n 0)).toArray) :
    (Builtin.clear_ #[34] ty #[.slice (some ⟨b, 0, none⟩) n n]).run Try.prog w = .ok (.tuple #[]) w := by
  by_cases hn : n = 0
  · subst hn
    simp [Builtin.clear_, run_underlying Try.underlying34]
  · have hz : ∀ j, j < n → (ints (List.replicate n 0)).toArray[j]? = some (.int .i64 0) := by
      intro j hj
      simp [ints, hj]
    obtain ⟨i0, hi0, hz0, _, _⟩ := info_parts minfo_i64
    rw [Lib.run_clear_slice w 34 2 ty (.int .i64 0) Try.underlying34 (fun w => by simp [zeroValue, typeInfo, hi0, hz0]) rfl rfl b 0 n n (by omega) (fun j hj => by rw [Nat.zero_add, h.cell]; simp [hz j hj]) (fun j _ => h.frozen _)]
    congr 1
    apply setCells_same h
    intro j u hu
    rw [List.getElem?_replicate] at hu
    by_cases hj : j < n
    · rw [if_pos hj] at hu
      injection hu with hu
      rw [Nat.zero_add, hz j hj, hu]
    · rw [if_neg hj] at hu
      cases hu

theorem below_new {w : World} {o : Obj} : Below w.heap.size w (w.alloc o) := (Below.refl _ _).alloc (Nat.le_refl _) _
theorem PIs.snoc {W3 W4 w2 : World} {base s g : Nat} {tv tv' : Value} {raw : List Int} {l : List TM} {x : TM} (h : PIs W3 base s g tv raw l) (hx : ThingIs W3 base x) (hsv : ∀ y ∈ l, sep y.vv x.vv) (hsr : x.vv.ownBlock ≠ some g) (hpv : x.pv = .slice none 0 0)
    (hb : Below W3.heap.size W3 W4) (hgrow : W4.grownBy w2 tv.ownBlock) (hown : w2.ownsRow base 71 4 tv' (l.length + 1) (rows TM.cells l ++ x.cells)) :
    PIs (w2.setCell ⟨s, 1, none⟩ tv') base s g tv' raw (l ++ [x]) ∧ Below base W3 (w2.setCell ⟨s, 1, none⟩ tv') := by
  have hW := h.below hb
  have hx4 : ThingIs W4 base x := hx.keep fun b hb' => hb.block b (by
    rcases hb' with e | e
    · exact (hx.vs.lt b e).2
    · exact (hx.ps.lt b e).2)
  have ns : tv.ownBlock ≠ some s := fun e => hW.ls.ne (.inl e) hW.blk (by decide) (by decide) (by decide) rfl
  have ng : tv.ownBlock ≠ some g := own_blk_ne hW.ls.row hW.rawb (by decide)
  have hsg : g ≠ s := hW.rawb.ne_ hW.blk (by decide)
  have hl2 := hW.ls.snoc hx4 hsv (fun y _ b _ e => by rw [hpv] at e; simp [Value.ownBlock] at e) (by decide) (by decide) hgrow hown
  have hs2 := hW.blk.grown hgrow (fun e => ns e.symm)
  refine ⟨⟨hs2.set_ 1 tv', (hW.rawb.grown hgrow (fun e => ng e.symm)).far (p := ⟨s, 1, none⟩) hsg _, hl2.far (p := ⟨s, 1, none⟩) (fun b hb => hl2.ne hb hs2 (by decide) (by decide) (by decide)) _, ?_, h.b0, h.b1⟩, ?_⟩
  · intro y hy
    rcases List.mem_append.1 hy with hy | hy
    · exact h.sepr y hy
    · simp at hy
      subst hy
      exact hsr
  · refine Below.setCell ?_ h.b0 _
    have hsz := h.blk.lt
    have hb0 := h.b0
    exact (hb.mono (by omega)).trans ⟨hgrow.os, hgrow.tape, hgrow.output, hgrow.size, fun q hq => hgrow.block q (by have := hb.size; omega) (fun e => by have := (hW.ls.row.lt q e.symm).1; omega)⟩
end Go.Proofs.Ytpmpgnhbpneloaa
