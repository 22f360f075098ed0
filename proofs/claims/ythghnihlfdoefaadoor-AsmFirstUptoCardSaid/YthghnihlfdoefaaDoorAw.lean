/- strings.Builder at a builder that the call has made: copyCheck, WriteByte, WriteString. -/
import Derived.Test.YthghnihlfdoefaaDoorOw
import Derived.Test.YthghnihlfdoefaaDoorAh
import Derived.Lib.Builder
import Derived.Lib.AppendStr
import Derived.Lib.UnsafeStr
import Derived.Lib.Walk
import Derived.Laws.Externs
namespace Go.Proofs.YthghnihlfdoefaaDoor
open Go.RowKit Go.Joins Go.ChangeShapes Go.WideShapes Go.Deep
set_option linter.unusedVariables false
set_option linter.unusedSimpArgs false
set_option maxRecDepth 100000

/-- A builder in a block of the call's own that holds bytes. -/
def Bld (b : Nat) (l : List UInt8) (w : World) : Prop := Lib.IsBuilder 44 5 b b (Lib.byteCells l) w
/-- What a write into it may change. -/
def BldS (w : World) (b : Nat) (q : Nat) : Prop := q = b ∨ (b ≤ q ∧ ∃ cs, Blk w q 5 cs)
theorem Bld.new (w : World) : Bld w.heap.size [] (w.alloc (.cells #[.pointer none, .slice none 0 0] 44)) := Lib.fresh_isBuilder _ _ w
theorem Bld.at_ {b : Nat} {l : List UInt8} {w : World} (h : Bld b l w) : ∃ p v, (p = none ∨ p = some (⟨b, 0, none⟩ : Addr)) ∧ Blk w b 44 #[.pointer p, v] ∧ w.ownsRow b 5 1 v l.length (byc l) := by
  rcases h with ⟨_, v, hb, hown, _⟩ | ⟨_, v, hb, hown, _⟩
  · exact ⟨none, v, .inl rfl, hb, by rw [Lib.byteCells_length] at hown; exact hown⟩
  · exact ⟨some ⟨b, 0, none⟩, v, .inr rfl, hb, by rw [Lib.byteCells_length] at hown; exact hown⟩
theorem Bld.of {b : Nat} {l : List UInt8} {w : World} {p : Option Addr} {v : Value} (hp : p = none ∨ p = some (⟨b, 0, none⟩ : Addr)) (hb : Blk w b 44 #[.pointer p, v]) (hown : w.ownsRow b 5 1 v l.length (byc l)) : Bld b l w := by
  have hne : v.ownBlock ≠ some b := own_ne_blk hown hb (by decide)
  have hown' : w.ownsRow b 5 1 v (Lib.byteCells l).length (Lib.byteCells l) := by rw [Lib.byteCells_length]; exact hown
  rcases hp with rfl | rfl
  · exact .inl ⟨Nat.le_refl _, v, hb, hown', hne⟩
  · exact .inr ⟨Nat.le_refl _, v, hb, hown', hne⟩
theorem Bld.lt {b : Nat} {l : List UInt8} {w : World} (h : Bld b l w) : b < w.heap.size := by
  obtain ⟨p, v, _, hb, _⟩ := h.at_
  exact hb.lt
theorem Bld.keep {b : Nat} {l : List UInt8} {w w' : World} (h : Bld b l w) (hb : Below w.heap.size w w') : Bld b l w' := by
  obtain ⟨p, v, hp, hbk, hown⟩ := h.at_
  exact Bld.of hp (hbk.below hb hbk.lt) (own_beb hown hb)
theorem info_bld : (Tryd.prog.info? 44).map (fun i => (i.zero, i.size, i.bytes)) = some (some (.agg #[.pointer none, .slice none 0 0]), 2, 32) := by kernel_rfl
theorem lies_bld : liesAt Tryd.prog Tryd.prog.depth 44 (2 / Tryd.prog.cellsOf 44) 0 44 1 = true := by kernel_rfl

set_option maxHeartbeats 1000000 in
theorem copyCheck_used (b : Nat) (w : World) (h0 : w.cell? ⟨b, 0, none⟩ = some (.pointer (some ⟨b, 0, none⟩))) :
    Calls Tryd.prog 42 #[.pointer (some ⟨b, 0, none⟩)] w fun e w' => e = .returned (.tuple #[]) ∧ w' = w := by
  obtain ⟨i0, hi, _, _, _⟩ := info_parts info_bld
  go_enter Tryd.func42, Tryd.ntmps42
  go_wp2
  rw [Lib.run_neq_ptr_same w _ Tryd.underlying41 hi]
  go_wp2
  go_end0
  exact ⟨rfl, rfl⟩

set_option maxHeartbeats 1000000 in
theorem copyCheck_fresh (b : Nat) (w : World) (h0 : w.cell? ⟨b, 0, none⟩ = some (.pointer none)) (hsh : w.shape? b = some (44, 2)) (hfz : w.frozen? ⟨b, 0, none⟩ = false) :
    Calls Tryd.prog 42 #[.pointer (some ⟨b, 0, none⟩)] w fun e w' => e = .returned (.tuple #[]) ∧ w' = w.setCell ⟨b, 0, none⟩ (.pointer (some ⟨b, 0, none⟩)) := by
  obtain ⟨i0, hi, _, hsz, _⟩ := info_parts info_bld
  go_enter Tryd.func42, Tryd.ntmps42
  go_wp2
  rw [Lib.run_to_unsafe w ⟨b, 0, none⟩ Tryd.underlying41 Tryd.underlying120 hi (by rw [hsz]; decide) hsh (Nat.zero_lt_succ 1)]
  simp only [Result.andThen]
  rw [Oper.upon_value]
  go_wp2
  rw [run_callFunc_extern Tryd.func60 (by kernel_rfl) (by kernel_rfl) (by kernel_rfl) (e := Extern.AbiNoEscape.same) (by kernel_rfl)]
  rw [Lib.run_noEscape]
  simp only [Result.andThen]
  rw [Oper.upon_value]
  go_wp2
  rw [Lib.run_from_unsafe w ⟨b, 0, none⟩ Tryd.underlying120 Tryd.underlying41 hi hsh lies_bld]
  simp only [Result.andThen]
  rw [Oper.upon_value]
  go_wp2
  go_end0
  exact ⟨rfl, rfl⟩
theorem copyCheck_any {b : Nat} {w : World} {p : Option Addr} {v : Value} (hp : p = none ∨ p = some (⟨b, 0, none⟩ : Addr)) (hb : Blk w b 44 #[.pointer p, v]) :
    Calls Tryd.prog 42 #[.pointer (some ⟨b, 0, none⟩)] w fun e w' => e = .returned (.tuple #[]) ∧ Blk w' b 44 #[.pointer (some ⟨b, 0, none⟩), v] ∧ Frm w w' (fun q => q = b) := by
  rcases hp with rfl | rfl
  · refine (copyCheck_fresh b w ((hb.cell 0).trans rfl) ?_ (hb.frozen 0)).mono ?_
    · have h := hb
      unfold Blk at h
      simp [World.shape?, h]
    · rintro e w' ⟨rfl, rfl⟩
      exact ⟨rfl, hb.set_ 0 _, (Frm.refl w _).set b 0 _ (.inl rfl)⟩
  · refine (copyCheck_used b w ((hb.cell 0).trans rfl)).mono ?_
    rintro e w' ⟨rfl, rfl⟩
    exact ⟨rfl, hb, Frm.refl _ _⟩
theorem Frm.weak {w w' : World} {S S' : Nat → Prop} (h : Frm w w' S) (hs : ∀ q, S q → S' q) : Frm w w' S' := ⟨h.os, h.tape, h.output, h.size, fun q hq hn => h.block q hq fun hh => hn (hs q hh)⟩
theorem bld_row {w w1 : World} {b n : Nat} {p : Option Addr} {v : Value} {xs : List Value} (hb : Blk w b 44 #[.pointer p, v]) (hf : Frm w w1 (fun q => q = b)) (hown : w1.ownsRow b 5 1 v n xs) : ∀ q, v.ownBlock = some q → BldS w b q ∨ w.heap.size ≤ q := fun q hq => by
  obtain ⟨cs, hc⟩ := own_blk hown hq
  have hbq := (hown.lt q hq).1
  by_cases hlt : q < w.heap.size
  · by_cases hqb : q = b
    · exact .inl (.inl hqb)
    · exact .inl (.inr ⟨hbq, cs, (hf.block q hlt hqb).symm.trans hc⟩)
  · exact .inr (by omega)
/-- What a write leaves. -/
def BldPost (w : World) (b : Nat) (l : List UInt8) (v : Value) (e : Ending) (w' : World) : Prop := e = .returned v ∧ Bld b l w' ∧ Frm w w' (BldS w b)
set_option maxHeartbeats 2000000 in
theorem writeByte_any (b : Nat) (l : List UInt8) (z : Int) (c : UInt8) (hz : z = (c.toNat : Int)) (w : World) (h : Bld b l w) (hl : l.length + 1 ≤ 140737488355328) :
    Calls Tryd.prog 23 #[.pointer (some ⟨b, 0, none⟩), .int .u8 z] w (BldPost w b (l ++ [c]) .nilIface) := by
  obtain ⟨i0, hi, hz0, hz1, hz2⟩ := info_parts info_u8
  obtain ⟨p, v, hp, hb, hown⟩ := h.at_
  have HZ := Lib.hid hz
  clear hz h
  have HB := Lib.hid hb
  have HOWN := Lib.hid hown
  have hblt := hb.lt
  go_enter Tryd.func23, Tryd.ntmps23
  go_upto_region 2 with (go_at_call 42; refine (copyCheck_any hp HB.out).mono ?_; rintro e w1 ⟨rfl, hb1, hf1⟩)
  have hown1 : w1.ownsRow b 5 1 v l.length (byc l) := own_keep HOWN.out fun q hq => hf1.block q (HOWN.out.lt q hq).2 fun hh => own_ne_blk HOWN.out HB.out (by decide) (hh ▸ hq)
  have hs1 := hf1.size
  have HF1 := Lib.hid hf1
  have c1 : w1.cell? ⟨b, 1, none⟩ = some v := (hb1.cell 1).trans rfl
  clear hf1 hown hb
  have hc2 : ∀ u ∈ ([.int .u8 z] : List Value), u.oneCell' = true := (by intro u hu; simp at hu; subst hu; rfl)
  have hc3 : l.length + 1 ≤ maxLen := (by unfold maxLen; omega)
  have hc4 : (l.length + 1) * 1 ≤ 140737488355328 := (by omega)
  have hc5 : b ≤ (w1.alloc (.cells #[.int .u8 z] 5)).heap.size := (by simp; omega)
  obtain ⟨R, cR, rfl, _, _⟩ := own_shapes hown1
  go_wp2_with (at_builtin; go_must (refine wpList_append_own _ rfl _ _ 42 rfl b 5 i0 (.int .u8 0) 1 1 Tryd.underlying42 hi hz0 hz1 hz2 rfl (by decide) _ _ _ rfl (hown1.alloc _) ⟨w1.heap.size, 0, none⟩ 1 1 [.int .u8 z] rfl rfl (cell_one_new _ _ _) hc2 hc3 hc4 hc5 ?_; intro v' w2 hown2 hgrow2 _; (have hb2 : Blk w2 b 44 #[.pointer (some ⟨b, 0, none⟩), .slice R l.length cR] := (hb1.alloc _).grown hgrow2 (fun hh => own_ne_blk hown1 hb1 (by decide) hh.symm)); (have d1 : w2.cell? ⟨b, 1, none⟩ = some (.slice R l.length cR) := (hb2.cell 1).trans rfl); (have d2 : w2.frozen? ⟨b, 1, none⟩ = false := hb2.frozen 1); (obtain ⟨R2, cR2, rfl, _, _⟩ := own_shapes hown2)))
  go_ret
  have hF2 : Frm w w2 (BldS w b) := ((HF1.out.weak (fun q hq => .inl hq)).alloc _).grown hgrow2 (bld_row HB.out HF1.out hown1)
  refine ⟨rfl, Bld.of (.inr rfl) (hb2.set_ 1 _) ?_, hF2.set b 1 _ (.inl (.inl rfl))⟩
  have := own_set hown2 hb2 (by decide) (.slice R2 (l.length + 1) cR2) (i := 1)
  rw [List.length_append, byc_append]
  rw [HZ.out] at this
  exact this
set_option maxHeartbeats 2000000 in
theorem writeString_any (b : Nat) (l : List UInt8) (s : ByteArray) (w : World) (h : Bld b l w) (hl : l.length + s.size ≤ 140737488355328) :
    Calls Tryd.prog 20 #[.pointer (some ⟨b, 0, none⟩), .string s] w (BldPost w b (l ++ s.data.toList) (.tuple #[.int .i64 s.size, .nilIface])) := by
  obtain ⟨i0, hi, hz0, hz1, hz2⟩ := info_parts info_u8
  obtain ⟨p, v, hp, hb, hown⟩ := h.at_
  clear h
  have HB := Lib.hid hb
  have HOWN := Lib.hid hown
  have hblt := hb.lt
  go_enter Tryd.func20, Tryd.ntmps20
  go_upto_region 2 with (go_at_call 42; refine (copyCheck_any hp HB.out).mono ?_; rintro e w1 ⟨rfl, hb1, hf1⟩)
  have hown1 : w1.ownsRow b 5 1 v l.length (byc l) := own_keep HOWN.out fun q hq => hf1.block q (HOWN.out.lt q hq).2 fun hh => own_ne_blk HOWN.out HB.out (by decide) (hh ▸ hq)
  have hs1 := hf1.size
  have HF1 := Lib.hid hf1
  have c1 : w1.cell? ⟨b, 1, none⟩ = some v := (hb1.cell 1).trans rfl
  clear hf1 hown hb
  have hc3 : l.length + s.size ≤ maxLen := (by unfold maxLen; omega)
  have hc5 : b ≤ w1.heap.size := (by omega)
  obtain ⟨R, cR, rfl, _, _⟩ := own_shapes hown1
  go_wp2_with (at_builtin; go_must (refine Lib.wpList_append_own_string _ rfl _ _ 42 9 rfl b 5 i0 Tryd.underlying42 Tryd.underlying9 hi hz0 hz1 hz2 _ _ _ rfl hown1 s rfl hc3 hl hc5 ?_; intro v' w2 hown2 hgrow2 _; (have hb2 : Blk w2 b 44 #[.pointer (some ⟨b, 0, none⟩), .slice R l.length cR] := hb1.grown hgrow2 (fun hh => own_ne_blk hown1 hb1 (by decide) hh.symm)); (have d1 : w2.cell? ⟨b, 1, none⟩ = some (.slice R l.length cR) := (hb2.cell 1).trans rfl); (have d2 : w2.frozen? ⟨b, 1, none⟩ = false := hb2.frozen 1); (obtain ⟨R2, cR2, rfl, _, _⟩ := own_shapes hown2)))
  go_ret2
  have hF2 : Frm w w2 (BldS w b) := (HF1.out.weak (fun q hq => .inl hq)).grown hgrow2 (bld_row HB.out HF1.out hown1)
  refine ⟨rfl, Bld.of (.inr rfl) (hb2.set_ 1 _) ?_, hF2.set b 1 _ (.inl (.inl rfl))⟩
  have := own_set hown2 hb2 (by decide) (.slice R2 (l.length + s.size) cR2) (i := 1)
  rw [List.length_append, byc_append, Array.length_toList]
  exact this
end Go.Proofs.YthghnihlfdoefaaDoor
