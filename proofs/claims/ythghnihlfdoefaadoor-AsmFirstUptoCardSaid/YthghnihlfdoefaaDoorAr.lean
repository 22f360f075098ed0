/- The variables of the library, carried; a label. -/
import Derived.Test.YthghnihlfdoefaaDoorPi
namespace Go.Proofs.YthghnihlfdoefaaDoor
open Go.RowKit Go.Joins Go.ChangeShapes Go.WideShapes Go.Deep Go.Maps Go.Sort
set_option linter.unusedVariables false
set_option linter.unusedSimpArgs false
set_option maxRecDepth 100000

structure Env (w : World) : Prop where
  shapes : ShapesAt w
  pow : Lib.TabIs Tryd.prog w "internal/strconv.uint64pow10" .u64 Lib.pow10Tab
  ascii : Lib.TabIs Tryd.prog w "strings.asciiSpace" .u8 Lib.asciiSpaceTab
  white : Lib.WhiteTab 2 w
/-- In this world and in all that change nothing below a block. -/
def EnvIn (B : Nat) (w : World) : Prop := B ≤ w.heap.size ∧ ∀ w', Below B w w' → Env w'
theorem EnvIn.here {B : Nat} {w : World} (h : EnvIn B w) : Env w := h.2 w (Below.refl _ _)
theorem EnvIn.below {B B' : Nat} {w w' : World} (h : EnvIn B w) (hb : Below B' w w') (hB : B ≤ B') : EnvIn B w' := ⟨Nat.le_trans h.1 hb.size, fun w2 h2 => h.2 w2 ((hb.mono hB).trans h2)⟩
theorem below_grow (w : World) (k : Nat) (os : Array Obj) : Below w.heap.size w (grow (w.drewN k) os) := by
  refine ⟨rfl, rfl, rfl, by simp [grow, World.drewN], fun q hq => ?_⟩
  show (w.heap ++ os)[q]? = w.heap[q]?
  rw [Array.getElem?_append_left hq]
theorem itoa_any {B : Nat} {w : World} (hE : EnvIn B w) (n : Int) (hn : i64ok n) : Calls Tryd.prog 21 #[.int .i64 n] w fun e w' => e = .returned (.string ⟨(Lib.itoa n).toArray⟩) ∧ Below w.heap.size w w' :=
  (Tryd.strconv_Itoa n hn.1 hn.2 w hE.here.pow).mono fun e w' ⟨h1, k, os, h2⟩ => ⟨h1, h2 ▸ below_grow w k os⟩
theorem formatInt_any {B : Nat} {w : World} (hE : EnvIn B w) (n : Int) (hn : i64ok n) : Calls Tryd.prog 22 #[.int .i64 n, .int .i64 10] w fun e w' => e = .returned (.string ⟨(Lib.itoa n).toArray⟩) ∧ Below w.heap.size w w' :=
  (Tryd.strconv_FormatInt_10 n hn.1 hn.2 w hE.here.pow).mono fun e w' ⟨h1, k, os, h2⟩ => ⟨h1, h2 ▸ below_grow w k os⟩
/-- What a label leaves. -/
def LabPost (w : World) (b : Nat) (l : List UInt8) (e : Ending) (w' : World) : Prop := e = .returned (.tuple #[]) ∧ Bld b l w' ∧ Frm w w' (BldS w b)
theorem nDigits_le : ∀ (k u : Nat), u < 10 ^ (k + 1) → Lib.nDigits u ≤ k + 1
  | 0, u, h => by rw [Lib.nDigits_small (by simpa using h)]; exact Nat.le_refl _
  | k + 1, u, h => by
    by_cases h9 : u < 10
    · rw [Lib.nDigits_small h9]
      omega
    · rw [Lib.nDigits_big h9]
      have := nDigits_le k (u / 10) (by rw [Nat.pow_succ] at h; omega)
      omega
theorem itoa_len (n : Int) (h : i64ok n) : (Lib.itoa n).length ≤ 21 := by
  obtain ⟨h1, h2⟩ := h
  unfold Lib.itoa
  split
  · have := nDigits_le 19 n.natAbs (by have : (10 : Nat) ^ (19 + 1) = 100000000000000000000 := by decide
                                       omega)
    rw [List.length_cons, Lib.decDigits_length]
    omega
  · have := nDigits_le 19 n.toNat (by have : (10 : Nat) ^ (19 + 1) = 100000000000000000000 := by decide
                                      omega)
    rw [Lib.decDigits_length]
    omega
set_option maxHeartbeats 2000000 in
theorem label_any {B : Nat} {w : World} (hE : EnvIn B w) (p : Nat) (hp : p ≤ 512) (b13 mm n bb : Nat) (S : Int → Bool) (l : List UInt8) (hl : l.length ≤ 1000000) (h13 : w.cell? ⟨b13, 0, none⟩ = some (.map (some mm))) (hM : BMap w mm n S) (hb : Bld bb l w) :
    Calls Tryd.prog 19 #[.int .i64 p, .pointer (some ⟨b13, 0, none⟩), .pointer (some ⟨bb, 0, none⟩)] w (LabPost w bb (l ++ if S p then labelB p else [])) := by
  have h13l : b13 < w.heap.size := World.block_lt_of_cell? _ _ h13
  have hlk := hM.look (p : Int) ⟨by omega, by omega⟩
  cases hS : S (p : Int)
  · rw [hS] at hlk
    clear hS
    have HB := Lib.hid hb
    clear hb hM
    go_enter Tryd.func19, Tryd.ntmps19
    go_wp2
    go_end0
    exact ⟨rfl, by simpa using HB.out, Frm.refl _ _⟩
  · rw [hS] at hlk
    clear hS
    have HIT := Lib.hid (itoa_any hE (p : Int) ⟨by omega, by omega⟩)
    have HB := Lib.hid hb
    clear hb hM hE
    go_enter Tryd.func19, Tryd.ntmps19
    have hll : (Lib.itoa (p : Int)).length ≤ 21 := itoa_len _ ⟨by omega, by omega⟩
    have HLL := Lib.hid hll
    go_wp2_with (go_at_call 21; refine (HIT.out).mono ?_; rintro e w1 ⟨rfl, hb1⟩)
    have hsz : l.length + (⟨#[76]⟩ ++ ⟨(Lib.itoa (p : Int)).toArray⟩ ++ ⟨#[58, 10]⟩ : ByteArray).size ≤ 140737488355328 := by
      have e1 : (⟨#[76]⟩ ++ ⟨(Lib.itoa (p : Int)).toArray⟩ ++ ⟨#[58, 10]⟩ : ByteArray).size = 1 + (Lib.itoa (p : Int)).length + 2 := by
        simp [ByteArray.size, ByteArray.data_append]
        omega
      rw [e1]
      omega
    refine (writeString_any bb l _ w1 (HB.out.keep hb1) hsz).mono ?_
    rintro e w2 ⟨rfl, hB2, hF2⟩
    have HF2 := Lib.hid hF2
    clear hF2
    go_wp2
    go_end0
    refine ⟨rfl, ?_, ?_⟩
    · have e : (⟨#[76]⟩ ++ ⟨(Lib.itoa (p : Int)).toArray⟩ ++ ⟨#[58, 10]⟩ : ByteArray).data.toList = labelB p := by simp [labelB]
      rw [e] at hB2
      exact hB2
    · exact (Frm.of_below hb1).trans HF2.out fun q hq => by
        rcases hq with rfl | ⟨h1, cs, h2⟩
        · exact .inl (.inl rfl)
        · by_cases hlt : q < w.heap.size
          · exact .inl (.inr ⟨h1, cs, (hb1.block q hlt).symm.trans h2⟩)
          · exact .inr (by omega)
end Go.Proofs.YthghnihlfdoefaaDoor
