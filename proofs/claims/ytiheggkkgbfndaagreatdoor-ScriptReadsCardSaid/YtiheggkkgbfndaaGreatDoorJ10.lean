/- The variables of the library, carried; a label. -/
import Derived.Test.YtiheggkkgbfndaaGreatDoorJ09
import Derived.Test.YtiheggkkgbfndaaGreatDoorJ07
import Derived.Test.YtiheggkkgbfndaaGreatDoorJ04
import Derived.Test.YtiheggkkgbfndaaGreatDoorJ02
import Derived.Deep.LoopGhost
import Derived.WalkLawsBesides
import Derived.Test.YtiheggkkgbfndaaGreatDoorJ01
namespace Go.Proofs.YtiheggkkgbfndaaGreatDoor
open Go.RowKit Go.Joins Go.ChangeShapes Go.WideShapes Go.Deep Go.Maps Go.Sort
set_option linter.unusedVariables false
set_option linter.unusedSimpArgs false
set_option maxRecDepth 100000
structure Env (w : World) : Prop where
 shapes : ShapesAt w
 pow : Lib.TabIs Tryz.prog w "internal/strconv.uint64pow10" .u64 Lib.pow10Tab
 ascii : Lib.TabIs Tryz.prog w "strings.asciiSpace" .u8 Lib.asciiSpaceTab
 white : Lib.WhiteTab 2 w
def EnvIn (B : Nat) (w : World) : Prop := B ≤ w.heap.size ∧ ∀ w', Below B w w' → Env w'
theorem EnvIn.here {B : Nat} {w : World} (h : EnvIn B w) : Env w := h.2 w (Below.refl _ _)
theorem EnvIn.below {B B' : Nat} {w w' : World} (h : EnvIn B w) (hb : Below B' w w') (hB : B ≤ B') : EnvIn B w' := ⟨Nat.le_trans h.1 hb.size, fun w2 h2 => h.2 w2 ((hb.mono hB).trans h2)⟩
theorem below_grow (w : World) (k : Nat) (os : Array Obj) : Below w.heap.size w (grow (w.drewN k) os) := by
 refine ⟨rfl, rfl, rfl, by simp [grow, World.drewN], fun q hq => ?_⟩
 show (w.heap ++ os)[q]? = w.heap[q]?
 rw [Array.getElem?_append_left hq]
theorem itoa_any {B : Nat} {w : World} (hE : EnvIn B w) (n : Int) (hn : i64ok n) : Calls Tryz.prog 69 #[.int .i64 n] w fun e w' => e = .returned (.string ⟨(Lib.itoa n).toArray⟩) ∧ Below w.heap.size w w' :=
 (Tryz.strconv_Itoa n hn.1 hn.2 w hE.here.pow).mono fun e w' ⟨h1, k, os, h2⟩ => ⟨h1, h2 ▸ below_grow w k os⟩
theorem formatInt_any {B : Nat} {w : World} (hE : EnvIn B w) (n : Int) (hn : i64ok n) : Calls Tryz.prog 70 #[.int .i64 n, .int .i64 10] w fun e w' => e = .returned (.string ⟨(Lib.itoa n).toArray⟩) ∧ Below w.heap.size w w' :=
 (Tryz.strconv_FormatInt_10 n hn.1 hn.2 w hE.here.pow).mono fun e w' ⟨h1, k, os, h2⟩ => ⟨h1, h2 ▸ below_grow w k os⟩
def LabPost (w : World) (b : Nat) (l : List UInt8) (e : Ending) (w' : World) : Prop := e = .returned (.tuple #[]) ∧ Bld b l w' ∧ Frm w w' (BldS w b)
theorem nDigits_le : ∀ (k u : Nat), u < 10 ^ (k + 1) → Lib.nDigits u ≤ k + 1
 | 0, u, h => by rw [Lib.nDigits_small (by simpa using h)]; exact Nat.le_refl _
 | k + 1, u, h => by
  by_cases h9 : u < 10
  ·rw [Lib.nDigits_small h9]
   omega
  ·rw [Lib.nDigits_big h9]
   have := nDigits_le k (u / 10) (by rw [Nat.pow_succ] at h; omega)
   omega
theorem itoa_len (n : Int) (h : i64ok n) : (Lib.itoa n).length ≤ 21 := by
  obtain ⟨h1, h2⟩ := h
  unfold Lib.itoa
  split
  · have := nDigits_le 19 n.natAbs (by have : (10 : Nat) ^ (19 + 1) = 100000000000000000000 := by decide
                                       omega)
    rw [List.length_cons, Lib.decDigits_length]
    omega
  · have := nDigits_le 19 n.toNat (by have : (10 : Nat) ^ (19 + 1) = 100000000000000000000 := by decide
                                      omega)
    rw [Lib.decDigits_length]
    omega
set_option maxHeartbeats 2000000 in
theorem label_any {B : Nat} {w : World} (hE : EnvIn B w) (p : Nat) (hp : p ≤ 512) (b13 mm n bb : Nat) (S : Int → Bool) (l : List UInt8) (hl : l.length ≤ 1000000) (h13 : w.cell? ⟨b13, 0, none⟩ = some (.map (some mm))) (hM : BMap w mm n S) (hb : Bld bb l w) :
  Calls Tryz.prog 68 #[.int .i64 p, .pointer (some ⟨b13, 0, none⟩), .pointer (some ⟨bb, 0, none⟩)] w (LabPost w bb (l ++ if S p then labelB p else [])) := by
 have h13l : b13 < w.heap.size := World.block_lt_of_cell? _ _ h13
 have hlk := hM.look (p : Int) ⟨by omega, by omega⟩
 cases hS : S (p : Int)
 ·rw [hS] at hlk
  clear hS
  have HB := Lib.hid hb
  clear hb hM
  go_enter Tryz.func68, Tryz.ntmps68
  go_wp2
  go_end0
  exact ⟨rfl, by simpa using HB.out, Frm.refl _ _⟩
 ·rw [hS] at hlk
  clear hS
  have HIT := Lib.hid (itoa_any hE (p : Int) ⟨by omega, by omega⟩)
  have HB := Lib.hid hb
  clear hb hM hE
  go_enter Tryz.func68, Tryz.ntmps68
  have hll : (Lib.itoa (p : Int)).length ≤ 21 := itoa_len _ ⟨by omega, by omega⟩
  have HLL := Lib.hid hll
  go_wp2_with (go_at_call 69; refine (HIT.out).mono ?_; rintro e w1 ⟨rfl, hb1⟩)
  have hsz : l.length + (⟨#[76]⟩ ++ ⟨(Lib.itoa (p : Int)).toArray⟩ ++ ⟨#[58, 10]⟩ : ByteArray).size ≤ 140737488355328 := by
   have e1 : (⟨#[76]⟩ ++ ⟨(Lib.itoa (p : Int)).toArray⟩ ++ ⟨#[58, 10]⟩ : ByteArray).size = 1 + (Lib.itoa (p : Int)).length + 2 := by
    simp [ByteArray.size, ByteArray.data_append]
    omega
   rw [e1]
   omega
  refine (writeString_any bb l _ w1 (HB.out.keep hb1) hsz).mono ?_
  rintro e w2 ⟨rfl, hB2, hF2⟩
  have HF2 := Lib.hid hF2
  clear hF2
  go_wp2
  go_end0
  refine ⟨rfl, ?_, ?_⟩
  ·have e : (⟨#[76]⟩ ++ ⟨(Lib.itoa (p : Int)).toArray⟩ ++ ⟨#[58, 10]⟩ : ByteArray).data.toList = labelB p := by simp [labelB]
   rw [e] at hB2
   exact hB2
  ·exact (Frm.of_below hb1).trans HF2.out fun q hq => by
    rcases hq with rfl | ⟨h1, cs, h2⟩
    ·exact .inl (.inl rfl)
    ·by_cases hlt : q < w.heap.size
     ·exact .inl (.inr ⟨h1, cs, (hb1.block q hlt).symm.trans h2⟩)
     ·exact .inr (by omega)
end Go.Proofs.YtiheggkkgbfndaaGreatDoor
namespace Go.Proofs.YtiheggkkgbfndaaGreatDoor
open Go.RowKit Go.Joins Go.ChangeShapes Go.WideShapes Go.Deep
set_option linter.unusedVariables false
set_option linter.unusedSimpArgs false
set_option maxRecDepth 100000
def faultV (e at_ : Int) : Value := .iface 191 (.agg #[.int .i64 e, .int .i64 at_])
theorem fail_any (e p : Int) (w : World) : Calls Tryz.prog 139 #[.int .i64 e, .int .i64 p] w fun r w' => r = .panicked [{ v := faultV e p, recovered := false }] ∧ w' = w := by
 go_enter Tryz.func139, Tryz.ntmps139
 go_wp2
 exact ⟨rfl, rfl, rfl⟩
theorem end_any (s : ByteArray) (p : Nat) (hp : p + s.size ≤ 9223372036854775807) (w : World) : Calls Tryz.prog 170 #[.agg #[.string s, .int .i64 p]] w fun r w' => r = .returned (.int .i64 ((p + s.size : Nat) : Int)) ∧ Below w.heap.size w w' := by
 go_enter Tryz.func170, Tryz.ntmps170
 go_wp2
 go_ret
 exact ⟨by simp, by repeat (first | with_reducible exact Below.refl _ _ | with_reducible refine Below.drew ?_ | with_reducible refine below_drewN ?_ _ | ((with_reducible refine Below.alloc ?_ ?_ _); (rotate_left; focus (first | with_reducible exact Nat.le_refl _ | omega | (simp; done) | (simp; omega) | (simp [World.setCell]; done) | (simp [World.setCell]; omega)))) | ((with_reducible refine Below.setCell ?_ ?_ _); (rotate_left; focus (first | with_reducible exact Nat.le_refl _ | omega | (simp; done) | (simp; omega) | (simp [World.setCell]; done) | (simp [World.setCell]; omega)))))⟩
structure EnvP (B : Nat) (w : World) : Prop where
 env : EnvIn B w
 lt : 12 ≤ B
 m : ∃ m, w.cell? ⟨4, 0, none⟩ = some (.int .i64 m)
 es : ∃ tp p, w.cell? ⟨5, 0, none⟩ = some (.iface tp p)
 er : ∃ tp p, w.cell? ⟨6, 0, none⟩ = some (.iface tp p)
theorem EnvP.below {B : Nat} {w w' : World} (h : EnvP B w) (hb : Below B w w') : EnvP B w' :=
  ⟨h.env.below hb (Nat.le_refl _), h.lt,
   h.m.imp fun m hm => (hb.cell (p := ⟨4, 0, none⟩) (Nat.lt_of_lt_of_le (by decide) h.lt)).trans hm,
   h.es.imp fun tp hp => hp.imp fun p hm => (hb.cell (p := ⟨5, 0, none⟩) (Nat.lt_of_lt_of_le (by decide) h.lt)).trans hm,
   h.er.imp fun tp hp => hp.imp fun p hm => (hb.cell (p := ⟨6, 0, none⟩) (Nat.lt_of_lt_of_le (by decide) h.lt)).trans hm⟩
theorem EnvP.size {B : Nat} {w : World} (h : EnvP B w) : B ≤ w.heap.size := h.env.1
def PintPost (s : ByteArray) (w : World) (e : Ending) (w' : World) : Prop :=
  Below w.heap.size w w' ∧
  ((∃ v, i64ok v ∧ Go.Lib.parseIntB 64 s.data.toList = .ok v ∧ e = .returned (.tuple #[.int .i64 v, .nilIface])) ∨
   ((∀ v, Go.Lib.parseIntB 64 s.data.toList ≠ .ok v) ∧ ∃ v N, e = .returned (.tuple #[.int .i64 v, .iface 187 (.pointer (some ⟨N, 0, none⟩))])))
theorem pint_any {B : Nat} {w : World} (hE : EnvP B w) (s : ByteArray) (hs : s.size ≤ 281474976710656) :
  Calls Tryz.prog 77 #[.string s, .int .i64 10, .int .i64 64] w (PintPost s w) := by
 cases h : Go.Lib.parseIntB 64 s.data.toList with
 | ok v =>
  refine (Tryz.strconv_ParseInt_10_at64_ok s (by omega) v h w).mono ?_
  rintro e w' ⟨he, hw⟩
  have hv := Go.Lib.parseIntB_bounds h
  refine ⟨?_, .inl ⟨v, by unfold i64ok; omega, h, he⟩⟩
  rcases hw with rfl | ⟨t, rfl⟩
  ·exact Below.refl _ _
  ·exact below_bytesWorld _ _ _ _ (Nat.le_refl _)
 | range =>
  obtain ⟨tp, p, hp⟩ := hE.er
  refine (Tryz.strconv_ParseInt_10_at64_range s hs h _ w hp (.inr ⟨tp, p, rfl⟩)).mono ?_
  rintro e w' ⟨N, he, _, _, hb⟩
  exact ⟨hb, .inr ⟨fun v hv => (by rw [h] at hv; cases hv), _, N, he⟩⟩
 | _ =>
  obtain ⟨tp, p, hp⟩ := hE.es
  refine (Tryz.strconv_ParseInt_10_at64_syntax s hs (h.trans rfl) _ w hp (.inr ⟨tp, p, rfl⟩)).mono ?_
  rintro e w' ⟨N, he, _, _, hb⟩
  exact ⟨hb, .inr ⟨fun v hv => (by rw [h] at hv; cases hv), _, N, he⟩⟩
set_option maxHeartbeats 2000000 in
theorem enc_no (c : Nat) (v : Int) (A n cc : Nat) (w : World) (hS : ShapesAt w) (hA : Reads w w.heap.size 2 (some ⟨A, 0, none⟩) 1 (rows opc [⟨c, v⟩])) (hc : c < 41) (hf : fitsF (shapeF c) v = false) :
  Calls Tryz.prog 100 #[.slice (some ⟨A, 0, none⟩) 1 cc] w fun e w' => e = .returned (.tuple #[.string ⟨#[]⟩, .int .i64 12, .int .i64 0]) ∧ Below w.heap.size w w' := by
 have hlt := hS.lt
 go_enter Tryz.func100, Tryz.ntmps100
 go_wp2_with fail
 go_loopg [12] 1 (fun gk iv wr => iv = .int .i64 0 ∧ wr = w)
 case atStart => exact ⟨rfl, rfl⟩
 case round =>
  obtain ⟨rfl, rfl⟩ := hrel
  obtain ⟨b, off, hbo, hb, hcx⟩ := reads_flat hA (by omega) (by omega)
  cases hbo
  have cx0 : wr.cell? ⟨A, 0, none⟩ = some (.int .i64 c) := hcx 0 _ rfl
  have cx1 : wr.cell? ⟨A, 1, none⟩ = some (.int .i64 v) := hcx 1 _ rfl
  have hsh := hS.cell c hc
  have h7 : shapeF c < 7 := by rcases shape_cases c hc with h | h | h | h | h | h | h <;> omega
  obtain ⟨sh, hshh⟩ : ∃ sh, sh = shapeF c := ⟨_, rfl⟩
  rw [← hshh] at hsh h7 hf
  have HF0 : ∀ W, Calls Tryz.prog 119 #[.int .u8 sh, .int .i64 v] W fun r w' => r = .returned (.bool false) ∧ w' = W := fun W => (fits_any sh h7 v W).mono fun r w' h => ⟨by rw [h.1, hf], h.2⟩
  have HF := Lib.hid HF0
  have d0 : decide ((c : Int) < 0) = false := decide_eq_false (by omega)
  have d1 : decide ((41 : Int) ≤ (c : Int)) = false := decide_eq_false (by omega)
  have d2 : decide (41 ≤ c) = false := decide_eq_false (by omega)
  clear hcx hshh HF0 hA
  go_wp2_with (go_at_call 119; refine (HF.out _).mono ?_; rintro r w1 ⟨hr, hw⟩; subst hr; subst hw)
  go_ret3
  exact ⟨rfl, by repeat (first | with_reducible exact Below.refl _ _ | with_reducible refine Below.drew ?_ | with_reducible refine below_drewN ?_ _ | ((with_reducible refine Below.alloc ?_ ?_ _); (rotate_left; focus (first | with_reducible exact Nat.le_refl _ | omega | (simp; done) | (simp; omega) | (simp [World.setCell]; done) | (simp [World.setCell]; omega)))) | ((with_reducible refine Below.setCell ?_ ?_ _); (rotate_left; focus (first | with_reducible exact Nat.le_refl _ | omega | (simp; done) | (simp; omega) | (simp [World.setCell]; done) | (simp [World.setCell]; omega)))))⟩
end Go.Proofs.YtiheggkkgbfndaaGreatDoor
namespace Go.Proofs.YtiheggkkgbfndaaGreatDoor
open Go Go.Lib
set_option linter.unusedVariables false
set_option linter.unusedSimpArgs false
structure PJob where
 prog : Nat
 args : List Int
structure PSet where
 cfg : Cfg
 regs : List Reg
 progs : List (List UInt8)
 thr : List (List PJob)
structure PLine where
 kind : Nat
 thr : List Nat
structure SSt where
 set : PSet
 lines : List PLine
 steps : Nat
def maxI : Int := 9223372036854775807
def minI : Int := -9223372036854775808
def numIn (s : List UInt8) (lo hi : Int) : Option Int := match numF s with
 | some n => if lo ≤ n ∧ n ≤ hi then some n else none
 | none => none
def wConfig : List UInt8 := [99, 111, 110, 102, 105, 103]
def wSingle : List UInt8 := [115, 105, 110, 103, 108, 101]
def wMulti : List UInt8 := [109, 117, 108, 116, 105]
def wRegion : List UInt8 := [114, 101, 103, 105, 111, 110]
def wProgram : List UInt8 := [112, 114, 111, 103, 114, 97, 109]
def wThread : List UInt8 := [116, 104, 114, 101, 97, 100]
def wJob : List UInt8 := [106, 111, 98]
def wRun : List UInt8 := [114, 117, 110]
def wEnd : List UInt8 := [101, 110, 100]
def kindsL : List (List UInt8) := [[99, 111, 117, 110, 116, 101, 114], [113, 117, 101, 117, 101], [100, 105, 99, 116], [99, 104, 97, 105, 110]]
def looksL : List (List UInt8) := [[99, 101, 108, 108, 115], [115, 104, 97, 112, 101, 115], [114, 105, 110, 103], [115, 116, 97, 116, 101], [111, 114, 100, 101, 114], [119, 111, 114, 100, 115]]
def kindF (s : List UInt8) : Option Nat := ((List.range 4).find? fun i => kindsL.getD i [] == s).map (· + 1)
def lookF (s : List UInt8) : Option Nat := ((List.range 6).find? fun i => looksL.getD i [] == s).map (· + 2)
def nextL (t : List UInt8) : Option (List UInt8 × List UInt8) := match t with
 | [] => none
 | c :: r => if c = 10 then some ([], r) else (nextL r).map fun x => (c :: x.1, x.2)
def configL (l : List UInt8) : Option Cfg := match splitF 32 l with
  | [w, a, b, c, d, e, k] =>
    if w = wConfig ∧ (k = wSingle ∨ k = wMulti) then
      (match numIn a 0 maxI, numIn b 0 maxI, numIn c 0 maxI, numIn d 0 maxI, numIn e 0 maxI with
       | some a, some b, some c, some d, some e => some ⟨a, b, c, d, k == wMulti, e⟩
       | _, _, _, _, _ => none)
    else none
  | _ => none
def regionL (w : List (List UInt8)) : Option Reg := match w with
 | [_, k, c] => (match numIn c 0 maxI, kindF k with
  | some n, some k => some ⟨k, n⟩
  | _, _ => none)
 | _ => none
def argsL : List (List UInt8) → Option (List Int)
 | [] => some []
 | s :: l => match numIn s minI maxI, argsL l with
  | some n, some r => some (n :: r)
  | _, _ => none
def addJob (thr : List (List PJob)) (j : PJob) : List (List PJob) := thr.dropLast ++ [thr.getLast?.getD [] ++ [j]]
def jobL (s : PSet) (w : List (List UInt8)) : Except Nat PSet := match w with
 | _ :: p :: rs => if s.thr.isEmpty then .error 9 else (match numIn p 0 maxI, argsL rs with
  | some n, some args => if 4 < args.length ∨ (s.thr.getLast?.getD []).length = 32 then .error 2
   else if (s.progs.length : Int) ≤ n then .error 11
   else .ok { s with thr := addJob s.thr ⟨n.toNat, args⟩ }
  | _, _ => .error 9)
 | _ => .error 9
def cutAt (c : UInt8) : List UInt8 → Option (List UInt8 × List UInt8)
 | [] => none
 | b :: r => if b = c then some ([], r) else (cutAt c r).map fun x => (b :: x.1, x.2)
def itemL (s : List UInt8) : Option (Nat × Nat) := match cutAt 42 s with
 | none => (numIn s 0 99).map fun n => (n.toNat, 1)
 | some (a, b) => match numIn a 0 99, numIn b 2 20000 with
  | some n, some k => some (n.toNat, k.toNat)
  | _, _ => none
def itemsL : List (List UInt8) → Option (List (Nat × Nat))
 | [] => some []
 | s :: l => match itemL s, itemsL l with
  | some x, some r => some (x :: r)
  | _, _ => none
def manyF (l : List (Nat × Nat)) : Nat := (l.map (·.2)).sum
def spread (l : List (Nat × Nat)) : List Nat := l.flatMap fun x => List.replicate x.2 x.1
def runL (x : SSt) (w : List (List UInt8)) : Except Nat SSt := match w with
 | _ :: i :: is => (match itemsL (i :: is) with
  | none => .error 9
  | some l => if 20000 < x.steps + manyF l then .error 2 else .ok ⟨x.set, x.lines ++ [⟨1, spread l⟩], x.steps + manyF l⟩)
 | _ => .error 9
def partL (w : List UInt8) : Nat := if w = wRegion then 1 else if w = wProgram then 2 else if w = wThread ∨ w = wJob then 3 else 4
def bodyL : Nat → List UInt8 → Option (List UInt8 × List UInt8)
 | 0, _ => none
 | f + 1, t => match nextL t with
  | none => none
  | some (l, r) => if l = wEnd then some ([], r) else (bodyL f r).map fun x => (l ++ 10 :: x.1, x.2)
def plainL (x : SSt) (l : List UInt8) (w : List (List UInt8)) : Except Nat SSt :=
 if w.head? = some wRegion then (match regionL w with | some r => .ok { x with set := { x.set with regs := x.set.regs ++ [r] } } | none => .error 9)
 else if l = wThread then (if x.set.thr.length = 8 then .error 2 else .ok { x with set := { x.set with thr := x.set.thr ++ [[]] } })
 else if w.head? = some wJob then (match jobL x.set w with | .ok s => .ok { x with set := s } | .error e => .error e)
 else if w.head? = some wRun then runL x w
 else match lookF l with
  | some k => .ok { x with lines := x.lines ++ [⟨k, []⟩] }
  | none => .error 9
def goesL : Nat → Nat → Nat → SSt → List UInt8 → Except (Nat × Nat) SSt
 | 0, _, _, x, _ => .ok x
 | f + 1, pos, part, x, t => if t = [] then .ok x else match nextL t with
  | none => .error (9, pos)
  | some (l, r) =>
   let p := partL ((splitF 32 l).head?.getD [])
   if p < part then .error (9, pos)
   else if l = wProgram then
    (if x.set.progs.length = 16 then .error (2, pos) else match bodyL (r.length + 1) r with
     | none => .error (9, pos + t.length)
     | some (b, r') => match parseF b with
      | .error e => .error (e.1, pos + l.length + 1 + e.2)
      | .ok L => goesL f (pos + (t.length - r'.length)) p { x with set := { x.set with progs := x.set.progs ++ [bytesOf L] } } r')
   else match plainL x l (splitF 32 l) with
    | .error e => .error (e, pos)
    | .ok x' => goesL f (pos + l.length + 1) p x' r
def parseS (t : List UInt8) : Except (Nat × Nat) SSt :=
 if 65535 < t.length then .error (9, 65535) else match nextL t with
 | none => .error (9, 0)
 | some (l, r) => match configL l with
  | none => .error (9, 0)
  | some c => match goesL (r.length + 1) (l.length + 1) 1 ⟨⟨c, [], [], []⟩, [], 0⟩ r with
   | .error e => .error e
   | .ok x => if cfgOk x.set.cfg x.set.regs then .ok x else .error (13, 0)
/-! ### Print -/
def rowT (w : List UInt8) (l : List Int) : List UInt8 := w ++ (l.flatMap fun n => 32 :: itoa n) ++ [10]
def runsF : List Nat → List (Nat × Nat)
 | [] => []
 | a :: l => match runsF l with
  | (b, k) :: r => if a = b then (b, k + 1) :: r else (a, 1) :: (b, k) :: r
  | [] => [(a, 1)]
def itemT (x : Nat × Nat) : List UInt8 := 32 :: (itoa (x.1 : Int) ++ if 1 < x.2 then 42 :: itoa (x.2 : Int) else [])
def stepsT (l : List Nat) : List UInt8 := wRun ++ (runsF l).flatMap itemT ++ [10]
def configT (c : Cfg) : List UInt8 := wConfig ++ (32 :: itoa c.raw) ++ (32 :: itoa c.ring) ++ (32 :: itoa c.writes) ++ (32 :: itoa c.stamps) ++ (32 :: itoa c.tries) ++ 32 :: ((if c.multi then wMulti else wSingle) ++ [10])
def regionT (r : Reg) : List UInt8 := rowT (wRegion ++ 32 :: kindsL.getD (r.kind.toNat - 1) []) [r.cap]
def progT (p : List UInt8) : List UInt8 := wProgram ++ [10] ++ p ++ wEnd ++ [10]
def jobT (j : PJob) : List UInt8 := rowT wJob ((j.prog : Int) :: j.args)
def threadT (l : List PJob) : List UInt8 := wThread ++ [10] ++ l.flatMap jobT
def lineT (x : PLine) : List UInt8 := if x.kind = 1 then stepsT x.thr else looksL.getD (x.kind - 2) [] ++ [10]
def textS (s : PSet) (ps : List (List UInt8)) (l : List PLine) : List UInt8 := configT s.cfg ++ s.regs.flatMap regionT ++ ps.flatMap progT ++ s.thr.flatMap threadT ++ l.flatMap lineT
end Go.Proofs.YtiheggkkgbfndaaGreatDoor
namespace Go.Proofs.YtiheggkkgbfndaaGreatDoor
open Go.RowKit Go.Joins Go.ChangeShapes Go.WideShapes Go.Deep
set_option linter.unusedVariables false
set_option linter.unusedSimpArgs false
set_option maxRecDepth 100000
def NumberPost (s : ByteArray) (lo hi : Int) (w : World) (e : Ending) (w' : World) : Prop := Below w.heap.size w w' ∧ ∃ (n : Int) (b : Bool), e = .returned (.tuple #[.int .i64 n, .bool b]) ∧ b = (numIn s.data.toList lo hi).isSome ∧ ∀ m, numIn s.data.toList lo hi = some m → m = n
theorem numIn_bad {s : List UInt8} {lo hi : Int} (h : ∀ v, Go.Lib.parseIntB 64 s = .ok v → Go.Lib.itoa v = s → lo ≤ v → v ≤ hi → False) : numIn s lo hi = none := by
 unfold numIn
 cases hn : numF s with
 | none => rfl
 | some n =>
  simp only
  obtain ⟨h1, h2⟩ := (prog_num s n).2 hn
  rw [if_neg fun hh => h n h1 h2 hh.1 hh.2]
theorem numIn_good {s : List UInt8} {lo hi v : Int} (h1 : Go.Lib.parseIntB 64 s = .ok v) (h2 : Go.Lib.itoa v = s) (h3 : lo ≤ v) (h4 : v ≤ hi) : numIn s lo hi = some v := by
 unfold numIn
 rw [(prog_num s v).1 ⟨h1, h2⟩]
 simp only
 rw [if_pos ⟨h3, h4⟩]
set_option maxHeartbeats 2000000 in
theorem number_fit {B : Nat} {w : World} (hE : EnvP B w) (s : ByteArray) (hs : s.size ≤ 4294967296) (lo hi : Int) : Calls Tryz.prog 44 #[.string s, .int .i64 lo, .int .i64 hi] w (NumberPost s lo hi w) := by
 have HP := Lib.hid (pint_any hE s (by omega))
 by_cases hok : ∃ v, Go.Lib.parseIntB 64 s.data.toList = .ok v
 ·obtain ⟨v, hv⟩ := hok
  have hv64 : i64ok v := by have := Go.Lib.parseIntB_bounds hv; unfold i64ok; omega
  have HPN : Hid (Calls Tryz.prog 77 #[.string s, .int .i64 10, .int .i64 64] w fun e w' => Below w.heap.size w w' ∧ e = .returned (.tuple #[.int .i64 v, .nilIface])) := Lib.hid (HP.out.mono fun e w' h => ⟨h.1, by
   rcases h.2 with ⟨v', _, h2, h3⟩ | ⟨h2, _⟩
   ·rw [hv] at h2; injection h2 with h2; rw [h2]; exact h3
   ·exact absurd hv (h2 v)⟩)
  have HV := Lib.hid hv
  clear HP
  by_cases hlo : lo ≤ v
  ·have q0 : decide (lo ≤ v) = true := decide_eq_true hlo
   by_cases hhi : v ≤ hi
   ·have q1 : decide (v ≤ hi) = true := decide_eq_true hhi
    have HFI0 := Lib.hid (fun (W : World) (hW : Below w.heap.size w W) => formatInt_any (hE.below (hW.mono hE.size)).env v hv64)
    obtain ⟨s2, hs2e⟩ : ∃ s2 : ByteArray, s2 = ⟨(Go.Lib.itoa v).toArray⟩ := ⟨_, rfl⟩
    rw [← hs2e] at HFI0
    have HFI := Lib.hid HFI0.out
    have HLO := Lib.hid (And.intro hlo hhi)
    clear HFI0 hlo hhi hv hE hv64
    by_cases hit : Go.Lib.itoa v = s.data.toList
    ·have HR : Hid (numIn s.data.toList lo hi = some v) := Lib.hid (numIn_good HV.out hit HLO.out.1 HLO.out.2)
     have q2 : (s2.toList == s.toList) = true := by rw [beq_iff_eq, ByteArray.toList_eq, ByteArray.toList_eq, hs2e]; exact hit
     clear hs2e hit
     go_enter Tryz.func44, Tryz.ntmps44
     go_upto_region 2 with (go_at_call 77; refine (HPN.out).mono ?_; rintro e w1 ⟨hb1, rfl⟩)
     have HB1 := Lib.hid hb1
     clear hb1
     go_wp2_with (go_at_call 70; refine (HFI.out _ (by first | exact HB1.out | exact HB1.out.drew)).mono ?_; rintro e w2 ⟨rfl, hb2⟩)
     go_ret2
     exact ⟨HB1.out.trans (hb2.mono HB1.out.size), v, true, rfl, by rw [HR.out]; rfl, fun m hm => by rw [HR.out] at hm; injection hm with hm; exact hm.symm⟩
    ·have HR : Hid (numIn s.data.toList lo hi = none) := Lib.hid (numIn_bad fun v' h1 h2 _ _ => hit (by rw [HV.out] at h1; injection h1 with h1; rw [h1]; exact h2))
     have q2 : (s2.toList == s.toList) = false := by rw [beq_eq_false_iff_ne, ByteArray.toList_eq, ByteArray.toList_eq, hs2e]; exact hit
     clear hs2e hit
     go_enter Tryz.func44, Tryz.ntmps44
     go_upto_region 2 with (go_at_call 77; refine (HPN.out).mono ?_; rintro e w1 ⟨hb1, rfl⟩)
     have HB1 := Lib.hid hb1
     clear hb1
     go_wp2_with (go_at_call 70; refine (HFI.out _ (by first | exact HB1.out | exact HB1.out.drew)).mono ?_; rintro e w2 ⟨rfl, hb2⟩)
     go_ret2
     exact ⟨HB1.out.trans (hb2.mono HB1.out.size), v, false, rfl, by rw [HR.out]; rfl, fun m hm => by rw [HR.out] at hm; cases hm⟩
   ·have q1 : decide (v ≤ hi) = false := decide_eq_false hhi
    have HR : Hid (numIn s.data.toList lo hi = none) := Lib.hid (numIn_bad fun v' h1 _ _ h4 => hhi (by rw [HV.out] at h1; injection h1 with h1; rw [h1]; exact h4))
    clear hlo hhi hv hE hv64
    go_enter Tryz.func44, Tryz.ntmps44
    go_upto_region 2 with (go_at_call 77; refine (HPN.out).mono ?_; rintro e w1 ⟨hb1, rfl⟩)
    go_wp2
    go_ret2
    exact ⟨hb1, v, false, rfl, by rw [HR.out]; rfl, fun m hm => by rw [HR.out] at hm; cases hm⟩
  ·have q0 : decide (lo ≤ v) = false := decide_eq_false hlo
   have HR : Hid (numIn s.data.toList lo hi = none) := Lib.hid (numIn_bad fun v' h1 _ h3 _ => hlo (by rw [HV.out] at h1; injection h1 with h1; rw [h1]; exact h3))
   clear hlo hv hE hv64
   go_enter Tryz.func44, Tryz.ntmps44
   go_upto_region 2 with (go_at_call 77; refine (HPN.out).mono ?_; rintro e w1 ⟨hb1, rfl⟩)
   go_wp2
   go_ret2
   exact ⟨hb1, v, false, rfl, by rw [HR.out]; rfl, fun m hm => by rw [HR.out] at hm; cases hm⟩
 ·have HPN : Hid (Calls Tryz.prog 77 #[.string s, .int .i64 10, .int .i64 64] w fun e w' => Below w.heap.size w w' ∧ ∃ v N, e = .returned (.tuple #[.int .i64 v, .iface 187 (.pointer (some ⟨N, 0, none⟩))])) := Lib.hid (HP.out.mono fun e w' h => ⟨h.1, by
   rcases h.2 with ⟨v, _, h2, _⟩ | ⟨_, v, N, h2⟩
   ·exact absurd ⟨v, h2⟩ hok
   ·exact ⟨v, N, h2⟩⟩)
  have HR : Hid (numIn s.data.toList lo hi = none) := Lib.hid (numIn_bad fun v' h1 _ _ _ => hok ⟨v', h1⟩)
  clear HP hok hE
  go_enter Tryz.func44, Tryz.ntmps44
  go_upto_region 2 with (go_at_call 77; refine (HPN.out).mono ?_; rintro e w1 ⟨hb1, v, N, rfl⟩)
  go_wp2
  go_ret2
  exact ⟨hb1, v, false, rfl, by rw [HR.out]; rfl, fun m hm => by rw [HR.out] at hm; cases hm⟩
theorem rows_last_set {α : Type} (enc : α → List Value) (k : Nat) (hk : ∀ x, (enc x).length = k) (l : List α) (x y : α) (j : Nat) (u : Value) (h : enc y = (enc x).set j u) : (rows enc (l ++ [x])).set (l.length * k + j) u = rows enc (l ++ [y]) := by
 rw [rows_snoc, rows_snoc, List.set_append_right _ _ (by rw [rows_length enc k hk]; omega), rows_length enc k hk, h]
 congr 2
 omega
structure Kids {α : Type} (B : Nat) (w : World) (e : TypeId) (k : Nat) (enc : α → List Value) (l : List (Value × List α)) : Prop where
 own : ∀ x ∈ l, w.ownsRow B e k x.1 x.2.length (rows enc x.2)
 ne : l.Pairwise fun x y => ∀ q, x.1.ownBlock = some q → y.1.ownBlock ≠ some q
theorem Kids.none {α : Type} (B : Nat) (w : World) (e : TypeId) (k : Nat) (enc : α → List Value) : Kids B w e k enc [] := ⟨fun x hx => (by cases hx), List.Pairwise.nil⟩
theorem Kids.keep {α : Type} {B : Nat} {w w' : World} {e : TypeId} {k : Nat} {enc : α → List Value} {l : List (Value × List α)} (h : Kids B w e k enc l) (hk : ∀ x ∈ l, ∀ b, x.1.ownBlock = some b → w'.heap[b]? = w.heap[b]?) : Kids B w' e k enc l :=
 ⟨fun x hx => own_keep (h.own x hx) (hk x hx), h.ne⟩
theorem Kids.lt {α : Type} {B : Nat} {w : World} {e : TypeId} {k : Nat} {enc : α → List Value} {l : List (Value × List α)} (h : Kids B w e k enc l) {x : Value × List α} (hx : x ∈ l) {q : Nat} (hq : x.1.ownBlock = some q) : B ≤ q ∧ q < w.heap.size := (h.own x hx).lt q hq
theorem Kids.below {α : Type} {B : Nat} {w w' : World} {e : TypeId} {k : Nat} {enc : α → List Value} {l : List (Value × List α)} (h : Kids B w e k enc l) (hb : Below w.heap.size w w') : Kids B w' e k enc l :=
 h.keep fun x hx b hq => hb.block b (h.lt hx hq).2
theorem Kids.set {α : Type} {B : Nat} {w : World} {e t : TypeId} {k b i : Nat} {enc : α → List Value} {l : List (Value × List α)} {cs : Array Value} (h : Kids B w e k enc l) (hb : Blk w b t cs) (hne : e ≠ t) (u : Value) : Kids B (w.setCell ⟨b, i, Option.none⟩ u) e k enc l :=
 h.keep fun x hx q hq => Below.heap_setCell w ⟨b, i, Option.none⟩ u q (fun he => own_ne_blk (h.own x hx) hb hne (hq.trans (congrArg some he)))
theorem Kids.grown {α : Type} {B : Nat} {w WA w3 : World} {e : TypeId} {k : Nat} {enc : α → List Value} {l : List (Value × List α)} {row : Option Nat} (h : Kids B w e k enc l) (hA : Below w.heap.size w WA) (hg : WA.grownBy w3 row) (hr : ∀ x ∈ l, ∀ q, x.1.ownBlock = some q → row ≠ some q) : Kids B w3 e k enc l :=
 h.keep fun x hx b hq => (hg.block b (Nat.lt_of_lt_of_le (h.lt hx hq).2 hA.size) (fun he => hr x hx b hq he.symm)).trans (hA.block b (h.lt hx hq).2)
theorem Kids.snoc {α : Type} {B : Nat} {w : World} {e : TypeId} {k : Nat} {enc : α → List Value} {l : List (Value × List α)} (h : Kids B w e k enc l) {v : Value} {xs : List α} (hv : w.ownsRow B e k v xs.length (rows enc xs)) (hn : ∀ x ∈ l, ∀ q, x.1.ownBlock = some q → v.ownBlock ≠ some q) : Kids B w e k enc (l ++ [(v, xs)]) := by
 refine ⟨fun x hx => ?_, ?_⟩
 ·rcases List.mem_append.1 hx with hx | hx
  ·exact h.own x hx
  ·obtain rfl := List.mem_singleton.1 hx
   exact hv
 ·refine List.pairwise_append.2 ⟨h.ne, List.pairwise_singleton _ _, fun x hx y hy => ?_⟩
  obtain rfl := List.mem_singleton.1 hy
  exact hn x hx
theorem Kids.init {α : Type} {B : Nat} {w : World} {e : TypeId} {k : Nat} {enc : α → List Value} {l : List (Value × List α)} {x : Value × List α} (h : Kids B w e k enc (l ++ [x])) : Kids B w e k enc l ∧ ∀ y ∈ l, ∀ q, y.1.ownBlock = some q → x.1.ownBlock ≠ some q :=
 ⟨⟨fun y hy => h.own y (List.mem_append_left _ hy), (List.pairwise_append.1 h.ne).1⟩, fun y hy => (List.pairwise_append.1 h.ne).2.2 y hy x (List.mem_singleton.2 rfl)⟩
theorem Kids.put {α : Type} {B : Nat} {w WA w3 : World} {e : TypeId} {k : Nat} {enc : α → List Value} {l : List (Value × List α)} {v v' : Value} {xs : List α} {y : α} (h : Kids B w e k enc (l ++ [(v, xs)])) (hA : Below w.heap.size w WA) (hg : WA.grownBy w3 v.ownBlock)
  (hv : w3.ownsRow B e k v' (xs.length + 1) (rows enc xs ++ enc y)) (hat : ∀ q, v'.ownBlock = some q → v.ownBlock = some q ∨ w.heap.size ≤ q) : Kids B w3 e k enc (l ++ [(v', xs ++ [y])]) := by
 obtain ⟨h1, h2⟩ := h.init
 refine (h1.grown hA hg fun x hx q hq => h2 x hx q hq).snoc (by rw [List.length_append, List.length_singleton, rows_snoc]; exact hv) fun x hx q hq hq' => ?_
 rcases hat q hq' with h3 | h3
 ·exact h2 x hx q hq h3
 ·have := (h1.lt hx hq).2
  omega
end Go.Proofs.YtiheggkkgbfndaaGreatDoor
