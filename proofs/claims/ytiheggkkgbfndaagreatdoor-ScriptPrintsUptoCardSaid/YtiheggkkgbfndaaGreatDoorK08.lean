/- asm.fail, asm.named, (asm.token).end. -/
import Derived.Test.YtiheggkkgbfndaaGreatDoorK05
import Derived.Test.YtiheggkkgbfndaaGreatDoorK03
import Derived.Test.YtiheggkkgbfndaaGreatDoorK01
import Derived.Deep.LoopGhost
import Derived.WalkLawsBesides
import Derived.Test.YtiheggkkgbfndaaGreatDoorK07
namespace Go.Proofs.YtiheggkkgbfndaaGreatDoor
open Go.RowKit Go.Joins Go.ChangeShapes Go.WideShapes Go.Deep
set_option linter.unusedVariables false
set_option linter.unusedSimpArgs false
set_option maxRecDepth 100000
def faultV (e at_ : Int) : Value := .iface 191 (.agg #[.int .i64 e, .int .i64 at_])
theorem fail_any (e p : Int) (w : World) : Calls Tryz.prog 139 #[.int .i64 e, .int .i64 p] w fun r w' => r = .panicked [{ v := faultV e p, recovered := false }] ∧ w' = w := by
 go_enter Tryz.func139, Tryz.ntmps139
 go_wp2
 exact ⟨rfl, rfl, rfl⟩
theorem end_any (s : ByteArray) (p : Nat) (hp : p + s.size ≤ 9223372036854775807) (w : World) : Calls Tryz.prog 170 #[.agg #[.string s, .int .i64 p]] w fun r w' => r = .returned (.int .i64 ((p + s.size : Nat) : Int)) ∧ Below w.heap.size w w' := by
 go_enter Tryz.func170, Tryz.ntmps170
 go_wp2
 go_ret
 exact ⟨by simp, by repeat (first | with_reducible exact Below.refl _ _ | with_reducible refine Below.drew ?_ | with_reducible refine below_drewN ?_ _ | ((with_reducible refine Below.alloc ?_ ?_ _); (rotate_left; focus (first | with_reducible exact Nat.le_refl _ | omega | (simp; done) | (simp; omega) | (simp [World.setCell]; done) | (simp [World.setCell]; omega)))) | ((with_reducible refine Below.setCell ?_ ?_ _); (rotate_left; focus (first | with_reducible exact Nat.le_refl _ | omega | (simp; done) | (simp; omega) | (simp [World.setCell]; done) | (simp [World.setCell]; omega)))))⟩
structure EnvP (B : Nat) (w : World) : Prop where
 env : EnvIn B w
 lt : 12 ≤ B
 m : ∃ m, w.cell? ⟨4, 0, none⟩ = some (.int .i64 m)
 es : ∃ tp p, w.cell? ⟨5, 0, none⟩ = some (.iface tp p)
 er : ∃ tp p, w.cell? ⟨6, 0, none⟩ = some (.iface tp p)
theorem EnvP.below {B : Nat} {w w' : World} (h : EnvP B w) (hb : Below B w w') : EnvP B w' :=
  ⟨h.env.below hb (Nat.le_refl _), h.lt,
   h.m.imp fun m hm => (hb.cell (p := ⟨4, 0, none⟩) (Nat.lt_of_lt_of_le (by decide) h.lt)).trans hm,
   h.es.imp fun tp hp => hp.imp fun p hm => (hb.cell (p := ⟨5, 0, none⟩) (Nat.lt_of_lt_of_le (by decide) h.lt)).trans hm,
   h.er.imp fun tp hp => hp.imp fun p hm => (hb.cell (p := ⟨6, 0, none⟩) (Nat.lt_of_lt_of_le (by decide) h.lt)).trans hm⟩
theorem EnvP.size {B : Nat} {w : World} (h : EnvP B w) : B ≤ w.heap.size := h.env.1
def PintPost (s : ByteArray) (w : World) (e : Ending) (w' : World) : Prop :=
  Below w.heap.size w w' ∧
  ((∃ v, i64ok v ∧ Go.Lib.parseIntB 64 s.data.toList = .ok v ∧ e = .returned (.tuple #[.int .i64 v, .nilIface])) ∨
   ((∀ v, Go.Lib.parseIntB 64 s.data.toList ≠ .ok v) ∧ ∃ v N, e = .returned (.tuple #[.int .i64 v, .iface 187 (.pointer (some ⟨N, 0, none⟩))])))
theorem pint_any {B : Nat} {w : World} (hE : EnvP B w) (s : ByteArray) (hs : s.size ≤ 281474976710656) :
  Calls Tryz.prog 77 #[.string s, .int .i64 10, .int .i64 64] w (PintPost s w) := by
 cases h : Go.Lib.parseIntB 64 s.data.toList with
 | ok v =>
  refine (Tryz.strconv_ParseInt_10_at64_ok s (by omega) v h w).mono ?_
  rintro e w' ⟨he, hw⟩
  have hv := Go.Lib.parseIntB_bounds h
  refine ⟨?_, .inl ⟨v, by unfold i64ok; omega, h, he⟩⟩
  rcases hw with rfl | ⟨t, rfl⟩
  ·exact Below.refl _ _
  ·exact below_bytesWorld _ _ _ _ (Nat.le_refl _)
 | range =>
  obtain ⟨tp, p, hp⟩ := hE.er
  refine (Tryz.strconv_ParseInt_10_at64_range s hs h _ w hp (.inr ⟨tp, p, rfl⟩)).mono ?_
  rintro e w' ⟨N, he, _, _, hb⟩
  exact ⟨hb, .inr ⟨fun v hv => (by rw [h] at hv; cases hv), _, N, he⟩⟩
 | _ =>
  obtain ⟨tp, p, hp⟩ := hE.es
  refine (Tryz.strconv_ParseInt_10_at64_syntax s hs (h.trans rfl) _ w hp (.inr ⟨tp, p, rfl⟩)).mono ?_
  rintro e w' ⟨N, he, _, _, hb⟩
  exact ⟨hb, .inr ⟨fun v hv => (by rw [h] at hv; cases hv), _, N, he⟩⟩
set_option maxHeartbeats 2000000 in
theorem enc_no (c : Nat) (v : Int) (A n cc : Nat) (w : World) (hS : ShapesAt w) (hA : Reads w w.heap.size 2 (some ⟨A, 0, none⟩) 1 (rows opc [⟨c, v⟩])) (hc : c < 41) (hf : fitsF (shapeF c) v = false) :
  Calls Tryz.prog 100 #[.slice (some ⟨A, 0, none⟩) 1 cc] w fun e w' => e = .returned (.tuple #[.string ⟨#[]⟩, .int .i64 12, .int .i64 0]) ∧ Below w.heap.size w w' := by
 have hlt := hS.lt
 go_enter Tryz.func100, Tryz.ntmps100
 go_wp2_with fail
 go_loopg [12] 1 (fun gk iv wr => iv = .int .i64 0 ∧ wr = w)
 case atStart => exact ⟨rfl, rfl⟩
 case round =>
  obtain ⟨rfl, rfl⟩ := hrel
  obtain ⟨b, off, hbo, hb, hcx⟩ := reads_flat hA (by omega) (by omega)
  cases hbo
  have cx0 : wr.cell? ⟨A, 0, none⟩ = some (.int .i64 c) := hcx 0 _ rfl
  have cx1 : wr.cell? ⟨A, 1, none⟩ = some (.int .i64 v) := hcx 1 _ rfl
  have hsh := hS.cell c hc
  have h7 : shapeF c < 7 := by rcases shape_cases c hc with h | h | h | h | h | h | h <;> omega
  obtain ⟨sh, hshh⟩ : ∃ sh, sh = shapeF c := ⟨_, rfl⟩
  rw [← hshh] at hsh h7 hf
  have HF0 : ∀ W, Calls Tryz.prog 119 #[.int .u8 sh, .int .i64 v] W fun r w' => r = .returned (.bool false) ∧ w' = W := fun W => (fits_any sh h7 v W).mono fun r w' h => ⟨by rw [h.1, hf], h.2⟩
  have HF := Lib.hid HF0
  have d0 : decide ((c : Int) < 0) = false := decide_eq_false (by omega)
  have d1 : decide ((41 : Int) ≤ (c : Int)) = false := decide_eq_false (by omega)
  have d2 : decide (41 ≤ c) = false := decide_eq_false (by omega)
  clear hcx hshh HF0 hA
  go_wp2_with (go_at_call 119; refine (HF.out _).mono ?_; rintro r w1 ⟨hr, hw⟩; subst hr; subst hw)
  go_ret3
  exact ⟨rfl, by repeat (first | with_reducible exact Below.refl _ _ | with_reducible refine Below.drew ?_ | with_reducible refine below_drewN ?_ _ | ((with_reducible refine Below.alloc ?_ ?_ _); (rotate_left; focus (first | with_reducible exact Nat.le_refl _ | omega | (simp; done) | (simp; omega) | (simp [World.setCell]; done) | (simp [World.setCell]; omega)))) | ((with_reducible refine Below.setCell ?_ ?_ _); (rotate_left; focus (first | with_reducible exact Nat.le_refl _ | omega | (simp; done) | (simp; omega) | (simp [World.setCell]; done) | (simp [World.setCell]; omega)))))⟩
end Go.Proofs.YtiheggkkgbfndaaGreatDoor
namespace Go.Proofs.YtiheggkkgbfndaaGreatDoor
open Go Go.Lib
set_option linter.unusedVariables false
set_option linter.unusedSimpArgs false
structure PJob where
 prog : Nat
 args : List Int
structure PSet where
 cfg : Cfg
 regs : List Reg
 progs : List (List UInt8)
 thr : List (List PJob)
structure PLine where
 kind : Nat
 thr : List Nat
structure SSt where
 set : PSet
 lines : List PLine
 steps : Nat
def maxI : Int := 9223372036854775807
def minI : Int := -9223372036854775808
def numIn (s : List UInt8) (lo hi : Int) : Option Int := match numF s with
 | some n => if lo ≤ n ∧ n ≤ hi then some n else none
 | none => none
def wConfig : List UInt8 := [99, 111, 110, 102, 105, 103]
def wSingle : List UInt8 := [115, 105, 110, 103, 108, 101]
def wMulti : List UInt8 := [109, 117, 108, 116, 105]
def wRegion : List UInt8 := [114, 101, 103, 105, 111, 110]
def wProgram : List UInt8 := [112, 114, 111, 103, 114, 97, 109]
def wThread : List UInt8 := [116, 104, 114, 101, 97, 100]
def wJob : List UInt8 := [106, 111, 98]
def wRun : List UInt8 := [114, 117, 110]
def wEnd : List UInt8 := [101, 110, 100]
def kindsL : List (List UInt8) := [[99, 111, 117, 110, 116, 101, 114], [113, 117, 101, 117, 101], [100, 105, 99, 116], [99, 104, 97, 105, 110]]
def looksL : List (List UInt8) := [[99, 101, 108, 108, 115], [115, 104, 97, 112, 101, 115], [114, 105, 110, 103], [115, 116, 97, 116, 101], [111, 114, 100, 101, 114], [119, 111, 114, 100, 115]]
def kindF (s : List UInt8) : Option Nat := ((List.range 4).find? fun i => kindsL.getD i [] == s).map (· + 1)
def lookF (s : List UInt8) : Option Nat := ((List.range 6).find? fun i => looksL.getD i [] == s).map (· + 2)
def nextL (t : List UInt8) : Option (List UInt8 × List UInt8) := match t with
 | [] => none
 | c :: r => if c = 10 then some ([], r) else (nextL r).map fun x => (c :: x.1, x.2)
def configL (l : List UInt8) : Option Cfg := match splitF 32 l with
  | [w, a, b, c, d, e, k] =>
    if w = wConfig ∧ (k = wSingle ∨ k = wMulti) then
      (match numIn a 0 maxI, numIn b 0 maxI, numIn c 0 maxI, numIn d 0 maxI, numIn e 0 maxI with
       | some a, some b, some c, some d, some e => some ⟨a, b, c, d, k == wMulti, e⟩
       | _, _, _, _, _ => none)
    else none
  | _ => none
def regionL (w : List (List UInt8)) : Option Reg := match w with
 | [_, k, c] => (match numIn c 0 maxI, kindF k with
  | some n, some k => some ⟨k, n⟩
  | _, _ => none)
 | _ => none
def argsL : List (List UInt8) → Option (List Int)
 | [] => some []
 | s :: l => match numIn s minI maxI, argsL l with
  | some n, some r => some (n :: r)
  | _, _ => none
def addJob (thr : List (List PJob)) (j : PJob) : List (List PJob) := thr.dropLast ++ [thr.getLast?.getD [] ++ [j]]
def jobL (s : PSet) (w : List (List UInt8)) : Except Nat PSet := match w with
 | _ :: p :: rs => if s.thr.isEmpty then .error 9 else (match numIn p 0 maxI, argsL rs with
  | some n, some args => if 4 < args.length ∨ (s.thr.getLast?.getD []).length = 32 then .error 2
   else if (s.progs.length : Int) ≤ n then .error 11
   else .ok { s with thr := addJob s.thr ⟨n.toNat, args⟩ }
  | _, _ => .error 9)
 | _ => .error 9
def cutAt (c : UInt8) : List UInt8 → Option (List UInt8 × List UInt8)
 | [] => none
 | b :: r => if b = c then some ([], r) else (cutAt c r).map fun x => (b :: x.1, x.2)
def itemL (s : List UInt8) : Option (Nat × Nat) := match cutAt 42 s with
 | none => (numIn s 0 99).map fun n => (n.toNat, 1)
 | some (a, b) => match numIn a 0 99, numIn b 2 20000 with
  | some n, some k => some (n.toNat, k.toNat)
  | _, _ => none
def itemsL : List (List UInt8) → Option (List (Nat × Nat))
 | [] => some []
 | s :: l => match itemL s, itemsL l with
  | some x, some r => some (x :: r)
  | _, _ => none
def manyF (l : List (Nat × Nat)) : Nat := (l.map (·.2)).sum
def spread (l : List (Nat × Nat)) : List Nat := l.flatMap fun x => List.replicate x.2 x.1
def runL (x : SSt) (w : List (List UInt8)) : Except Nat SSt := match w with
 | _ :: i :: is => (match itemsL (i :: is) with
  | none => .error 9
  | some l => if 20000 < x.steps + manyF l then .error 2 else .ok ⟨x.set, x.lines ++ [⟨1, spread l⟩], x.steps + manyF l⟩)
 | _ => .error 9
def partL (w : List UInt8) : Nat := if w = wRegion then 1 else if w = wProgram then 2 else if w = wThread ∨ w = wJob then 3 else 4
def bodyL : Nat → List UInt8 → Option (List UInt8 × List UInt8)
 | 0, _ => none
 | f + 1, t => match nextL t with
  | none => none
  | some (l, r) => if l = wEnd then some ([], r) else (bodyL f r).map fun x => (l ++ 10 :: x.1, x.2)
def plainL (x : SSt) (l : List UInt8) (w : List (List UInt8)) : Except Nat SSt :=
 if w.head? = some wRegion then (match regionL w with | some r => .ok { x with set := { x.set with regs := x.set.regs ++ [r] } } | none => .error 9)
 else if l = wThread then (if x.set.thr.length = 8 then .error 2 else .ok { x with set := { x.set with thr := x.set.thr ++ [[]] } })
 else if w.head? = some wJob then (match jobL x.set w with | .ok s => .ok { x with set := s } | .error e => .error e)
 else if w.head? = some wRun then runL x w
 else match lookF l with
  | some k => .ok { x with lines := x.lines ++ [⟨k, []⟩] }
  | none => .error 9
def goesL : Nat → Nat → Nat → SSt → List UInt8 → Except (Nat × Nat) SSt
 | 0, _, _, x, _ => .ok x
 | f + 1, pos, part, x, t => if t = [] then .ok x else match nextL t with
  | none => .error (9, pos)
  | some (l, r) =>
   let p := partL ((splitF 32 l).head?.getD [])
   if p < part then .error (9, pos)
   else if l = wProgram then
    (if x.set.progs.length = 16 then .error (2, pos) else match bodyL (r.length + 1) r with
     | none => .error (9, pos + t.length)
     | some (b, r') => match parseF b with
      | .error e => .error (e.1, pos + l.length + 1 + e.2)
      | .ok L => goesL f (pos + (t.length - r'.length)) p { x with set := { x.set with progs := x.set.progs ++ [bytesOf L] } } r')
   else match plainL x l (splitF 32 l) with
    | .error e => .error (e, pos)
    | .ok x' => goesL f (pos + l.length + 1) p x' r
def parseS (t : List UInt8) : Except (Nat × Nat) SSt :=
 if 65535 < t.length then .error (9, 65535) else match nextL t with
 | none => .error (9, 0)
 | some (l, r) => match configL l with
  | none => .error (9, 0)
  | some c => match goesL (r.length + 1) (l.length + 1) 1 ⟨⟨c, [], [], []⟩, [], 0⟩ r with
   | .error e => .error e
   | .ok x => if cfgOk x.set.cfg x.set.regs then .ok x else .error (13, 0)
/-! ### Print -/
def rowT (w : List UInt8) (l : List Int) : List UInt8 := w ++ (l.flatMap fun n => 32 :: itoa n) ++ [10]
def runsF : List Nat → List (Nat × Nat)
 | [] => []
 | a :: l => match runsF l with
  | (b, k) :: r => if a = b then (b, k + 1) :: r else (a, 1) :: (b, k) :: r
  | [] => [(a, 1)]
def itemT (x : Nat × Nat) : List UInt8 := 32 :: (itoa (x.1 : Int) ++ if 1 < x.2 then 42 :: itoa (x.2 : Int) else [])
def stepsT (l : List Nat) : List UInt8 := wRun ++ (runsF l).flatMap itemT ++ [10]
def configT (c : Cfg) : List UInt8 := wConfig ++ (32 :: itoa c.raw) ++ (32 :: itoa c.ring) ++ (32 :: itoa c.writes) ++ (32 :: itoa c.stamps) ++ (32 :: itoa c.tries) ++ 32 :: ((if c.multi then wMulti else wSingle) ++ [10])
def regionT (r : Reg) : List UInt8 := rowT (wRegion ++ 32 :: kindsL.getD (r.kind.toNat - 1) []) [r.cap]
def progT (p : List UInt8) : List UInt8 := wProgram ++ [10] ++ p ++ wEnd ++ [10]
def jobT (j : PJob) : List UInt8 := rowT wJob ((j.prog : Int) :: j.args)
def threadT (l : List PJob) : List UInt8 := wThread ++ [10] ++ l.flatMap jobT
def lineT (x : PLine) : List UInt8 := if x.kind = 1 then stepsT x.thr else looksL.getD (x.kind - 2) [] ++ [10]
def textS (s : PSet) (ps : List (List UInt8)) (l : List PLine) : List UInt8 := configT s.cfg ++ s.regs.flatMap regionT ++ ps.flatMap progT ++ s.thr.flatMap threadT ++ l.flatMap lineT
end Go.Proofs.YtiheggkkgbfndaaGreatDoor
namespace Go.Proofs.YtiheggkkgbfndaaGreatDoor
open Go.RowKit Go.Joins Go.ChangeShapes Go.WideShapes Go.Deep
set_option linter.unusedVariables false
set_option linter.unusedSimpArgs false
set_option maxRecDepth 100000
def NumberPost (s : ByteArray) (lo hi : Int) (w : World) (e : Ending) (w' : World) : Prop := Below w.heap.size w w' ∧ ∃ (n : Int) (b : Bool), e = .returned (.tuple #[.int .i64 n, .bool b]) ∧ b = (numIn s.data.toList lo hi).isSome ∧ ∀ m, numIn s.data.toList lo hi = some m → m = n
theorem numIn_bad {s : List UInt8} {lo hi : Int} (h : ∀ v, Go.Lib.parseIntB 64 s = .ok v → Go.Lib.itoa v = s → lo ≤ v → v ≤ hi → False) : numIn s lo hi = none := by
 unfold numIn
 cases hn : numF s with
 | none => rfl
 | some n =>
  simp only
  obtain ⟨h1, h2⟩ := (prog_num s n).2 hn
  rw [if_neg fun hh => h n h1 h2 hh.1 hh.2]
theorem numIn_good {s : List UInt8} {lo hi v : Int} (h1 : Go.Lib.parseIntB 64 s = .ok v) (h2 : Go.Lib.itoa v = s) (h3 : lo ≤ v) (h4 : v ≤ hi) : numIn s lo hi = some v := by
 unfold numIn
 rw [(prog_num s v).1 ⟨h1, h2⟩]
 simp only
 rw [if_pos ⟨h3, h4⟩]
set_option maxHeartbeats 2000000 in
theorem number_fit {B : Nat} {w : World} (hE : EnvP B w) (s : ByteArray) (hs : s.size ≤ 4294967296) (lo hi : Int) : Calls Tryz.prog 44 #[.string s, .int .i64 lo, .int .i64 hi] w (NumberPost s lo hi w) := by
 have HP := Lib.hid (pint_any hE s (by omega))
 by_cases hok : ∃ v, Go.Lib.parseIntB 64 s.data.toList = .ok v
 ·obtain ⟨v, hv⟩ := hok
  have hv64 : i64ok v := by have := Go.Lib.parseIntB_bounds hv; unfold i64ok; omega
  have HPN : Hid (Calls Tryz.prog 77 #[.string s, .int .i64 10, .int .i64 64] w fun e w' => Below w.heap.size w w' ∧ e = .returned (.tuple #[.int .i64 v, .nilIface])) := Lib.hid (HP.out.mono fun e w' h => ⟨h.1, by
   rcases h.2 with ⟨v', _, h2, h3⟩ | ⟨h2, _⟩
   ·rw [hv] at h2; injection h2 with h2; rw [h2]; exact h3
   ·exact absurd hv (h2 v)⟩)
  have HV := Lib.hid hv
  clear HP
  by_cases hlo : lo ≤ v
  ·have q0 : decide (lo ≤ v) = true := decide_eq_true hlo
   by_cases hhi : v ≤ hi
   ·have q1 : decide (v ≤ hi) = true := decide_eq_true hhi
    have HFI0 := Lib.hid (fun (W : World) (hW : Below w.heap.size w W) => formatInt_any (hE.below (hW.mono hE.size)).env v hv64)
    obtain ⟨s2, hs2e⟩ : ∃ s2 : ByteArray, s2 = ⟨(Go.Lib.itoa v).toArray⟩ := ⟨_, rfl⟩
    rw [← hs2e] at HFI0
    have HFI := Lib.hid HFI0.out
    have HLO := Lib.hid (And.intro hlo hhi)
    clear HFI0 hlo hhi hv hE hv64
    by_cases hit : Go.Lib.itoa v = s.data.toList
    ·have HR : Hid (numIn s.data.toList lo hi = some v) := Lib.hid (numIn_good HV.out hit HLO.out.1 HLO.out.2)
     have q2 : (s2.toList == s.toList) = true := by rw [beq_iff_eq, ByteArray.toList_eq, ByteArray.toList_eq, hs2e]; exact hit
     clear hs2e hit
     go_enter Tryz.func44, Tryz.ntmps44
     go_upto_region 2 with (go_at_call 77; refine (HPN.out).mono ?_; rintro e w1 ⟨hb1, rfl⟩)
     have HB1 := Lib.hid hb1
     clear hb1
     go_wp2_with (go_at_call 70; refine (HFI.out _ (by first | exact HB1.out | exact HB1.out.drew)).mono ?_; rintro e w2 ⟨rfl, hb2⟩)
     go_ret2
     exact ⟨HB1.out.trans (hb2.mono HB1.out.size), v, true, rfl, by rw [HR.out]; rfl, fun m hm => by rw [HR.out] at hm; injection hm with hm; exact hm.symm⟩
    ·have HR : Hid (numIn s.data.toList lo hi = none) := Lib.hid (numIn_bad fun v' h1 h2 _ _ => hit (by rw [HV.out] at h1; injection h1 with h1; rw [h1]; exact h2))
     have q2 : (s2.toList == s.toList) = false := by rw [beq_eq_false_iff_ne, ByteArray.toList_eq, ByteArray.toList_eq, hs2e]; exact hit
     clear hs2e hit
     go_enter Tryz.func44, Tryz.ntmps44
     go_upto_region 2 with (go_at_call 77; refine (HPN.out).mono ?_; rintro e w1 ⟨hb1, rfl⟩)
     have HB1 := Lib.hid hb1
     clear hb1
     go_wp2_with (go_at_call 70; refine (HFI.out _ (by first | exact HB1.out | exact HB1.out.drew)).mono ?_; rintro e w2 ⟨rfl, hb2⟩)
     go_ret2
     exact ⟨HB1.out.trans (hb2.mono HB1.out.size), v, false, rfl, by rw [HR.out]; rfl, fun m hm => by rw [HR.out] at hm; cases hm⟩
   ·have q1 : decide (v ≤ hi) = false := decide_eq_false hhi
    have HR : Hid (numIn s.data.toList lo hi = none) := Lib.hid (numIn_bad fun v' h1 _ _ h4 => hhi (by rw [HV.out] at h1; injection h1 with h1; rw [h1]; exact h4))
    clear hlo hhi hv hE hv64
    go_enter Tryz.func44, Tryz.ntmps44
    go_upto_region 2 with (go_at_call 77; refine (HPN.out).mono ?_; rintro e w1 ⟨hb1, rfl⟩)
    go_wp2
    go_ret2
    exact ⟨hb1, v, false, rfl, by rw [HR.out]; rfl, fun m hm => by rw [HR.out] at hm; cases hm⟩
  ·have q0 : decide (lo ≤ v) = false := decide_eq_false hlo
   have HR : Hid (numIn s.data.toList lo hi = none) := Lib.hid (numIn_bad fun v' h1 _ h3 _ => hlo (by rw [HV.out] at h1; injection h1 with h1; rw [h1]; exact h3))
   clear hlo hv hE hv64
   go_enter Tryz.func44, Tryz.ntmps44
   go_upto_region 2 with (go_at_call 77; refine (HPN.out).mono ?_; rintro e w1 ⟨hb1, rfl⟩)
   go_wp2
   go_ret2
   exact ⟨hb1, v, false, rfl, by rw [HR.out]; rfl, fun m hm => by rw [HR.out] at hm; cases hm⟩
 ·have HPN : Hid (Calls Tryz.prog 77 #[.string s, .int .i64 10, .int .i64 64] w fun e w' => Below w.heap.size w w' ∧ ∃ v N, e = .returned (.tuple #[.int .i64 v, .iface 187 (.pointer (some ⟨N, 0, none⟩))])) := Lib.hid (HP.out.mono fun e w' h => ⟨h.1, by
   rcases h.2 with ⟨v, _, h2, _⟩ | ⟨_, v, N, h2⟩
   ·exact absurd ⟨v, h2⟩ hok
   ·exact ⟨v, N, h2⟩⟩)
  have HR : Hid (numIn s.data.toList lo hi = none) := Lib.hid (numIn_bad fun v' h1 _ _ _ => hok ⟨v', h1⟩)
  clear HP hok hE
  go_enter Tryz.func44, Tryz.ntmps44
  go_upto_region 2 with (go_at_call 77; refine (HPN.out).mono ?_; rintro e w1 ⟨hb1, v, N, rfl⟩)
  go_wp2
  go_ret2
  exact ⟨hb1, v, false, rfl, by rw [HR.out]; rfl, fun m hm => by rw [HR.out] at hm; cases hm⟩
theorem rows_last_set {α : Type} (enc : α → List Value) (k : Nat) (hk : ∀ x, (enc x).length = k) (l : List α) (x y : α) (j : Nat) (u : Value) (h : enc y = (enc x).set j u) : (rows enc (l ++ [x])).set (l.length * k + j) u = rows enc (l ++ [y]) := by
 rw [rows_snoc, rows_snoc, List.set_append_right _ _ (by rw [rows_length enc k hk]; omega), rows_length enc k hk, h]
 congr 2
 omega
structure Kids {α : Type} (B : Nat) (w : World) (e : TypeId) (k : Nat) (enc : α → List Value) (l : List (Value × List α)) : Prop where
 own : ∀ x ∈ l, w.ownsRow B e k x.1 x.2.length (rows enc x.2)
 ne : l.Pairwise fun x y => ∀ q, x.1.ownBlock = some q → y.1.ownBlock ≠ some q
theorem Kids.none {α : Type} (B : Nat) (w : World) (e : TypeId) (k : Nat) (enc : α → List Value) : Kids B w e k enc [] := ⟨fun x hx => (by cases hx), List.Pairwise.nil⟩
theorem Kids.keep {α : Type} {B : Nat} {w w' : World} {e : TypeId} {k : Nat} {enc : α → List Value} {l : List (Value × List α)} (h : Kids B w e k enc l) (hk : ∀ x ∈ l, ∀ b, x.1.ownBlock = some b → w'.heap[b]? = w.heap[b]?) : Kids B w' e k enc l :=
 ⟨fun x hx => own_keep (h.own x hx) (hk x hx), h.ne⟩
theorem Kids.lt {α : Type} {B : Nat} {w : World} {e : TypeId} {k : Nat} {enc : α → List Value} {l : List (Value × List α)} (h : Kids B w e k enc l) {x : Value × List α} (hx : x ∈ l) {q : Nat} (hq : x.1.ownBlock = some q) : B ≤ q ∧ q < w.heap.size := (h.own x hx).lt q hq
theorem Kids.below {α : Type} {B : Nat} {w w' : World} {e : TypeId} {k : Nat} {enc : α → List Value} {l : List (Value × List α)} (h : Kids B w e k enc l) (hb : Below w.heap.size w w') : Kids B w' e k enc l :=
 h.keep fun x hx b hq => hb.block b (h.lt hx hq).2
theorem Kids.set {α : Type} {B : Nat} {w : World} {e t : TypeId} {k b i : Nat} {enc : α → List Value} {l : List (Value × List α)} {cs : Array Value} (h : Kids B w e k enc l) (hb : Blk w b t cs) (hne : e ≠ t) (u : Value) : Kids B (w.setCell ⟨b, i, Option.none⟩ u) e k enc l :=
 h.keep fun x hx q hq => Below.heap_setCell w ⟨b, i, Option.none⟩ u q (fun he => own_ne_blk (h.own x hx) hb hne (hq.trans (congrArg some he)))
theorem Kids.grown {α : Type} {B : Nat} {w WA w3 : World} {e : TypeId} {k : Nat} {enc : α → List Value} {l : List (Value × List α)} {row : Option Nat} (h : Kids B w e k enc l) (hA : Below w.heap.size w WA) (hg : WA.grownBy w3 row) (hr : ∀ x ∈ l, ∀ q, x.1.ownBlock = some q → row ≠ some q) : Kids B w3 e k enc l :=
 h.keep fun x hx b hq => (hg.block b (Nat.lt_of_lt_of_le (h.lt hx hq).2 hA.size) (fun he => hr x hx b hq he.symm)).trans (hA.block b (h.lt hx hq).2)
theorem Kids.snoc {α : Type} {B : Nat} {w : World} {e : TypeId} {k : Nat} {enc : α → List Value} {l : List (Value × List α)} (h : Kids B w e k enc l) {v : Value} {xs : List α} (hv : w.ownsRow B e k v xs.length (rows enc xs)) (hn : ∀ x ∈ l, ∀ q, x.1.ownBlock = some q → v.ownBlock ≠ some q) : Kids B w e k enc (l ++ [(v, xs)]) := by
 refine ⟨fun x hx => ?_, ?_⟩
 ·rcases List.mem_append.1 hx with hx | hx
  ·exact h.own x hx
  ·obtain rfl := List.mem_singleton.1 hx
   exact hv
 ·refine List.pairwise_append.2 ⟨h.ne, List.pairwise_singleton _ _, fun x hx y hy => ?_⟩
  obtain rfl := List.mem_singleton.1 hy
  exact hn x hx
theorem Kids.init {α : Type} {B : Nat} {w : World} {e : TypeId} {k : Nat} {enc : α → List Value} {l : List (Value × List α)} {x : Value × List α} (h : Kids B w e k enc (l ++ [x])) : Kids B w e k enc l ∧ ∀ y ∈ l, ∀ q, y.1.ownBlock = some q → x.1.ownBlock ≠ some q :=
 ⟨⟨fun y hy => h.own y (List.mem_append_left _ hy), (List.pairwise_append.1 h.ne).1⟩, fun y hy => (List.pairwise_append.1 h.ne).2.2 y hy x (List.mem_singleton.2 rfl)⟩
theorem Kids.put {α : Type} {B : Nat} {w WA w3 : World} {e : TypeId} {k : Nat} {enc : α → List Value} {l : List (Value × List α)} {v v' : Value} {xs : List α} {y : α} (h : Kids B w e k enc (l ++ [(v, xs)])) (hA : Below w.heap.size w WA) (hg : WA.grownBy w3 v.ownBlock)
  (hv : w3.ownsRow B e k v' (xs.length + 1) (rows enc xs ++ enc y)) (hat : ∀ q, v'.ownBlock = some q → v.ownBlock = some q ∨ w.heap.size ≤ q) : Kids B w3 e k enc (l ++ [(v', xs ++ [y])]) := by
 obtain ⟨h1, h2⟩ := h.init
 refine (h1.grown hA hg fun x hx q hq => h2 x hx q hq).snoc (by rw [List.length_append, List.length_singleton, rows_snoc]; exact hv) fun x hx q hq hq' => ?_
 rcases hat q hq' with h3 | h3
 ·exact h2 x hx q hq h3
 ·have := (h1.lt hx hq).2
  omega
def rgC (r : Reg) : List Value := [.int .i64 r.kind, .int .i64 r.cap]
def stC (p : List UInt8) : List Value := [.string ⟨p.toArray⟩]
def i64C (n : Int) : List Value := [.int .i64 n]
def jbC (j : PJob × Value) : List Value := [.int .i64 (j.1.prog : Int), j.2]
def valC (v : Value) : List Value := [v]
def lnC (l : PLine × Value) : List Value := [.int .i64 (l.1.kind : Int), l.2]
def natC (n : Nat) : List Value := [.int .i64 (n : Int)]
structure SetAt (B : Nat) (w : World) (x : SSt) (rv pv tv lv : Value) (T : List (Value × List (PJob × Value))) (L : List (PLine × Value)) : Prop where
 regs : w.ownsRow B 67 2 rv x.set.regs.length (rows rgC x.set.regs)
 progs : w.ownsRow B 9 1 pv x.set.progs.length (rows stC x.set.progs)
 thr : w.ownsRow B 50 1 tv T.length (rows valC (T.map (·.1)))
 jobs : Kids B w 53 2 jbC T
 args : Kids B w 2 1 i64C (T.flatMap fun t => t.2.map fun j => (j.2, j.1.args))
 thrEq : T.map (fun t => t.2.map (·.1)) = x.set.thr
 lines : w.ownsRow B 49 2 lv L.length (rows lnC L)
 steps : Kids B w 3 1 natC (L.map fun l => (l.2, l.1.thr))
 linesEq : L.map (·.1) = x.lines
theorem SetAt.start (B : Nat) (w : World) (c : Cfg) : SetAt B w ⟨⟨c, [], [], []⟩, [], 0⟩ (.slice none 0 0) (.slice none 0 0) (.slice none 0 0) (.slice none 0 0) [] [] :=
 ⟨World.ownsRow_nil _ _ _ _, World.ownsRow_nil _ _ _ _, World.ownsRow_nil _ _ _ _, Kids.none _ _ _ _ _, Kids.none _ _ _ _ _, rfl, World.ownsRow_nil _ _ _ _, Kids.none _ _ _ _ _, rfl⟩
theorem SetAt.below {B : Nat} {w w' : World} {x : SSt} {rv pv tv lv : Value} {T : List (Value × List (PJob × Value))} {L : List (PLine × Value)} (h : SetAt B w x rv pv tv lv T L) (hb : Below w.heap.size w w') : SetAt B w' x rv pv tv lv T L :=
 ⟨own_beb h.regs hb, own_beb h.progs hb, own_beb h.thr hb, h.jobs.below hb, h.args.below hb, h.thrEq, own_beb h.lines hb, h.steps.below hb, h.linesEq⟩
theorem SetAt.set {B : Nat} {w : World} {x : SSt} {rv pv tv lv : Value} {T : List (Value × List (PJob × Value))} {L : List (PLine × Value)} (h : SetAt B w x rv pv tv lv T L) {b i : Nat} {t : TypeId} {cs : Array Value} (hb : Blk w b t cs)
  (h1 : 67 ≠ t) (h2 : 9 ≠ t) (h3 : 50 ≠ t) (h4 : 53 ≠ t) (h5 : 2 ≠ t) (h6 : 49 ≠ t) (h7 : 3 ≠ t) (u : Value) : SetAt B (w.setCell ⟨b, i, none⟩ u) x rv pv tv lv T L :=
 ⟨own_set h.regs hb h1 u, own_set h.progs hb h2 u, own_set h.thr hb h3 u, h.jobs.set hb h4 u, h.args.set hb h5 u, h.thrEq, own_set h.lines hb h6 u, h.steps.set hb h7 u, h.linesEq⟩
theorem own_grown {B1 n1 s1 : Nat} {w WA w3 : World} {t1 : TypeId} {v1 : Value} {x1 : List Value} {row : Option Nat} (h : w.ownsRow B1 t1 s1 v1 n1 x1) (hA : Below w.heap.size w WA) (hg : WA.grownBy w3 row) (hr : ∀ q, v1.ownBlock = some q → row ≠ some q) : w3.ownsRow B1 t1 s1 v1 n1 x1 :=
 own_keep h fun b hb => (hg.block b (Nat.lt_of_lt_of_le (h.lt b hb).2 hA.size) (fun e => hr b hb e.symm)).trans (hA.block b (h.lt b hb).2)
theorem SetAt.region {B : Nat} {w WA w3 : World} {x : SSt} {rv rv' pv tv lv : Value} {T : List (Value × List (PJob × Value))} {L : List (PLine × Value)} (h : SetAt B w x rv pv tv lv T L) (hA : Below w.heap.size w WA) (hg : WA.grownBy w3 rv.ownBlock) (r : Reg)
    (hv : w3.ownsRow B 67 2 rv' (x.set.regs.length + 1) (rows rgC x.set.regs ++ rgC r)) : SetAt B w3 { x with set := { x.set with regs := x.set.regs ++ [r] } } rv' pv tv lv T L :=
  ⟨by rw [List.length_append, List.length_singleton, rows_snoc]; exact hv,
   own_grown h.progs hA hg fun q hq => own_ne h.progs h.regs (by decide) hq,
   own_grown h.thr hA hg fun q hq => own_ne h.thr h.regs (by decide) hq,
   h.jobs.grown hA hg fun y hy q hq => own_ne (h.jobs.own y hy) h.regs (by decide) hq,
   h.args.grown hA hg fun y hy q hq => own_ne (h.args.own y hy) h.regs (by decide) hq, h.thrEq,
   own_grown h.lines hA hg fun q hq => own_ne h.lines h.regs (by decide) hq,
   h.steps.grown hA hg fun y hy q hq => own_ne (h.steps.own y hy) h.regs (by decide) hq, h.linesEq⟩
theorem SetAt.program {B : Nat} {w WA w3 : World} {x : SSt} {rv pv pv' tv lv : Value} {T : List (Value × List (PJob × Value))} {L : List (PLine × Value)} (h : SetAt B w x rv pv tv lv T L) (hA : Below w.heap.size w WA) (hg : WA.grownBy w3 pv.ownBlock) (p : List UInt8)
    (hv : w3.ownsRow B 9 1 pv' (x.set.progs.length + 1) (rows stC x.set.progs ++ stC p)) : SetAt B w3 { x with set := { x.set with progs := x.set.progs ++ [p] } } rv pv' tv lv T L :=
  ⟨own_grown h.regs hA hg fun q hq => own_ne h.regs h.progs (by decide) hq,
   by rw [List.length_append, List.length_singleton, rows_snoc]; exact hv,
   own_grown h.thr hA hg fun q hq => own_ne h.thr h.progs (by decide) hq,
   h.jobs.grown hA hg fun y hy q hq => own_ne (h.jobs.own y hy) h.progs (by decide) hq,
   h.args.grown hA hg fun y hy q hq => own_ne (h.args.own y hy) h.progs (by decide) hq, h.thrEq,
   own_grown h.lines hA hg fun q hq => own_ne h.lines h.progs (by decide) hq,
   h.steps.grown hA hg fun y hy q hq => own_ne (h.steps.own y hy) h.progs (by decide) hq, h.linesEq⟩
theorem SetAt.thread {B : Nat} {w WA w3 : World} {x : SSt} {rv pv tv tv' lv : Value} {T : List (Value × List (PJob × Value))} {L : List (PLine × Value)} (h : SetAt B w x rv pv tv lv T L) (hA : Below w.heap.size w WA) (hg : WA.grownBy w3 tv.ownBlock)
    (hv : w3.ownsRow B 50 1 tv' (T.length + 1) (rows valC (T.map (·.1)) ++ [.slice none 0 0])) : SetAt B w3 { x with set := { x.set with thr := x.set.thr ++ [[]] } } rv pv tv' lv (T ++ [(.slice none 0 0, [])]) L := by
  refine ⟨own_grown h.regs hA hg fun q hq => own_ne h.regs h.thr (by decide) hq,
   own_grown h.progs hA hg fun q hq => own_ne h.progs h.thr (by decide) hq, ?_,
   (h.jobs.grown hA hg fun y hy q hq => own_ne (h.jobs.own y hy) h.thr (by decide) hq).snoc (World.ownsRow_nil _ _ _ _) (fun y hy q hq => by simp [Value.ownBlock]),
   ?_, ?_,
   own_grown h.lines hA hg fun q hq => own_ne h.lines h.thr (by decide) hq,
   h.steps.grown hA hg fun y hy q hq => own_ne (h.steps.own y hy) h.thr (by decide) hq, h.linesEq⟩
  · rw [List.length_append, List.length_singleton, List.map_append, List.map_singleton, rows_snoc]
    exact hv
  · rw [List.flatMap_append]
    simpa using h.args.grown hA hg fun y hy q hq => own_ne (h.args.own y hy) h.thr (by decide) hq
  · rw [List.map_append, h.thrEq]
    rfl
theorem SetAt.line {B : Nat} {w WA w3 : World} {x : SSt} {rv pv tv lv lv' v : Value} {T : List (Value × List (PJob × Value))} {L : List (PLine × Value)} {l : PLine} {n : Nat} (h : SetAt B w x rv pv tv lv T L) (hA : Below w.heap.size w WA) (hg : WA.grownBy w3 lv.ownBlock)
    (hv : w3.ownsRow B 49 2 lv' (L.length + 1) (rows lnC L ++ lnC (l, v))) (ht : w3.ownsRow B 3 1 v l.thr.length (rows natC l.thr)) (hf : ∀ q, v.ownBlock = some q → w.heap.size ≤ q) : SetAt B w3 ⟨x.set, x.lines ++ [l], n⟩ rv pv tv lv' T (L ++ [(l, v)]) := by
  refine ⟨own_grown h.regs hA hg fun q hq => own_ne h.regs h.lines (by decide) hq,
   own_grown h.progs hA hg fun q hq => own_ne h.progs h.lines (by decide) hq,
   own_grown h.thr hA hg fun q hq => own_ne h.thr h.lines (by decide) hq,
   h.jobs.grown hA hg fun y hy q hq => own_ne (h.jobs.own y hy) h.lines (by decide) hq,
   h.args.grown hA hg fun y hy q hq => own_ne (h.args.own y hy) h.lines (by decide) hq, h.thrEq, ?_, ?_, ?_⟩
  · rw [List.length_append, List.length_singleton, rows_snoc]
    exact hv
  · rw [List.map_append, List.map_singleton]
    refine (h.steps.grown hA hg fun y hy q hq => own_ne (h.steps.own y hy) h.lines (by decide) hq).snoc ht fun y hy q hq hq' => ?_
    have h1 := (h.steps.lt hy hq).2
    have h2 := hf q hq'
    omega
  · rw [List.map_append, h.linesEq]
    rfl
theorem SetAt.job {B : Nat} {w WA w3 : World} {x : SSt} {rv pv lv v v' av : Value} {g cap : Nat} {T0 : List (Value × List (PJob × Value))} {js : List (PJob × Value)} {L : List (PLine × Value)} {j : PJob}
    (h : SetAt B w x rv pv (.slice (some ⟨g, 0, none⟩) (T0.length + 1) cap) lv (T0 ++ [(v, js)]) L) (hA : Below w.heap.size w WA) (hav : WA.ownsRow B 2 1 av j.args.length (rows i64C j.args)) (haf : ∀ q, av.ownBlock = some q → w.heap.size ≤ q)
    (hg : WA.grownBy w3 v.ownBlock) (hv : w3.ownsRow B 53 2 v' (js.length + 1) (rows jbC js ++ jbC (j, av))) (hat : ∀ q, v'.ownBlock = some q → v.ownBlock = some q ∨ w.heap.size ≤ q) :
    SetAt B (w3.setCell ⟨g, T0.length, none⟩ v') { x with set := { x.set with thr := addJob x.set.thr j } } rv pv (.slice (some ⟨g, 0, none⟩) (T0.length + 1) cap) lv (T0 ++ [(v', js ++ [(j, av)])]) L := by
  have hjo : w.ownsRow B 53 2 v js.length (rows jbC js) := h.jobs.own (v, js) (by simp)
  have ht0 := h.thr
  rw [List.length_append, List.length_singleton] at ht0
  have ht3 := own_grown ht0 hA hg fun q hq => own_ne ht0 hjo (by decide) hq
  obtain ⟨cs, hblk⟩ := own_blk ht3 (b := g) rfl
  have hav3 : w3.ownsRow B 2 1 av j.args.length (rows i64C j.args) := own_keep hav fun b hb => hg.block b (hav.lt b hb).2 (fun e => by
    have h1 := haf b hb
    have h2 := (hjo.lt b e.symm).2
    omega)
  have hst := (ht3.stored T0.length v').1
  have e2 : (rows valC ((T0 ++ [(v, js)]).map (·.1))).set T0.length v' = rows valC ((T0 ++ [(v', js ++ [(j, av)])]).map (·.1)) := by
    have := rows_last_set valC 1 (fun _ => rfl) (T0.map (·.1)) v v' 0 v' rfl
    rw [List.length_map, Nat.mul_one, Nat.add_zero] at this
    rw [List.map_append, List.map_append]
    exact this
  rw [e2] at hst
  refine ⟨own_set (own_grown h.regs hA hg fun q hq => own_ne h.regs hjo (by decide) hq) hblk (by decide) v',
   own_set (own_grown h.progs hA hg fun q hq => own_ne h.progs hjo (by decide) hq) hblk (by decide) v',
   by rw [List.length_append, List.length_singleton]; exact hst,
   (h.jobs.put hA hg hv hat).set hblk (by decide) v', ?_, ?_,
   own_set (own_grown h.lines hA hg fun q hq => own_ne h.lines hjo (by decide) hq) hblk (by decide) v',
   (h.steps.grown hA hg fun y hy q hq => own_ne (h.steps.own y hy) hjo (by decide) hq).set hblk (by decide) v', h.linesEq⟩
  · have ha := h.args
    have e3 : ((T0 ++ [(v', js ++ [(j, av)])]).flatMap fun t => t.2.map fun j => (j.2, j.1.args)) = ((T0 ++ [(v, js)]).flatMap fun t => t.2.map fun j => (j.2, j.1.args)) ++ [(av, j.args)] := by
      simp [List.flatMap_append]
    rw [e3]
    refine ((ha.grown hA hg fun y hy q hq => own_ne (ha.own y hy) hjo (by decide) hq).snoc hav3 fun y hy q hq hq' => ?_).set hblk (by decide) v'
    have h1 := (ha.lt hy hq).2
    have h2 := haf q hq'
    omega
  · have he := h.thrEq
    rw [← he]
    unfold addJob
    simp
end Go.Proofs.YtiheggkkgbfndaaGreatDoor
