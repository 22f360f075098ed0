/- carouselref24: a line of steps, walked. -/
import Derived.Test.YtiheggkkgbfndaaGreatDoorK26
import Derived.Test.YtiheggkkgbfndaaGreatDoorK15
import Derived.Test.YtiheggkkgbfndaaGreatDoorK25
namespace Go.Proofs.YtiheggkkgbfndaaGreatDoor
open Go.RowKit Go.Joins Go.ChangeShapes Go.WideShapes Go.Deep
set_option linter.unusedVariables false
set_option linter.unusedSimpArgs false
set_option maxRecDepth 100000
structure Lim (x : SSt) (m : Nat) : Prop where
 regs : x.set.regs.length ≤ m
 lines : x.lines.length ≤ m
 progs : x.set.progs.length ≤ 16
 thr : x.set.thr.length ≤ 8
 jobs : ∀ l ∈ x.set.thr, l.length ≤ 32
 steps : x.steps ≤ 20000
theorem Lim.more {x : SSt} {m m' : Nat} (h : Lim x m) (hm : m ≤ m') : Lim x m' := ⟨Nat.le_trans h.regs hm, Nat.le_trans h.lines hm, h.progs, h.thr, h.jobs, h.steps⟩
def headL (l : List UInt8) : List UInt8 := (splitF 32 l).head?.getD []
def oneR (x : SSt) (part : Nat) (s : ByteArray) (at_ n : Nat) (l : List UInt8) : Except (Nat × Nat) (SSt × Nat × Nat) :=
 if partL (headL l) < part then .error (9, at_) else if l = wProgram then (match progR x s at_ n with
  | .ok (x', m) => .ok (x', partL (headL l), m)
  | .error y => .error y)
 else match plainL x l (splitF 32 l) with
  | .error e => .error (e, at_)
  | .ok x' => .ok (x', partL (headL l), n)
theorem head_some (l : List UInt8) : (splitF 32 l).head? = some (headL l) := by
 unfold headL
 cases h : splitF 32 l with
 | nil => exact absurd h (splitF_ne 32 l)
 | cons a r => rfl
theorem plain_region {x : SSt} {l : List UInt8} (h : headL l = wRegion) : plainL x l (splitF 32 l) = regionR x (splitF 32 l) := by
 unfold plainL regionR
 rw [head_some, h, if_pos rfl]
 cases regionL (splitF 32 l) <;> rfl
theorem plain_thread {x : SSt} {l : List UInt8} (h : l = wThread) : plainL x l (splitF 32 l) = if x.set.thr.length = 8 then .error 2 else .ok { x with set := { x.set with thr := x.set.thr ++ [[]] } } := by
 have h1 : headL l ≠ wRegion := by rw [h]; decide
 unfold plainL
 rw [head_some, if_neg fun e => h1 (Option.some.inj e), if_pos h]
theorem plain_job {x : SSt} {l : List UInt8} (h : headL l = wJob) : plainL x l (splitF 32 l) = jobR x (splitF 32 l) := by
 have h1 : l ≠ wThread := fun e => by rw [e] at h; exact absurd h (by decide)
 have h2 : ¬ (some wJob = some wRegion) := by decide
 unfold plainL jobR
 rw [head_some, h, if_neg h2, if_neg h1, if_pos rfl]
 cases jobL x.set (splitF 32 l) <;> rfl
theorem plain_run {x : SSt} {l : List UInt8} (h : headL l = wRun) : plainL x l (splitF 32 l) = runL x (splitF 32 l) := by
 have h1 : l ≠ wThread := fun e => by rw [e] at h; exact absurd h (by decide)
 have h2 : ¬ (some wRun = some wRegion) := by decide
 have h3 : ¬ (some wRun = some wJob) := by decide
 unfold plainL
 rw [head_some, h, if_neg h2, if_neg h1, if_neg h3, if_pos rfl]
def lookR (x : SSt) : Option Nat → Except Nat SSt
 | some k => .ok { x with lines := x.lines ++ [⟨k, []⟩] }
 | none => .error 9
theorem plain_look {x : SSt} {l : List UInt8} (h1 : headL l ≠ wRegion) (h2 : l ≠ wThread) (h3 : headL l ≠ wJob) (h4 : headL l ≠ wRun) : plainL x l (splitF 32 l) = lookR x (lookF l) := by
 unfold plainL
 rw [head_some, if_neg fun e => h1 (Option.some.inj e), if_neg h2, if_neg fun e => h3 (Option.some.inj e), if_neg fun e => h4 (Option.some.inj e)]
 cases lookF l <;> rfl
theorem part_le (l : List UInt8) : partL l ≤ 4 := by
 unfold partL
 split
 ·omega
 ·split
  ·omega
  ·split <;> omega
theorem oneR_no {x : SSt} {part at_ n : Nat} {s : ByteArray} {l : List UInt8} (hp : partL (headL l) < part) : oneR x part s at_ n l = .error (9, at_) := by
 unfold oneR
 rw [if_pos hp]
theorem split_mem (c : UInt8) : ∀ (l s : List UInt8), s ∈ splitF c l → s.length ≤ l.length
 | [], s, h => by
  unfold splitF at h
  simp at h
  subst h
  exact Nat.le_refl _
 | b :: r, s, h => by
  unfold splitF at h
  split at h
  ·rcases List.mem_cons.1 h with rfl | h
   ·exact Nat.zero_le _
   ·exact Nat.le_succ_of_le (split_mem c r s h)
  ·cases hs : splitF c r with
   | nil => exact absurd hs (splitF_ne c r)
   | cons a t =>
    rw [hs] at h
    simp only at h
    rcases List.mem_cons.1 h with rfl | h
    ·have := split_mem c r a (by rw [hs]; simp)
     simp
     omega
    ·exact Nat.le_succ_of_le (split_mem c r s (by rw [hs]; exact List.mem_cons_of_mem _ h))
theorem brief_split {l : List UInt8} (h : l.length ≤ 65535) : Brief (splitF 32 l) :=
 ⟨by rw [splitF_length]; have := List.count_le_length (a := (32 : UInt8)) (l := l); omega, fun s hs => Nat.le_trans (split_mem 32 l s hs) h⟩
end Go.Proofs.YtiheggkkgbfndaaGreatDoor
