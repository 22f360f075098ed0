/- A text cut at its first star, by places; plain. -/
import Derived.Test.YtiheggkkgbfndaaGreatDoorK09
import Derived.Test.YtiheggkkgbfndaaGreatDoorK10
import Derived.Test.YtiheggkkgbfndaaGreatDoorK13
import Derived.Test.YtiheggkkgbfndaaGreatDoorK15
import Derived.Test.YtiheggkkgbfndaaGreatDoorK24
namespace Go.Proofs.YtiheggkkgbfndaaGreatDoor
open Go Go.Lib
set_option linter.unusedVariables false
set_option linter.unusedSimpArgs false
end Go.Proofs.YtiheggkkgbfndaaGreatDoor
namespace Go.Proofs.YtiheggkkgbfndaaGreatDoor
open Go.RowKit Go.Joins Go.ChangeShapes Go.WideShapes Go.Deep
set_option linter.unusedVariables false
set_option linter.unusedSimpArgs false
set_option maxRecDepth 100000
theorem spread_size (l : List (Nat × Nat)) : (spread l).length = manyF l := by
 unfold spread manyF
 induction l with
 | nil => rfl
 | cons x l ih => rw [List.flatMap_cons, List.length_append, ih, List.map_cons, List.sum_cons, List.length_replicate]
theorem runL_short {x : SSt} {ws : List (List UInt8)} (h : ws.length < 2) : runL x ws = .error 9 := by
 match ws, h with
 | [], _ => rfl
 | [_], _ => rfl
 | _ :: _ :: _, h =>
  simp at h
  omega
theorem runL_none {x : SSt} {u i : List UInt8} {is : List (List UInt8)} (h : itemsL (i :: is) = none) : runL x (u :: i :: is) = .error 9 := by
 unfold runL
 simp only
 rw [h]
theorem runL_some {x : SSt} {u i : List UInt8} {is : List (List UInt8)} {l : List (Nat × Nat)} (h : itemsL (i :: is) = some l) : runL x (u :: i :: is) = if 20000 < x.steps + manyF l then .error 2 else .ok ⟨x.set, x.lines ++ [⟨1, spread l⟩], x.steps + manyF l⟩ := by
 unfold runL
 simp only
 rw [h]
def cutT (l : List UInt8) : Option (List UInt8 × List UInt8) → List UInt8 × List UInt8 × Bool
 | none => (l, [], false)
 | some (a, b) => (a, b, true)
theorem cut_star (l : List UInt8) : Go.Lib.cut l [42] = cutT l (cutAt 42 l) := by
 unfold Go.Lib.cut
 rcases split_cases 42 l with hm | ⟨a, b, rfl, ha⟩
 ·rw [index_miss 42 l hm, if_neg (by omega), cutAt_none l hm]
  rfl
 ·rw [index_hit 42 a b ha, if_pos (by omega), cutAt_some a b ha]
  show _ = (a, b, true)
  simp
theorem itemL_none {s : List UInt8} (h : cutAt 42 s = none) : itemL s = (numIn s 0 99).map fun n => (n.toNat, 1) := by
 unfold itemL
 rw [h]
def pairL : Option Int → Option Int → Option (Nat × Nat)
 | some n, some k => some (n.toNat, k.toNat)
 | _, _ => none
theorem itemL_some {s a b : List UInt8} (h : cutAt 42 s = some (a, b)) : itemL s = pairL (numIn a 0 99) (numIn b 2 20000) := by
 unfold itemL
 rw [h]
 simp only
 cases numIn a 0 99 <;> cases numIn b 2 20000 <;> rfl
theorem numIn_rng {s : List UInt8} {lo hi v : Int} (h : numIn s lo hi = some v) : lo ≤ v ∧ v ≤ hi := by
 unfold numIn at h
 split at h
 ·split at h
  ·rename_i h0
   injection h with h
   rw [← h]
   exact h0
  ·cases h
 ·cases h
theorem items_nextL {is : List (List UInt8)} {i : Nat} {s : List UInt8} {l : List (Nat × Nat)} {x : Nat × Nat} (h : is[i]? = some s) (h1 : itemsL (is.take i) = some l) (h2 : itemL s = some x) : itemsL (is.take (i + 1)) = some (l ++ [x]) := by
 rw [take_snoc is i s h, itemsL_snoc, h1, h2]
theorem items_badL {is : List (List UInt8)} {i : Nat} {s : List UInt8} (h : is[i]? = some s) (h2 : itemL s = none) : itemsL is = none := by
 have h3 : itemsL (is.take (i + 1)) = none := by
  rw [take_snoc is i s h, itemsL_snoc, h2]
  cases itemsL (is.take i) <;> rfl
 have := itemsL_none (r := is.drop (i + 1)) h3
 rwa [List.take_append_drop] at this
theorem cutAt_len : ∀ {s a b : List UInt8}, cutAt 42 s = some (a, b) → a.length + b.length ≤ s.length
 | [], a, b, h => by cases h
 | c :: s, a, b, h => by
  unfold cutAt at h
  split at h
  ·injection h with h
   injection h with h1 h2
   subst h1 h2
   simp
  ·cases hs : cutAt 42 s with
   | none => rw [hs] at h; cases h
   | some y =>
    obtain ⟨a', b'⟩ := y
    rw [hs] at h
    injection h with h
    injection h with h1 h2
    have := cutAt_len hs
    subst h1 h2
    simp
    omega
section
variable {B : Nat} {w WA w3 : World} {x : SSt} {rv pv tv lv : Value} {T : List (Value × List (PJob × Value))} {L : List (PLine × Value)} {p : Nat} {t : TypeId} {cs : Array Value}
theorem SetAt.line2 {lv' v : Value} {l : PLine} {n : Nat} (h : SetAt B w x rv pv tv lv T L) (hA : Below w.heap.size w WA) (hg : WA.grownBy w3 lv.ownBlock)
    (hv : w3.ownsRow B 49 2 lv' (L.length + 1) (rows lnC L ++ lnC (l, v))) (ht : w3.ownsRow B 3 1 v l.thr.length (rows natC l.thr)) (hf : ∀ y ∈ L, ∀ q, y.2.ownBlock = some q → v.ownBlock ≠ some q) : SetAt B w3 ⟨x.set, x.lines ++ [l], n⟩ rv pv tv lv' T (L ++ [(l, v)]) := by
  refine ⟨own_grown h.regs hA hg fun q hq => own_ne h.regs h.lines (by decide) hq,
   own_grown h.progs hA hg fun q hq => own_ne h.progs h.lines (by decide) hq,
   own_grown h.thr hA hg fun q hq => own_ne h.thr h.lines (by decide) hq,
   h.jobs.grown hA hg fun y hy q hq => own_ne (h.jobs.own y hy) h.lines (by decide) hq,
   h.args.grown hA hg fun y hy q hq => own_ne (h.args.own y hy) h.lines (by decide) hq, h.thrEq, ?_, ?_, ?_⟩
  · rw [List.length_append, List.length_singleton, rows_snoc]
    exact hv
  · rw [List.map_append, List.map_singleton]
    refine (h.steps.grown hA hg fun y hy q hq => own_ne (h.steps.own y hy) h.lines (by decide) hq).snoc ht fun y hy q hq hq' => ?_
    obtain ⟨z, hz, rfl⟩ := List.mem_map.1 hy
    exact hf z hz q hq hq'
  · rw [List.map_append, h.linesEq]
    rfl
theorem SetAt.put_line2 (h : SetAt B w x rv pv tv lv T L) (hb : Blk w p t cs) (ho : Oth t) (hBw : B ≤ w.heap.size) (hBp : B ≤ p) (hA : Below w.heap.size w WA) (hg : WA.grownBy w3 lv.ownBlock) (l : PLine) (n : Nat) {lv' v : Value}
  (hv : w3.ownsRow B 49 2 lv' (L.length + 1) (rows lnC L ++ lnC (l, v))) (ht : w3.ownsRow B 3 1 v l.thr.length (rows natC l.thr)) (hf : ∀ y ∈ L, ∀ q, y.2.ownBlock = some q → v.ownBlock ≠ some q) (i : Nat) :
  Blk (w3.setCell ⟨p, i, none⟩ lv') p t (cs.setIfInBounds i lv') ∧ SetAt B (w3.setCell ⟨p, i, none⟩ lv') ⟨x.set, x.lines ++ [l], n⟩ rv pv tv lv' T (L ++ [(l, v)]) ∧ Below B w (w3.setCell ⟨p, i, none⟩ lv') := by
 have hb3 := blk_past hb h.lines ho.f hA hg
 exact ⟨hb3.set_ i _, (h.line2 hA hg hv ht hf).setO hb3 ho _, below_put h.lines hBw hBp hA hg i _⟩
end
theorem PGood.frm {B : Nat} {w w' : World} {p : Nat} {s : ByteArray} {a n a' n' : Nat} {x : SSt} {rv pv tv lv : Value} {T : List (Value × List (PJob × Value))} {L : List (PLine × Value)} (hS : SetAt B w x rv pv tv lv T L) (hb : Blk w p 56 (RdV s a n x.set.cfg rv pv tv lv x.steps 0 0))
  (hf : Frm w w' fun z => z = p) (hb' : Blk w' p 56 (RdV s a' n' x.set.cfg rv pv tv lv x.steps 0 0)) : PGood B w' p s a' n' x := ⟨_, _, _, _, _, _, hb', hS.frm hb oth_rd hf⟩
end Go.Proofs.YtiheggkkgbfndaaGreatDoor
