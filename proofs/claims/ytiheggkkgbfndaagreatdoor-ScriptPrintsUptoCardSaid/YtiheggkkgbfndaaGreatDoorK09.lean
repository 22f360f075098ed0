/- carouselref24: fails, goes. -/
import Derived.Test.YtiheggkkgbfndaaGreatDoorK02
import Derived.Test.YtiheggkkgbfndaaGreatDoorK08
namespace Go.Proofs.YtiheggkkgbfndaaGreatDoor
open Go.RowKit Go.Joins Go.ChangeShapes Go.WideShapes Go.Deep
set_option linter.unusedVariables false
set_option linter.unusedSimpArgs false
set_option maxRecDepth 100000
theorem info_str : (Tryz.prog.info? 9).map (fun i => (i.zero, i.size, i.bytes)) = some (some (.string ⟨#[]⟩), 1, 16) := by kernel_rfl
theorem info_reg : (Tryz.prog.info? 67).map (fun i => (i.zero, i.size, i.bytes)) = some (some (.agg #[.int .i64 0, .int .i64 0]), 2, 16) := by kernel_rfl
theorem info_job : (Tryz.prog.info? 53).map (fun i => (i.zero, i.size, i.bytes)) = some (some (.agg #[.int .i64 0, .slice none 0 0]), 2, 32) := by kernel_rfl
theorem info_lin : (Tryz.prog.info? 49).map (fun i => (i.zero, i.size, i.bytes)) = some (some (.agg #[.int .i64 0, .slice none 0 0]), 2, 32) := by kernel_rfl
theorem info_jobs : (Tryz.prog.info? 50).map (fun i => (i.zero, i.size, i.bytes)) = some (some (.slice none 0 0), 1, 24) := by kernel_rfl
theorem info_i64 : (Tryz.prog.info? 2).map (fun i => (i.zero, i.size, i.bytes)) = some (some (.int .i64 0), 1, 8) := by kernel_rfl
theorem info_in : (Tryz.prog.info? 3).map (fun i => (i.zero, i.size, i.bytes)) = some (some (.int .i64 0), 1, 8) := by kernel_rfl

structure Oth (t : TypeId) : Prop where
 a : 67 ≠ t
 b : 9 ≠ t
 c : 50 ≠ t
 d : 53 ≠ t
 e : 2 ≠ t
 f : 49 ≠ t
 g : 3 ≠ t
theorem oth_rd : Oth 56 := ⟨by decide, by decide, by decide, by decide, by decide, by decide, by decide⟩

section
variable {B : Nat} {w WA w3 : World} {x : SSt} {rv pv tv lv : Value} {T : List (Value × List (PJob × Value))} {L : List (PLine × Value)} {p : Nat} {t : TypeId} {cs : Array Value}
theorem SetAt.setO (h : SetAt B w x rv pv tv lv T L) {b i : Nat} (hb : Blk w b t cs) (ho : Oth t) (u : Value) : SetAt B (w.setCell ⟨b, i, none⟩ u) x rv pv tv lv T L := h.set hb ho.a ho.b ho.c ho.d ho.e ho.f ho.g u
theorem blk_past {e n k B1 : Nat} {v : Value} {xs : List Value} (hb : Blk w p t cs) (hown : w.ownsRow B1 e k v n xs) (hne : e ≠ t) (hA : Below w.heap.size w WA) (hg : WA.grownBy w3 v.ownBlock) : Blk w3 p t cs :=
 (hg.block p (Nat.lt_of_lt_of_le hb.lt hA.size) (fun hh => own_ne_blk hown hb hne hh.symm)).trans ((hA.block p hb.lt).trans hb)
theorem below_past {e n k : Nat} {v : Value} {xs : List Value} (hown : w.ownsRow B e k v n xs) (hBw : B ≤ w.heap.size) (hA : Below w.heap.size w WA) (hg : WA.grownBy w3 v.ownBlock) : Below B w w3 :=
 (hA.mono hBw).trans (((Frm.refl WA (fun q => v.ownBlock = some q)).grown hg (fun q h => .inl h)).below (Nat.le_trans hBw hA.size) fun q hq => (hown.lt q hq).1)
theorem below_put {e n k : Nat} {v : Value} {xs : List Value} (hown : w.ownsRow B e k v n xs) (hBw : B ≤ w.heap.size) (hBp : B ≤ p) (hA : Below w.heap.size w WA) (hg : WA.grownBy w3 v.ownBlock) (i : Nat) (u : Value) : Below B w (w3.setCell ⟨p, i, none⟩ u) :=
 (below_past hown hBw hA hg).setCell hBp u
theorem SetAt.frm {q : Nat} {w' : World} (h : SetAt B w x rv pv tv lv T L) (hb : Blk w q t cs) (ho : Oth t) (hf : Frm w w' fun z => z = q) : SetAt B w' x rv pv tv lv T L := by
 have key : ∀ {e n k : Nat} {v : Value} {xs : List Value}, w.ownsRow B e k v n xs → e ≠ t → w'.ownsRow B e k v n xs := fun hown hne => own_keep hown fun b hbb => hf.block b (hown.lt b hbb).2 fun hq => own_ne_blk hown hb hne (by rw [hbb, hq])
 have key2 : ∀ {α : Type} {e k : Nat} {enc : α → List Value} {l : List (Value × List α)}, Kids B w e k enc l → e ≠ t → Kids B w' e k enc l := fun hk hne => hk.keep fun y hy b hbb => hf.block b (hk.lt hy hbb).2 fun hq => own_ne_blk (hk.own y hy) hb hne (by rw [hbb, hq])
 exact ⟨key h.regs ho.a, key h.progs ho.b, key h.thr ho.c, key2 h.jobs ho.d, key2 h.args ho.e, h.thrEq, key h.lines ho.f, key2 h.steps ho.g, h.linesEq⟩
theorem SetAt.put_region (h : SetAt B w x rv pv tv lv T L) (hb : Blk w p t cs) (ho : Oth t) (hBw : B ≤ w.heap.size) (hBp : B ≤ p) (hA : Below w.heap.size w WA) (hg : WA.grownBy w3 rv.ownBlock) (r : Reg) {rv' : Value}
  (hv : w3.ownsRow B 67 2 rv' (x.set.regs.length + 1) (rows rgC x.set.regs ++ rgC r)) (i : Nat) :
  Blk (w3.setCell ⟨p, i, none⟩ rv') p t (cs.setIfInBounds i rv') ∧ SetAt B (w3.setCell ⟨p, i, none⟩ rv') { x with set := { x.set with regs := x.set.regs ++ [r] } } rv' pv tv lv T L ∧ Below B w (w3.setCell ⟨p, i, none⟩ rv') := by
 have hb3 := blk_past hb h.regs ho.a hA hg
 exact ⟨hb3.set_ i _, (h.region hA hg r hv).setO hb3 ho _, below_put h.regs hBw hBp hA hg i _⟩
theorem SetAt.put_program (h : SetAt B w x rv pv tv lv T L) (hb : Blk w p t cs) (ho : Oth t) (hBw : B ≤ w.heap.size) (hBp : B ≤ p) (hA : Below w.heap.size w WA) (hg : WA.grownBy w3 pv.ownBlock) (r : List UInt8) {pv' : Value}
  (hv : w3.ownsRow B 9 1 pv' (x.set.progs.length + 1) (rows stC x.set.progs ++ stC r)) (i : Nat) :
  Blk (w3.setCell ⟨p, i, none⟩ pv') p t (cs.setIfInBounds i pv') ∧ SetAt B (w3.setCell ⟨p, i, none⟩ pv') { x with set := { x.set with progs := x.set.progs ++ [r] } } rv pv' tv lv T L ∧ Below B w (w3.setCell ⟨p, i, none⟩ pv') := by
 have hb3 := blk_past hb h.progs ho.b hA hg
 exact ⟨hb3.set_ i _, (h.program hA hg r hv).setO hb3 ho _, below_put h.progs hBw hBp hA hg i _⟩
theorem SetAt.put_thread (h : SetAt B w x rv pv tv lv T L) (hb : Blk w p t cs) (ho : Oth t) (hBw : B ≤ w.heap.size) (hBp : B ≤ p) (hA : Below w.heap.size w WA) (hg : WA.grownBy w3 tv.ownBlock) {tv' : Value}
  (hv : w3.ownsRow B 50 1 tv' (T.length + 1) (rows valC (T.map (·.1)) ++ [.slice none 0 0])) (i : Nat) :
  Blk (w3.setCell ⟨p, i, none⟩ tv') p t (cs.setIfInBounds i tv') ∧ SetAt B (w3.setCell ⟨p, i, none⟩ tv') { x with set := { x.set with thr := x.set.thr ++ [[]] } } rv pv tv' lv (T ++ [(.slice none 0 0, [])]) L ∧ Below B w (w3.setCell ⟨p, i, none⟩ tv') := by
 have hb3 := blk_past hb h.thr ho.c hA hg
 exact ⟨hb3.set_ i _, (h.thread hA hg hv).setO hb3 ho _, below_put h.thr hBw hBp hA hg i _⟩
theorem SetAt.put_line (h : SetAt B w x rv pv tv lv T L) (hb : Blk w p t cs) (ho : Oth t) (hBw : B ≤ w.heap.size) (hBp : B ≤ p) (hA : Below w.heap.size w WA) (hg : WA.grownBy w3 lv.ownBlock) (l : PLine) (n : Nat) {lv' v : Value}
  (hv : w3.ownsRow B 49 2 lv' (L.length + 1) (rows lnC L ++ lnC (l, v))) (ht : w3.ownsRow B 3 1 v l.thr.length (rows natC l.thr)) (hf : ∀ q, v.ownBlock = some q → w.heap.size ≤ q) (i : Nat) :
  Blk (w3.setCell ⟨p, i, none⟩ lv') p t (cs.setIfInBounds i lv') ∧ SetAt B (w3.setCell ⟨p, i, none⟩ lv') ⟨x.set, x.lines ++ [l], n⟩ rv pv tv lv' T (L ++ [(l, v)]) ∧ Below B w (w3.setCell ⟨p, i, none⟩ lv') := by
 have hb3 := blk_past hb h.lines ho.f hA hg
 exact ⟨hb3.set_ i _, (h.line hA hg hv ht hf).setO hb3 ho _, below_put h.lines hBw hBp hA hg i _⟩
theorem SetAt.put_job {v av : Value} {g gg cap cap' : Nat} {T0 : List (Value × List (PJob × Value))} {js : List (PJob × Value)} {j : PJob} {wr : World} {N : Nat} (hN : N = T0.length)
  (h : SetAt B w x rv pv (.slice (some ⟨g, 0, none⟩) (N + 1) cap) lv (T0 ++ [(v, js)]) L) (hb : Blk w p t cs) (ho : Oth t) (hBw : B ≤ w.heap.size) (hBg : B ≤ g) (hbr : Below w.heap.size w wr) (hA : Below wr.heap.size wr WA)
  (hav : wr.ownsRow w.heap.size 2 1 av j.args.length (rows i64C j.args)) (hg : WA.grownBy w3 v.ownBlock) (hv : w3.ownsRow B 53 2 (.slice (some ⟨gg, 0, none⟩) (js.length + 1) cap') (js.length + 1) (rows jbC js ++ jbC (j, av))) (hat : v.ownBlock = some gg ∨ gg = wr.heap.size + 1) :
  Blk (w3.setCell ⟨g, N, none⟩ (.slice (some ⟨gg, 0, none⟩) (js.length + 1) cap')) p t cs ∧
  SetAt B (w3.setCell ⟨g, N, none⟩ (.slice (some ⟨gg, 0, none⟩) (js.length + 1) cap')) { x with set := { x.set with thr := addJob x.set.thr j } } rv pv (.slice (some ⟨g, 0, none⟩) (N + 1) cap) lv (T0 ++ [(.slice (some ⟨gg, 0, none⟩) (js.length + 1) cap', js ++ [(j, av)])]) L ∧
  Below B w (w3.setCell ⟨g, N, none⟩ (.slice (some ⟨gg, 0, none⟩) (js.length + 1) cap')) := by
 subst hN
 have hws := hbr.size
 have hA' : Below w.heap.size w WA := hbr.trans (hA.mono hws)
 have hjo : w.ownsRow B 53 2 v js.length (rows jbC js) := h.jobs.own (v, js) (by simp)
 have h1 := h.job hA' (own_lower (own_beb hav hA) hBw) (fun q hq => (hav.lt q hq).1) hg hv (fun q hq => by
  injection hq with hq
  have hq' : gg = q := hq
  subst hq'
  exact hat.imp id fun h => by omega)
 have hb3 := blk_past hb hjo ho.d hA' hg
 have hgp : p ≠ g := fun e => own_ne_blk h.thr hb ho.c (by rw [e]; rfl)
 exact ⟨Blk.far hb3 hgp _, h1, (below_past hjo hBw hA' hg).setCell hBg _⟩
theorem SetAt.lens (h : SetAt B w x rv pv tv lv T L) : T.length = x.set.thr.length ∧ L.length = x.lines.length := by
 constructor
 ·have := congrArg List.length h.thrEq
  simpa using this
 ·have := congrArg List.length h.linesEq
  simpa using this
end
end Go.Proofs.YtiheggkkgbfndaaGreatDoor
