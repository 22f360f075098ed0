/- What the calls of a collection do to its cells: the frame, and those that only read. -/
import Derived.Test.YtpmpgnhbpneloaaQd
import Derived.Test.YtpmpgnhbpneloaaQf
import Derived.Test.YtpmpgnhbpneloaaQg
import Derived.Test.YtpmpgnhbpneloaaQi
import Derived.Deep.AppendLies
import Derived.Deep.RegionWith
namespace Go.Proofs.Ytpmpgnhbpneloaa
open Go.RowKit Go.Joins Go.ChangeShapes Go.WideShapes Go.Deep
set_option linter.unusedVariables false
set_option maxRecDepth 100000

/-- A collection lies in block T: its lists in the cells iv and ip. -/
structure Cel (w : World) (base T iv ip : Nat) (x : TM) : Prop where
  cv : w.cell? ⟨T, iv, none⟩ = some x.vv
  cp : w.cell? ⟨T, ip, none⟩ = some x.pv
  fv : w.frozen? ⟨T, iv, none⟩ = false
  fp : w.frozen? ⟨T, ip, none⟩ = false
  th : ThingIs w base x
  lt : T < w.heap.size
  nv : x.vv.ownBlock ≠ some T
  np : x.pv.ownBlock ≠ some T
  ne : iv ≠ ip
def Stp (w : World) (v v' : Value) : Prop := v'.ownBlock = v.ownBlock ∨ ∀ b, v'.ownBlock = some b → w.heap.size ≤ b
structure Frm (w w' : World) (S : Nat → Prop) : Prop where
  os : w'.os = w.os
  tape : w'.tape = w.tape
  output : w'.output = w.output
  size : w.heap.size ≤ w'.heap.size
  block : ∀ q, q < w.heap.size → ¬ S q → w'.heap[q]? = w.heap[q]?
def Mine (T : Nat) (x : TM) (q : Nat) : Prop := q = T ∨ x.vv.ownBlock = some q ∨ x.pv.ownBlock = some q
def XPost (w w' : World) (base T iv ip : Nat) (x : TM) (t' : TS) : Prop :=
  ∃ vv' pv', ThingIs w' base ⟨t', vv', pv'⟩ ∧ (∀ tt cs, Blk w T tt cs → Blk w' T tt ((cs.setIfInBounds iv vv').setIfInBounds ip pv')) ∧ Stp w x.vv vv' ∧ Stp w x.pv pv' ∧ Frm w w' (Mine T x)
def MPost (r : TS × Int × Int) (base T iv ip : Nat) (x : TM) (w : World) : Ending → World → Prop := fun e w' =>
  e = .returned (.tuple #[.int .i64 r.2.1, .int .i64 r.2.2]) ∧ XPost w w' base T iv ip x r.1

theorem own_shapes {w : World} {B e n size : Nat} {v : Value} {xs : List Value} (h : w.ownsRow B e size v n xs) : ∃ R c, v = .slice R n c ∧ n ≤ c ∧ Reads w w.heap.size size R n xs := by
  have h0 := h
  rcases h.2 with ⟨rfl, rfl⟩ | ⟨g, cap, cur, rfl, _, _, hnc, _⟩
  · exact ⟨none, 0, rfl, Nat.le_refl _, Reads.of_own h0⟩
  · exact ⟨_, cap, rfl, hnc, Reads.of_own h0⟩
theorem own_drewN {w : World} {B e n size k : Nat} {v : Value} {xs : List Value} (h : w.ownsRow B e size v n xs) : (w.drewN k).ownsRow B e size v n xs := h
theorem set_back {cs : Array Value} {i : Nat} {u : Value} (h : cs[i]? = some u) : cs.setIfInBounds i u = cs := by
  apply Array.ext
  · simp
  · intro q h1 h2
    rw [Array.getElem_setIfInBounds h2]
    by_cases hq : i = q
    · subst hq
      rw [if_pos rfl]
      exact (Array.getElem?_eq_some_iff.1 h).2.symm
    · rw [if_neg hq]

section
variable {w w' w1 w2 : World} {base T iv ip : Nat} {x : TM}
theorem Frm.refl (w : World) (S : Nat → Prop) : Frm w w S := ⟨rfl, rfl, rfl, Nat.le_refl _, fun _ _ _ => rfl⟩
theorem Frm.of_below {S : Nat → Prop} (h : Below w.heap.size w w') : Frm w w' S := ⟨h.os, h.tape, h.output, h.size, fun q hq _ => h.block q hq⟩
theorem Cel.cells {tt : TypeId} {cs : Array Value} (h : Cel w base T iv ip x) (hb : Blk w T tt cs) : cs[iv]? = some x.vv ∧ cs[ip]? = some x.pv := ⟨(hb.cell iv).symm.trans h.cv, (hb.cell ip).symm.trans h.cp⟩
theorem Cel.below (h : Cel w base T iv ip x) (hb : Below w.heap.size w w') : Cel w' base T iv ip x :=
  ⟨(hb.cell (p := ⟨T, iv, none⟩) h.lt).trans h.cv, (hb.cell (p := ⟨T, ip, none⟩) h.lt).trans h.cp, (hb.frozen (p := ⟨T, iv, none⟩) h.lt).trans h.fv, (hb.frozen (p := ⟨T, ip, none⟩) h.lt).trans h.fp,
    h.th.keep fun b hb' => hb.block b (by rcases hb' with e | e; exact (h.th.vs.lt b e).2; exact (h.th.ps.lt b e).2), by have := hb.size; have := h.lt; omega, h.nv, h.np, h.ne⟩
theorem XPost.same (h : Cel w base T iv ip x) (hb : Below w.heap.size w w') : XPost w w' base T iv ip x x.t := by
  refine ⟨x.vv, x.pv, (h.below hb).th, fun tt cs hc => ?_, .inl rfl, .inl rfl, Frm.of_below hb⟩
  obtain ⟨e1, e2⟩ := h.cells hc
  rw [set_back e1, set_back e2]
  exact hc.below hb hc.lt
/-- First blocks are made, then the thing is turned. -/
theorem XPost.after {t' : TS} (h : Cel w base T iv ip x) (hb : Below w.heap.size w w1) (hp : XPost w1 w2 base T iv ip x t') : XPost w w2 base T iv ip x t' := by
  obtain ⟨vv', pv', h1, h2, h3, h4, h5⟩ := hp
  have hs := hb.size
  refine ⟨vv', pv', h1, fun tt cs hc => h2 tt cs (hc.below hb hc.lt), ?_, ?_, ?_⟩
  · exact h3.imp id fun h b e => by have := h b e; omega
  · exact h4.imp id fun h b e => by have := h b e; omega
  · exact ⟨h5.os.trans hb.os, h5.tape.trans hb.tape, h5.output.trans hb.output, by have := h5.size; omega, fun q hq hS => (h5.block q (by omega) hS).trans (hb.block q hq)⟩
theorem XPost.drewN {t' : TS} {n : Nat} (hp : XPost w w2 base T iv ip x t') : XPost w (w2.drewN n) base T iv ip x t' := by
  obtain ⟨vv', pv', h1, h2, h3, h4, h5⟩ := hp
  exact ⟨vv', pv', ⟨h1.vs, h1.ps⟩, fun tt cs hc => h2 tt cs hc, h3, h4, ⟨h5.os, h5.tape, h5.output, h5.size, h5.block⟩⟩
/-- The values are laid in a row anew. -/
theorem XPost.values {vv' : Value} {vs' : List Int} (h : Cel w base T iv ip x) (hown : w1.ownsRow base 2 1 vv' vs'.length (ints vs')) (hg : w.grownBy w1 x.vv.ownBlock) (hs : Stp w x.vv vv') :
    XPost w (w1.setCell ⟨T, iv, none⟩ vv') base T iv ip x { x.t with values := vs' } := by
  have hTl := h.lt
  have hsz := hg.size
  have hnT : vv'.ownBlock ≠ some T := by
    rcases hs with e | e
    · rw [e]; exact h.nv
    · intro e'
      have := e T e'
      omega
  have hps : w1.ownsRow base 54 2 x.pv x.t.pairs.length (prs x.t.pairs) := own_keep h.th.ps fun b hb => hg.block b (h.th.ps.lt b hb).2 (fun e => by
    obtain ⟨c1, hc1⟩ := own_blk h.th.vs e.symm
    obtain ⟨c2, hc2⟩ := own_blk h.th.ps hb
    exact hc1.ne_ hc2 (by decide) rfl)
  refine ⟨vv', x.pv, ⟨ownsRow_setCell_other (a := ⟨T, iv, none⟩) hown hnT _, ownsRow_setCell_other (a := ⟨T, iv, none⟩) hps h.np _⟩, fun tt cs hc => ?_, hs, .inl rfl, ?_⟩
  · have e2 := (h.cells hc).2
    have h1 := (hc.grown hg (fun e => h.nv e.symm)).set_ iv vv'
    rw [set_back (i := ip) (u := x.pv)]
    · exact h1
    · rw [Array.getElem?_setIfInBounds_ne h.ne]
      exact e2
  · refine ⟨hg.os, hg.tape, hg.output, by simp [World.setCell]; exact hsz, fun q hq hS => ?_⟩
    rw [Below.heap_setCell w1 ⟨T, iv, none⟩ vv' q (fun e => hS (.inl e))]
    exact hg.block q hq (fun e => hS (.inr (.inl e.symm)))
/-- The values are written over where they lie. -/
theorem XPost.valuesIn {vs' : List Int} (h : Cel w base T iv ip x) (hown : w1.ownsRow base 2 1 x.vv vs'.length (ints vs')) (hg : w.grownBy w1 x.vv.ownBlock) :
    XPost w w1 base T iv ip x { x.t with values := vs' } := by
  have hps : w1.ownsRow base 54 2 x.pv x.t.pairs.length (prs x.t.pairs) := own_keep h.th.ps fun b hb => hg.block b (h.th.ps.lt b hb).2 (fun e => by
    obtain ⟨c1, hc1⟩ := own_blk h.th.vs e.symm
    obtain ⟨c2, hc2⟩ := own_blk h.th.ps hb
    exact hc1.ne_ hc2 (by decide) rfl)
  refine ⟨x.vv, x.pv, ⟨hown, hps⟩, fun tt cs hc => ?_, .inl rfl, .inl rfl, ?_⟩
  · obtain ⟨e1, e2⟩ := h.cells hc
    rw [set_back e1, set_back e2]
    exact hc.grown hg (fun e => h.nv e.symm)
  · exact ⟨hg.os, hg.tape, hg.output, hg.size, fun q hq hS => hg.block q hq (fun e => hS (.inr (.inl e.symm)))⟩
theorem XPost.pairs {pv' : Value} {ps' : List (Int × Int)} (h : Cel w base T iv ip x) (hown : w1.ownsRow base 54 2 pv' ps'.length (prs ps')) (hg : w.grownBy w1 x.pv.ownBlock) (hs : Stp w x.pv pv') :
    XPost w (w1.setCell ⟨T, ip, none⟩ pv') base T iv ip x { x.t with pairs := ps' } := by
  have hTl := h.lt
  have hsz := hg.size
  have hnT : pv'.ownBlock ≠ some T := by
    rcases hs with e | e
    · rw [e]; exact h.np
    · intro e'
      have := e T e'
      omega
  have hvs : w1.ownsRow base 2 1 x.vv x.t.values.length (ints x.t.values) := own_keep h.th.vs fun b hb => hg.block b (h.th.vs.lt b hb).2 (fun e => by
    obtain ⟨c1, hc1⟩ := own_blk h.th.ps e.symm
    obtain ⟨c2, hc2⟩ := own_blk h.th.vs hb
    exact hc1.ne_ hc2 (by decide) rfl)
  refine ⟨x.vv, pv', ⟨ownsRow_setCell_other (a := ⟨T, ip, none⟩) hvs h.nv _, ownsRow_setCell_other (a := ⟨T, ip, none⟩) hown hnT _⟩, fun tt cs hc => ?_, .inl rfl, hs, ?_⟩
  · have e1 := (h.cells hc).1
    have h1 := (hc.grown hg (fun e => h.np e.symm)).set_ ip pv'
    rw [set_back e1]
    exact h1
  · refine ⟨hg.os, hg.tape, hg.output, by simp [World.setCell]; exact hsz, fun q hq hS => ?_⟩
    rw [Below.heap_setCell w1 ⟨T, ip, none⟩ pv' q (fun e => hS (.inl e))]
    exact hg.block q hq (fun e => hS (.inr (.inr e.symm)))
theorem XPost.pairsIn {ps' : List (Int × Int)} (h : Cel w base T iv ip x) (hown : w1.ownsRow base 54 2 x.pv ps'.length (prs ps')) (hg : w.grownBy w1 x.pv.ownBlock) :
    XPost w w1 base T iv ip x { x.t with pairs := ps' } := by
  have hvs : w1.ownsRow base 2 1 x.vv x.t.values.length (ints x.t.values) := own_keep h.th.vs fun b hb => hg.block b (h.th.vs.lt b hb).2 (fun e => by
    obtain ⟨c1, hc1⟩ := own_blk h.th.ps e.symm
    obtain ⟨c2, hc2⟩ := own_blk h.th.vs hb
    exact hc1.ne_ hc2 (by decide) rfl)
  refine ⟨x.vv, x.pv, ⟨hvs, hown⟩, fun tt cs hc => ?_, .inl rfl, .inl rfl, ?_⟩
  · obtain ⟨e1, e2⟩ := h.cells hc
    rw [set_back e1, set_back e2]
    exact hc.grown hg (fun e => h.np e.symm)
  · exact ⟨hg.os, hg.tape, hg.output, hg.size, fun q hq hS => hg.block q hq (fun e => hS (.inr (.inr e.symm)))⟩
theorem MPost.read {t : TS} {v code : Int} (h : Cel w base T iv ip x) (hb : Below w.heap.size w w') (ht : x.t = t) : MPost (t, v, code) base T iv ip x w (.returned (.tuple #[.int .i64 v, .int .i64 code])) w' := by
  subst ht
  exact ⟨rfl, XPost.same h hb⟩
end

/-! ### Those that only read -/
theorem long_any (x : TM) (T o base : Nat) (a : Value) (w : World) (h : Cel w base T (o + 2) (o + 3) x) :
    Calls Try.prog 43 #[.pointer (some ⟨T, o, none⟩), a] w (MPost (longF x.t) base T (o + 2) (o + 3) x w) := by
  obtain ⟨V, vc, hvv, hvc, hV⟩ := own_shapes h.th.vs
  have c2 := h.cv
  rw [hvv] at c2
  have H := Lib.hid h
  clear h hV hvv
  go_enter Try.func43, Try.ntmps43
  go_wp2
  go_ret2
  exact MPost.read H.out (Below.refl _ _) rfl
theorem wide_any (x : TM) (T o base : Nat) (a : Value) (w : World) (h : Cel w base T (o + 2) (o + 3) x) :
    Calls Try.prog 47 #[.pointer (some ⟨T, o, none⟩), a] w (MPost (wideF x.t) base T (o + 2) (o + 3) x w) := by
  obtain ⟨V, vc, hvv, hvc, hV⟩ := own_shapes h.th.ps
  have c2 := h.cp
  rw [hvv] at c2
  have H := Lib.hid h
  clear h hV hvv
  go_enter Try.func47, Try.ntmps47
  go_wp2
  go_ret2
  exact MPost.read H.out (Below.refl _ _) rfl
theorem from_any (x : TM) (T o base i : Nat) (w : World) (h : Cel w base T (o + 2) (o + 3) x) (hi : i ≤ x.t.values.length) :
    Calls Try.prog 71 #[.pointer (some ⟨T, o, none⟩), .int .i64 i] w (MPost (fromF x.t i) base T (o + 2) (o + 3) x w) := by
  obtain ⟨V, vc, hvv, hvc, hV⟩ := own_shapes h.th.vs
  have c2 := h.cv
  rw [hvv] at c2
  have H := Lib.hid h
  clear h hvv
  unfold fromF
  by_cases hin : i < x.t.values.length
  · rw [if_pos hin]
    obtain ⟨b, off, rfl, hb, hc⟩ := hV.flat (by omega)
    obtain ⟨v, hv⟩ : ∃ v, v = x.t.values.getD i 0 := ⟨_, rfl⟩
    have cx : w.cell? ⟨b, off + i, none⟩ = some (.int .i64 v) := by
      rw [hv, List.getD_eq_getElem?_getD, List.getElem?_eq_getElem hin]
      exact hc _ _ (ints_at _ i hin)
    rw [← hv]
    have e1 : ((i : Int) == (x.t.values.length : Int)) = false := by simp; omega
    have hii : (i : Int) < (x.t.values.length : Int) := by omega
    clear hc hv hV
    go_enter Try.func71, Try.ntmps71
    go_wp2
    go_ret2
    exact MPost.read H.out (Below.refl _ _) rfl
  · rw [if_neg hin]
    have e1 : ((i : Int) == (x.t.values.length : Int)) = true := by simp; omega
    clear hV
    go_enter Try.func71, Try.ntmps71
    go_wp2
    go_ret2
    exact MPost.read H.out (Below.refl _ _) rfl
theorem least_any (x : TM) (T o base : Nat) (a : Value) (w : World) (h : Cel w base T (o + 2) (o + 3) x) :
    Calls Try.prog 51 #[.pointer (some ⟨T, o, none⟩), a] w (MPost (fromF x.t 0) base T (o + 2) (o + 3) x w) := by
  have HC := from_any x T o base 0 w h (Nat.zero_le _)
  obtain ⟨r, hr⟩ : ∃ r, r = fromF x.t 0 := ⟨_, rfl⟩
  rw [← hr] at HC ⊢
  have H := Lib.hid h
  clear h hr
  go_enter Try.func51, Try.ntmps51
  go_wp2_with fail
  refine HC.mono ?_
  rintro e w1 ⟨rfl, hp⟩
  have HP := Lib.hid hp
  clear hp
  go_wp2_with fail
  go_ret2
  exact ⟨rfl, HP.out⟩
theorem value_any (x : TM) (T o base : Nat) (k : Int) (w : World) (h : Cel w base T (o + 2) (o + 3) x) (hn : x.t.values.length ≤ 16) (hs : x.t.values.Pairwise (· < ·)) :
    Calls Try.prog 69 #[.pointer (some ⟨T, o, none⟩), .int .i64 k] w fun e w' => e = .returned (.tuple #[.int .i64 (low idv x.t.values k), .bool (isAt idv x.t.values k)]) ∧ Below w.heap.size w w' := by
  obtain ⟨V, vc, hvv, hvc, hV⟩ := own_shapes h.th.vs
  have c2 := h.cv
  rw [hvv] at c2
  have HC := findV_any V x.t.values.length vc x.t.values k w (by omega) hV hs
  generalize low idv x.t.values k = lw at *
  generalize isAt idv x.t.values k = at_ at *
  clear h hvv hV hs
  go_enter Try.func69, Try.ntmps69
  go_wp2_with fail
  refine HC.mono ?_
  rintro e w1 ⟨rfl, hb⟩
  go_wp2_with fail
  go_ret2
  exact ⟨rfl, hb⟩
theorem pair_any (x : TM) (T o base : Nat) (k : Int) (w : World) (h : Cel w base T (o + 2) (o + 3) x) (hn : x.t.pairs.length ≤ 16) (hs : x.t.pairs.Pairwise (fun a b => Prod.fst a < Prod.fst b)) :
    Calls Try.prog 66 #[.pointer (some ⟨T, o, none⟩), .int .i64 k] w fun e w' => e = .returned (.tuple #[.int .i64 (low Prod.fst x.t.pairs k), .bool (isAt Prod.fst x.t.pairs k)]) ∧ Below w.heap.size w w' := by
  obtain ⟨V, vc, hvv, hvc, hV⟩ := own_shapes h.th.ps
  have c2 := h.cp
  rw [hvv] at c2
  have HC := findP_any V x.t.pairs.length vc x.t.pairs k w (by omega) hV hs
  generalize low Prod.fst x.t.pairs k = lw at *
  generalize isAt Prod.fst x.t.pairs k = at_ at *
  clear h hvv hV hs
  go_enter Try.func66, Try.ntmps66
  go_wp2_with fail
  refine HC.mono ?_
  rintro e w1 ⟨rfl, hb⟩
  go_wp2_with fail
  go_ret2
  exact ⟨rfl, hb⟩

/-- The first argument's cell. -/
theorem arg_cell {w : World} {B n : Nat} {A : Option Addr} {l : List Int} (h : Reads w B 1 A n (ints l)) (i : Nat) (hi : i < l.length) : ∃ b off, A = some ⟨b, off, none⟩ ∧ b < B ∧ ∀ j (hj : j < l.length), w.cell? ⟨b, off + j, none⟩ = some (.int .i64 (l.getD j 0)) := by
  have hl : l.length = n := by have := h.1; simpa [ints] using this
  obtain ⟨b, off, rfl, hb, hc⟩ := h.flat (by omega)
  refine ⟨b, off, rfl, hb, fun j hj => ?_⟩
  rw [List.getD_eq_getElem?_getD, List.getElem?_eq_getElem hj]
  exact hc _ _ (ints_at l j hj)

theorem has_any (x : TM) (T o base : Nat) (A : Option Addr) (na ca : Nat) (args : List Int) (w : World) (h : Cel w base T (o + 2) (o + 3) x) (hok : TOk x.t) (hk : x.t.kind = 4) (hA : Reads w w.heap.size 1 A na (ints args)) (hal : args.length = 1) (hna : na = 1) :
    Calls Try.prog 50 #[.pointer (some ⟨T, o, none⟩), .slice A na ca] w (MPost (hasF x.t (args.getD 0 0)) base T (o + 2) (o + 3) x w) := by
  subst hna
  obtain ⟨ab, aoff, rfl, hab, hac⟩ := arg_cell hA 0 (by omega)
  have ca0 := hac 0 (by omega)
  generalize args.getD 0 0 = k at *
  simp only [Nat.add_zero] at ca0
  have HV := value_any x T o base k w h hok.lv (hok.chn hk)
  unfold hasF
  have H := Lib.hid h
  clear h hac hA hok hk hal
  rcases hat : isAt idv x.t.values k with _ | _
  · rw [hat] at HV
    generalize low idv x.t.values k = lw at *
    clear hat
    go_enter Try.func50, Try.ntmps50
    go_wp2_with fail
    refine HV.mono ?_
    rintro e w1 ⟨rfl, hb⟩
    go_wp2_with fail
    go_ret2
    exact MPost.read H.out hb rfl
  · rw [hat] at HV
    generalize low idv x.t.values k = lw at *
    clear hat
    go_enter Try.func50, Try.ntmps50
    go_wp2_with fail
    refine HV.mono ?_
    rintro e w1 ⟨rfl, hb⟩
    go_wp2_with fail
    go_ret2
    exact MPost.read H.out hb rfl
theorem next_any (x : TM) (T o base : Nat) (A : Option Addr) (na ca : Nat) (args : List Int) (w : World) (h : Cel w base T (o + 2) (o + 3) x) (hok : TOk x.t) (hk : x.t.kind = 4) (hA : Reads w w.heap.size 1 A na (ints args)) (hal : args.length = 1) (hna : na = 1) :
    Calls Try.prog 52 #[.pointer (some ⟨T, o, none⟩), .slice A na ca] w (MPost (nextK x.t (args.getD 0 0)) base T (o + 2) (o + 3) x w) := by
  subst hna
  obtain ⟨ab, aoff, rfl, hab, hac⟩ := arg_cell hA 0 (by omega)
  have ca0 := hac 0 (by omega)
  generalize args.getD 0 0 = k at *
  simp only [Nat.add_zero] at ca0
  have HV := value_any x T o base k w h hok.lv (hok.chn hk)
  have hlow := low_le (key := idv) (l := x.t.values) (k := k)
  have hlv := hok.lv
  unfold nextK
  rcases hat : isAt idv x.t.values k with _ | _
  · rw [hat] at HV
    generalize low idv x.t.values k = lw at *
    have HF : Hid (∀ W, Below w.heap.size w W → Calls Try.prog 71 #[.pointer (some ⟨T, o, none⟩), .int .i64 lw] W (MPost (fromF x.t lw) base T (o + 2) (o + 3) x W)) := Lib.hid fun W hW => from_any x T o base lw W (h.below hW) hlow
    obtain ⟨r, hr⟩ : ∃ r, r = fromF x.t lw := ⟨_, rfl⟩
    simp only [if_neg (show ¬ (false = true) by decide), Nat.add_zero]
    rw [← hr] at HF ⊢
    have H := Lib.hid h
    clear h hac hA hok hk hal hat hr
    go_enter Try.func52, Try.ntmps52
    go_wp2_with fail
    refine HV.mono ?_
    rintro e w1 ⟨rfl, hb⟩
    go_wp2_with fail
    refine (HF.out _ hb).mono ?_
    rintro e w2 ⟨rfl, hp⟩
    have HP := Lib.hid (XPost.after H.out hb hp)
    clear hp
    go_wp2_with fail
    go_ret2
    exact ⟨rfl, HP.out⟩
  · rw [hat] at HV
    obtain ⟨hl1, _⟩ := isAt_iff.1 hat
    generalize low idv x.t.values k = lw at *
    have HF : Hid (∀ W, Below w.heap.size w W → Calls Try.prog 71 #[.pointer (some ⟨T, o, none⟩), .int .i64 ((lw : Int) + 1)] W (MPost (fromF x.t (lw + 1)) base T (o + 2) (o + 3) x W)) := Lib.hid fun W hW => by
      have := from_any x T o base (lw + 1) W (h.below hW) (by omega)
      exact this
    obtain ⟨r, hr⟩ : ∃ r, r = fromF x.t (lw + 1) := ⟨_, rfl⟩
    simp only [if_true]
    rw [← hr] at HF ⊢
    have hlw : lw < 1000 := by omega
    have H := Lib.hid h
    clear h hac hA hok hk hal hat hr
    go_enter Try.func52, Try.ntmps52
    go_wp2_with fail
    refine HV.mono ?_
    rintro e w1 ⟨rfl, hb⟩
    go_wp2_with fail
    refine (HF.out _ hb).mono ?_
    rintro e w2 ⟨rfl, hp⟩
    have HP := Lib.hid (XPost.after H.out hb hp)
    clear hp
    go_wp2_with fail
    go_ret2
    exact ⟨rfl, HP.out⟩
theorem get_any (x : TM) (T o base : Nat) (A : Option Addr) (na ca : Nat) (args : List Int) (w : World) (h : Cel w base T (o + 2) (o + 3) x) (hok : TOk x.t) (hk : x.t.kind = 3) (hA : Reads w w.heap.size 1 A na (ints args)) (hal : args.length = 1) (hna : na = 1) :
    Calls Try.prog 44 #[.pointer (some ⟨T, o, none⟩), .slice A na ca] w (MPost (getF x.t (args.getD 0 0)) base T (o + 2) (o + 3) x w) := by
  subst hna
  obtain ⟨ab, aoff, rfl, hab, hac⟩ := arg_cell hA 0 (by omega)
  have ca0 := hac 0 (by omega)
  generalize args.getD 0 0 = k at *
  simp only [Nat.add_zero] at ca0
  have HV := pair_any x T o base k w h hok.lp (hok.dct hk)
  unfold getF
  have H := Lib.hid h
  rcases hat : isAt Prod.fst x.t.pairs k with _ | _
  · rw [hat] at HV
    generalize low Prod.fst x.t.pairs k = lw at *
    clear hat h hac hA hok hk hal
    go_enter Try.func44, Try.ntmps44
    go_wp2_with fail
    refine HV.mono ?_
    rintro e w1 ⟨rfl, hb⟩
    go_wp2_with fail
    go_ret2
    exact MPost.read H.out hb rfl
  · rw [hat] at HV
    obtain ⟨hl1, _⟩ := isAt_iff.1 hat
    obtain ⟨V, vc, hvv, hvc, hV⟩ := own_shapes h.th.ps
    have c2 := h.cp
    rw [hvv] at c2
    obtain ⟨b, off, rfl, hb, hc⟩ := flatK hV (by omega) (by omega)
    have py := prs_at x.t.pairs _ 1 hl1 (by omega)
    have cy := hc _ _ py
    have ey : (x.t.pairs.getD (low Prod.fst x.t.pairs k) (0, 0)).2 = x.t.pairs[low Prod.fst x.t.pairs k].2 := by rw [List.getD_eq_getElem?_getD, List.getElem?_eq_getElem hl1]; rfl
    have cy2 : w.cell? ⟨b, off + low Prod.fst x.t.pairs k * 2 + 1, none⟩ = some (.int .i64 (x.t.pairs.getD (low Prod.fst x.t.pairs k) (0, 0)).2) := by rw [ey]; exact cy
    simp only [if_true]
    generalize (x.t.pairs.getD (low Prod.fst x.t.pairs k) (0, 0)).2 = v at *
    generalize low Prod.fst x.t.pairs k = lw at *
    have hTl := h.lt
    have hii : (lw : Int) < (x.t.pairs.length : Int) := by omega
    clear hat h hac hA hok hk hal hc py cy ey hvv hV
    go_enter Try.func44, Try.ntmps44
    go_wp2_with fail
    refine HV.mono ?_
    rintro e w1 ⟨rfl, hb1⟩
    have d2 : w1.cell? ⟨T, o + 3, none⟩ = some (.slice (some ⟨b, off, none⟩) x.t.pairs.length vc) := (hb1.cell (p := ⟨T, o + 3, none⟩) hTl).trans c2
    have dy : w1.cell? ⟨b, off + lw * 2 + 1, none⟩ = some (.int .i64 v) := (hb1.cell (p := ⟨b, off + lw * 2 + 1, none⟩) hb).trans cy2
    go_wp2_with fail
    go_ret2
    exact MPost.read H.out hb1 rfl
end Go.Proofs.Ytpmpgnhbpneloaa
