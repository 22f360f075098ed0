/- carouselref14: the document's reader in memory; labels. -/
import Derived.Test.YthghnihlfdoefaaDoorPe
import Derived.Test.YthghnihlfdoefaaDoorPd
import Derived.Test.YthghnihlfdoefaaDoorPb
import Derived.Test.YthghnihlfdoefaaDoorPi
import Derived.Test.YthghnihlfdoefaaDoorOw
import Derived.Test.YthghnihlfdoefaaDoorAv
import Derived.BigQuiet
namespace Go.Proofs.YthghnihlfdoefaaDoor
open Go.RowKit Go.Joins Go.ChangeShapes Go.WideShapes Go.Deep
set_option linter.unusedVariables false
set_option linter.unusedSimpArgs false
set_option maxRecDepth 100000

/-- The document's reader as it lies: its block, its four lists. -/
structure RaRaw (B : Nat) (w : World) (ab : Nat) (ov av nv lv : Value) (z : Int) (Lo : List AOp) (La : List Nat) (Ln Ll : List Tok) : Prop where
  blk : Blk w ab 79 #[ov, av, nv, .int .i64 z, lv]
  ops : w.ownsRow B 36 2 ov Lo.length (rows opc Lo)
  ats : w.ownsRow B 3 1 av La.length (plc La)
  nms : w.ownsRow B 87 2 nv Ln.length (rows tkc Ln)
  lbs : w.ownsRow B 87 2 lv Ll.length (rows tkc Ll)
  ne : ∀ q, nv.ownBlock = some q → lv.ownBlock ≠ some q
theorem RaRaw.keep {B : Nat} {w w' : World} {ab : Nat} {ov av nv lv : Value} {z : Int} {Lo : List AOp} {La : List Nat} {Ln Ll : List Tok} (h : RaRaw B w ab ov av nv lv z Lo La Ln Ll) (hb : Below w.heap.size w w') : RaRaw B w' ab ov av nv lv z Lo La Ln Ll :=
  ⟨h.blk.below hb h.blk.lt, own_beb h.ops hb, own_beb h.ats hb, own_beb h.nms hb, own_beb h.lbs hb, h.ne⟩
structure RaIs (B : Nat) (w : World) (ab : Nat) (ov av nv lv : Value) (r : RSt) : Prop where
  raw : RaRaw B w ab ov av nv lv (r.size : Int) (r.ins.map Ins.op) (r.ins.map Ins.pos) (r.ins.map Ins.name) (r.labels.map labTok)
  size : r.size ≤ 512
  len : r.ins.length ≤ r.size
theorem RaIs.keep {B : Nat} {w w' : World} {ab : Nat} {ov av nv lv : Value} {r : RSt} (h : RaIs B w ab ov av nv lv r) (hb : Below w.heap.size w w') : RaIs B w' ab ov av nv lv r := ⟨h.raw.keep hb, h.size, h.len⟩
/-- What the document's reader may write. -/
def RaS (ab B : Nat) (q : Nat) : Prop := q = ab ∨ B ≤ q
/-- What an append to one of its lists and the store leave. -/
theorem put_frm {W WA w3 : World} {B ab k : Nat} {xv u : Value} (hB : B ≤ W.heap.size) (hA : Below W.heap.size W WA) (hg : WA.grownBy w3 xv.ownBlock) (hx : ∀ q, xv.ownBlock = some q → B ≤ q) :
    Frm W (w3.setCell ⟨ab, k, none⟩ u) (RaS ab B) ∧ ∀ q, q < W.heap.size → xv.ownBlock ≠ some q → q ≠ ab → (w3.setCell ⟨ab, k, none⟩ u).heap[q]? = W.heap[q]? :=
  ⟨((((Frm.refl W (RaS ab B)).trans (Frm.of_below (S := fun _ => False) hA) fun q h => h.elim).grown hg fun q h => .inl (.inr (hx q h))).set ab k u (.inl (.inl rfl))),
   fun q hq ho hr => (Below.heap_setCell w3 ⟨ab, k, none⟩ u q hr).trans ((hg.block q (Nat.lt_of_lt_of_le hq hA.size) (fun h => ho h.symm)).trans (hA.block q hq))⟩
section
variable {B : Nat} {W WA w3 : World} {ab gg cap : Nat} {ov av nv lv : Value} {z : Int} {Lo : List AOp} {La : List Nat} {Ln Ll : List Tok}
theorem RaRaw.blk3 (h : RaRaw B W ab ov av nv lv z Lo La Ln Ll) (hA : Below W.heap.size W WA) {xv : Value} (hx : xv.ownBlock ≠ some ab) (hg : WA.grownBy w3 xv.ownBlock) : Blk w3 ab 79 #[ov, av, nv, .int .i64 z, lv] :=
  (hg.block ab (Nat.lt_of_lt_of_le h.blk.lt hA.size) (fun hh => hx hh.symm)).trans ((hA.block ab h.blk.lt).trans h.blk)
theorem RaRaw.put_ops (h : RaRaw B W ab ov av nv lv z Lo La Ln Ll) (hB : B ≤ W.heap.size) (hA : Below W.heap.size W WA) (hg : WA.grownBy w3 ov.ownBlock) {m : Nat} (hm : m = Lo.length + 1) {o : AOp} (hown3 : w3.ownsRow B 36 2 (.slice (some ⟨gg, 0, none⟩) m cap) m (rows opc Lo ++ opc o)) :
    RaRaw B (w3.setCell ⟨ab, 0, none⟩ (.slice (some ⟨gg, 0, none⟩) m cap)) ab (.slice (some ⟨gg, 0, none⟩) m cap) av nv lv z (Lo ++ [o]) La Ln Ll ∧ Frm W (w3.setCell ⟨ab, 0, none⟩ (.slice (some ⟨gg, 0, none⟩) m cap)) (RaS ab B) := by
  obtain ⟨hF, hk⟩ := put_frm (k := 0) (ab := ab) (u := .slice (some ⟨gg, 0, none⟩) m cap) hB hA hg fun q hq => (h.ops.lt q hq).1
  have h3 := h.blk3 hA (own_ne_blk h.ops h.blk (by decide)) hg
  refine ⟨⟨h3.set_ 0 _, ?_, own_keep h.ats fun q hq => hk q (h.ats.lt q hq).2 (own_ne h.ats h.ops (by decide) hq) (fun e => own_ne_blk h.ats h.blk (by decide) (e ▸ hq)), own_keep h.nms fun q hq => hk q (h.nms.lt q hq).2 (own_ne h.nms h.ops (by decide) hq) (fun e => own_ne_blk h.nms h.blk (by decide) (e ▸ hq)), own_keep h.lbs fun q hq => hk q (h.lbs.lt q hq).2 (own_ne h.lbs h.ops (by decide) hq) (fun e => own_ne_blk h.lbs h.blk (by decide) (e ▸ hq)), h.ne⟩, hF⟩
  subst hm
  rw [List.length_append, List.length_singleton, rows_snoc]
  exact own_set hown3 h3 (by decide) _
theorem RaRaw.put_ats (h : RaRaw B W ab ov av nv lv z Lo La Ln Ll) (hB : B ≤ W.heap.size) (hA : Below W.heap.size W WA) (hg : WA.grownBy w3 av.ownBlock) {m : Nat} (hm : m = La.length + 1) {p : Nat} (hown3 : w3.ownsRow B 3 1 (.slice (some ⟨gg, 0, none⟩) m cap) m (plc La ++ [.int .i64 (p : Int)])) :
    RaRaw B (w3.setCell ⟨ab, 1, none⟩ (.slice (some ⟨gg, 0, none⟩) m cap)) ab ov (.slice (some ⟨gg, 0, none⟩) m cap) nv lv z Lo (La ++ [p]) Ln Ll ∧ Frm W (w3.setCell ⟨ab, 1, none⟩ (.slice (some ⟨gg, 0, none⟩) m cap)) (RaS ab B) := by
  obtain ⟨hF, hk⟩ := put_frm (k := 1) (ab := ab) (u := .slice (some ⟨gg, 0, none⟩) m cap) hB hA hg fun q hq => (h.ats.lt q hq).1
  have h3 := h.blk3 hA (own_ne_blk h.ats h.blk (by decide)) hg
  refine ⟨⟨h3.set_ 1 _, own_keep h.ops fun q hq => hk q (h.ops.lt q hq).2 (own_ne h.ops h.ats (by decide) hq) (fun e => own_ne_blk h.ops h.blk (by decide) (e ▸ hq)), ?_, own_keep h.nms fun q hq => hk q (h.nms.lt q hq).2 (own_ne h.nms h.ats (by decide) hq) (fun e => own_ne_blk h.nms h.blk (by decide) (e ▸ hq)), own_keep h.lbs fun q hq => hk q (h.lbs.lt q hq).2 (own_ne h.lbs h.ats (by decide) hq) (fun e => own_ne_blk h.lbs h.blk (by decide) (e ▸ hq)), h.ne⟩, hF⟩
  subst hm
  rw [List.length_append, List.length_singleton, plc_snoc]
  exact own_set hown3 h3 (by decide) _
theorem RaRaw.put_nms (h : RaRaw B W ab ov av nv lv z Lo La Ln Ll) (hB : B ≤ W.heap.size) (hA : Below W.heap.size W WA) (hg : WA.grownBy w3 nv.ownBlock) (hat : nv.ownBlock = some gg ∨ W.heap.size ≤ gg) {m : Nat} (hm : m = Ln.length + 1) {t : Tok} (hown3 : w3.ownsRow B 87 2 (.slice (some ⟨gg, 0, none⟩) m cap) m (rows tkc Ln ++ tkc t)) :
    RaRaw B (w3.setCell ⟨ab, 2, none⟩ (.slice (some ⟨gg, 0, none⟩) m cap)) ab ov av (.slice (some ⟨gg, 0, none⟩) m cap) lv z Lo La (Ln ++ [t]) Ll ∧ Frm W (w3.setCell ⟨ab, 2, none⟩ (.slice (some ⟨gg, 0, none⟩) m cap)) (RaS ab B) := by
  obtain ⟨hF, hk⟩ := put_frm (k := 2) (ab := ab) (u := .slice (some ⟨gg, 0, none⟩) m cap) hB hA hg fun q hq => (h.nms.lt q hq).1
  have h3 := h.blk3 hA (own_ne_blk h.nms h.blk (by decide)) hg
  refine ⟨⟨h3.set_ 2 _, own_keep h.ops fun q hq => hk q (h.ops.lt q hq).2 (own_ne h.ops h.nms (by decide) hq) (fun e => own_ne_blk h.ops h.blk (by decide) (e ▸ hq)), own_keep h.ats fun q hq => hk q (h.ats.lt q hq).2 (own_ne h.ats h.nms (by decide) hq) (fun e => own_ne_blk h.ats h.blk (by decide) (e ▸ hq)), ?_, own_keep h.lbs fun q hq => hk q (h.lbs.lt q hq).2 (fun e => h.ne q e hq) (fun e => own_ne_blk h.lbs h.blk (by decide) (e ▸ hq)), ?_⟩, hF⟩
  · subst hm
    rw [List.length_append, List.length_singleton, rows_snoc]
    exact own_set hown3 h3 (by decide) _
  · intro q hq he
    have : gg = q := by simpa [Value.ownBlock] using hq
    subst this
    rcases hat with h1 | h1
    · exact h.ne gg h1 he
    · exact absurd (h.lbs.lt gg he).2 (by omega)
theorem RaRaw.put_lbs (h : RaRaw B W ab ov av nv lv z Lo La Ln Ll) (hB : B ≤ W.heap.size) (hA : Below W.heap.size W WA) (hg : WA.grownBy w3 lv.ownBlock) (hat : lv.ownBlock = some gg ∨ W.heap.size ≤ gg) {m : Nat} (hm : m = Ll.length + 1) {t : Tok} (hown3 : w3.ownsRow B 87 2 (.slice (some ⟨gg, 0, none⟩) m cap) m (rows tkc Ll ++ tkc t)) :
    RaRaw B (w3.setCell ⟨ab, 4, none⟩ (.slice (some ⟨gg, 0, none⟩) m cap)) ab ov av nv (.slice (some ⟨gg, 0, none⟩) m cap) z Lo La Ln (Ll ++ [t]) ∧ Frm W (w3.setCell ⟨ab, 4, none⟩ (.slice (some ⟨gg, 0, none⟩) m cap)) (RaS ab B) := by
  obtain ⟨hF, hk⟩ := put_frm (k := 4) (ab := ab) (u := .slice (some ⟨gg, 0, none⟩) m cap) hB hA hg fun q hq => (h.lbs.lt q hq).1
  have h3 := h.blk3 hA (own_ne_blk h.lbs h.blk (by decide)) hg
  refine ⟨⟨h3.set_ 4 _, own_keep h.ops fun q hq => hk q (h.ops.lt q hq).2 (own_ne h.ops h.lbs (by decide) hq) (fun e => own_ne_blk h.ops h.blk (by decide) (e ▸ hq)), own_keep h.ats fun q hq => hk q (h.ats.lt q hq).2 (own_ne h.ats h.lbs (by decide) hq) (fun e => own_ne_blk h.ats h.blk (by decide) (e ▸ hq)), own_keep h.nms fun q hq => hk q (h.nms.lt q hq).2 (fun e => h.ne q hq e) (fun e => own_ne_blk h.nms h.blk (by decide) (e ▸ hq)), ?_, ?_⟩, hF⟩
  · subst hm
    rw [List.length_append, List.length_singleton, rows_snoc]
    exact own_set hown3 h3 (by decide) _
  · intro q hq he
    have : gg = q := by simpa [Value.ownBlock] using he
    subst this
    rcases hat with h1 | h1
    · exact h.ne gg hq h1
    · exact absurd (h.nms.lt gg hq).2 (by omega)
theorem RaRaw.put_size (h : RaRaw B W ab ov av nv lv z Lo La Ln Ll) (z' : Int) : RaRaw B (W.setCell ⟨ab, 3, none⟩ (.int .i64 z')) ab ov av nv lv z' Lo La Ln Ll ∧ Frm W (W.setCell ⟨ab, 3, none⟩ (.int .i64 z')) (RaS ab B) :=
  ⟨⟨h.blk.set_ 3 _, own_set h.ops h.blk (by decide) _, own_set h.ats h.blk (by decide) _, own_set h.nms h.blk (by decide) _, own_set h.lbs h.blk (by decide) _, h.ne⟩, (Frm.refl W (RaS ab B)).set ab 3 _ (.inl (.inl rfl))⟩
end
theorem reads_frm {w w' : World} {B ab size n : Nat} {A : Option Addr} {xs : List Value} (h : Reads w B size A n xs) (hA : ∀ ad, A = some ad → ad.block ≠ ab) (hf : Frm w w' (RaS ab B)) (hB : B ≤ w.heap.size) : Reads w' B size A n xs :=
  ⟨h.1, fun hn => by
    obtain ⟨ad, e, hb, hc⟩ := h.2 hn
    refine ⟨ad, e, hb, fun j u hu => ?_⟩
    have hbl : w'.heap[(ad.add j).block]? = w.heap[(ad.add j).block]? := by
      rw [block_of_add]
      refine hf.block ad.block (by omega) fun hh => ?_
      rcases hh with h1 | h1
      · exact hA ad e h1
      · omega
    exact (World.cell?_of_block hbl).trans (hc j u hu)⟩
/-- A line's label, read. -/
def labL (r : RSt) (l : List Tok) : Except (Nat × Nat) (List Tok × RSt) := match l with
  | [] => .ok ([], r)
  | t :: rest => if t.s.getLast? == some 58 then (
      if nameF t.s.dropLast = false then .error (9, t.pos)
      else if (labF2 r.labels t.s.dropLast).isSome then .error (11, t.pos)
      else .ok (rest, ⟨r.labels ++ [(t.s.dropLast, r.size)], r.ins⟩))
    else .ok (t :: rest, r)
theorem lineL_labL (r : RSt) (l : List Tok) : lineL r l = match labL r l with
    | .error e => .error e
    | .ok ([], r') => .ok r'
    | .ok (t :: rest, r') => insL r' t rest := by
  unfold lineL labL
  cases l with
  | nil => rfl
  | cons t rest =>
    simp only
    split
    · split
      · rfl
      · split
        · rfl
        · cases rest <;> rfl
    · rfl
def LblPost (B : Nat) (w : World) (ab : Nat) (x : Except (Nat × Nat) (List Tok × RSt)) (e : Ending) (w' : World) : Prop := match x with
  | .error y => e = .returned (.tuple #[.slice none 0 0, .int .i64 y.1, .int .i64 y.2]) ∧ Frm w w' (RaS ab B)
  | .ok (l', r') => ∃ (A' : Option Addr) (n' c' : Nat) (ov av nv lv : Value), e = .returned (.tuple #[.slice A' n' c', .int .i64 0, .int .i64 0]) ∧ n' ≤ c' ∧ RaIs B w' ab ov av nv lv r' ∧ Reads w' B 2 A' n' (rows tkc l') ∧ (∀ ad, A' = some ad → ad.block ≠ ab) ∧ Frm w w' (RaS ab B)
theorem last_idx (s : ByteArray) (h : 0 < s.size) : ∃ x : UInt8, s.data.toList.getLast? = some x ∧ ∀ W : World, (Instr.index 9 (.string s) (.int .i64 ((s.size : Int) - 1))).run Tryd.prog W = .ok (.int .u8 (x.toNat : Int)) W := by
  refine ⟨s[s.size - 1], ?_, fun W => ?_⟩
  · rw [List.getLast?_eq_getElem?, Array.length_toList, List.getElem?_eq_getElem (by rw [Array.length_toList]; show s.data.size - 1 < s.data.size; have : 0 < s.data.size := h; omega)]
    rfl
  · rw [run_index_string (P := Tryd.prog) W 9 s .i64 _ Tryd.underlying9, dif_pos ⟨by omega, by omega⟩]
    have : ((s.size : Int) - 1).toNat = s.size - 1 := by omega
    simp only [this]
theorem elem_rtok : Tryd.prog.elem 77 = 87 := by kernel_rfl
theorem size_rtok (w : World) : (sizeOf 87).run Tryd.prog w = .ok 2 w := by kernel_rfl
theorem info_rtok : (Tryd.prog.info? 87).map (fun i => (i.zero, i.size, i.bytes)) = some (some (.agg #[.string ⟨#[]⟩, .int .i64 0]), 2, 24) := by kernel_rfl
/-- The tokens behind the first. -/
theorem rtok_tail {w : World} {B n c : Nat} {A : Option Addr} {u : Tok} {rest : List Tok} (hT : Reads w B 2 A n (rows tkc (u :: rest))) (hc : n ≤ c) :
    ∃ A', (∀ W, (Instr.sliceAt 77 (.slice A n c) (some (.int .i64 1)) none none).run Tryd.prog W = .ok (.slice A' rest.length (c - 1)) W) ∧ Reads w B 2 A' rest.length (rows tkc rest) ∧ rest.length ≤ c - 1 ∧ ∀ ad', A' = some ad' → ∃ ad, A = some ad ∧ ad'.block = ad.block := by
  have hl := hT.1
  rw [rows_length tkc 2 tkc_len, List.length_cons] at hl
  have hn : n = rest.length + 1 := by omega
  refine ⟨if c = 1 then A else A.map (·.add (1 * 2)), fun W => ?_, ?_, by omega, fun ad' h => ?_⟩
  · rw [run_sliceAt_slice W _ _ _ _ _ (by rw [elem_rtok]; exact Tryd.underlying77), run_slice_l W 77 A n c (by rw [elem_rtok]; exact Tryd.underlying77) .i64 1 (by omega) (by omega), elem_rtok, size_rtok]
    show Result.ok (sliced A 1 n c 2) W = _
    unfold sliced
    rw [show n - 1 = rest.length by omega]
  · have := hT.cut (k := 1) (cap := c) (by omega) hc
    rw [show n - 1 = rest.length by omega] at this
    exact this
  · split at h
    · exact ⟨ad', h, rfl⟩
    · cases A with
      | none => cases h
      | some ad =>
        injection h with h
        subst h
        exact ⟨ad, rfl, block_of_add _ _⟩
end Go.Proofs.YthghnihlfdoefaaDoor
