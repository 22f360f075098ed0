/- asm.tokens. -/
import Derived.Test.YthghnihlfdoefaaDoorBf
import Derived.Test.YthghnihlfdoefaaDoorAh
import Derived.Test.YthghnihlfdoefaaDoorSi
namespace Go.Proofs.YthghnihlfdoefaaDoor
open Go.RowKit Go.Joins Go.ChangeShapes Go.WideShapes Go.Deep
set_option linter.unusedVariables false
set_option linter.unusedSimpArgs false
set_option maxRecDepth 100000

def tkc (t : Tok) : List Value := [.string ⟨t.s.toArray⟩, .int .i64 t.pos]
theorem tkc_len (t : Tok) : (tkc t).length = 2 := rfl
theorem info_token : (Tryd.prog.info? 71).map (fun i => (i.zero, i.size, i.bytes)) = some (some (.agg #[.string ⟨#[]⟩, .int .i64 0]), 2, 24) := by kernel_rfl
def stt (a : Nat) (c : List UInt8) (i : Nat) : List Tok × List UInt8 × Nat := sc a ((c ++ [32]).take i)
theorem stt_step (a : Nat) (c : List UInt8) (i : Nat) (b : UInt8) (h : (c ++ [32])[i]? = some b) : stt a c (i + 1) = scStep a (stt a c i) b := by
  unfold stt
  rw [List.take_add_one, h]
  exact sc_snoc a _ b
theorem stt_len (a : Nat) (c : List UInt8) (i : Nat) (h : i ≤ c.length + 1) : (stt a c i).2.2 = i := by
  unfold stt
  rw [sc_len, List.length_take, List.length_append, List.length_singleton]
  omega
theorem stt_gap (a : Nat) (c : List UInt8) (i : Nat) (b : UInt8) (h : (c ++ [32])[i]? = some b) (hb : isGap b = true) : (stt a c (i + 1)).1 = flushT a (stt a c i) ∧ (stt a c (i + 1)).2.1 = [] := by
  rw [stt_step a c i b h, scStep, if_pos hb]
  exact ⟨rfl, rfl⟩
theorem stt_chr (a : Nat) (c : List UInt8) (i : Nat) (b : UInt8) (h : (c ++ [32])[i]? = some b) (hb : isGap b = false) : (stt a c (i + 1)).1 = (stt a c i).1 ∧ (stt a c (i + 1)).2.1 = (stt a c i).2.1 ++ [b] := by
  rw [stt_step a c i b h, scStep, if_neg (by rw [hb]; exact Bool.false_ne_true)]
  exact ⟨rfl, rfl⟩
theorem sc_count (a : Nat) (p : List UInt8) : (sc a p).1.length ≤ p.length := by
  induction p using snoc_ind' with
  | h0 => exact Nat.le_refl _
  | h1 l x ih =>
    rw [sc_snoc, scStep, List.length_append, List.length_singleton]
    split
    · show (if (sc a l).2.1 = [] then (sc a l).1 else _).length ≤ _
      split
      · omega
      · rw [List.length_append, List.length_singleton]; omega
    · show (sc a l).1.length ≤ _
      omega
theorem stt_count (a : Nat) (c : List UInt8) (i : Nat) : (stt a c i).1.length ≤ i := by
  have := sc_count a ((c ++ [32]).take i)
  rw [List.length_take] at this
  exact Nat.le_trans this (Nat.min_le_left _ _)
theorem stt_last (a : Nat) (c : List UInt8) : (stt a c (c.length + 1)).1 = flushT a (sc a c) := by
  rw [(stt_gap a c c.length 32 (by simp) rfl).1]
  unfold stt
  rw [List.take_left]
/-- The token under way, as a part of the line. -/
theorem stt_cur (a : Nat) (c : List UInt8) (i : Nat) (h : i ≤ c.length) : (stt a c i).2.1.length ≤ i ∧ (stt a c i).2.1 = (c.take i).drop (i - (stt a c i).2.1.length) := by
  have e : stt a c i = sc a (c.take i) := by unfold stt; rw [List.take_append_of_le_length h]
  rw [e]
  obtain ⟨q, hq⟩ := sc_suffix a (c.take i)
  have hl := congrArg List.length hq
  rw [List.length_take, List.length_append, Nat.min_eq_left h] at hl
  refine ⟨by omega, ?_⟩
  have : i - (sc a (c.take i)).2.1.length = q.length := by omega
  rw [this]
  conv => rhs; rw [hq]
  rw [List.drop_left]
theorem tok_str (c : ByteArray) (f i : Nat) (l : List UInt8) (h : l = (c.data.toList.take i).drop f) : c.extract f i = ⟨l.toArray⟩ := by
  apply bytes_inj
  rw [Go.Lib.extract_data, h, List.drop_take]
theorem line_at (c : ByteArray) (i : Nat) (h : i < c.size) : (c.data.toList ++ [32])[i]? = some (c[i]) := by
  rw [List.getElem?_append_left (by rw [Array.length_toList]; exact h), List.getElem?_eq_getElem (by rw [Array.length_toList]; exact h)]
  rfl
theorem line_end (c : ByteArray) : (c.data.toList ++ [32])[c.size]? = some 32 := by
  rw [List.getElem?_append_right (by rw [Array.length_toList]; exact Nat.le_refl _), Array.length_toList]
  show [32][c.size - c.size]? = _
  simp
theorem gap_at (b : UInt8) : isGap b = (((b.toNat : Int) == 32) || ((b.toNat : Int) == 9)) := by
  unfold isGap
  rw [Bool.eq_iff_iff]
  simp only [Bool.or_eq_true, beq_iff_eq, ← UInt8.toNat_inj]
  constructor
  · rintro (h | h)
    · left; rw [h]; rfl
    · right; rw [h]; rfl
  · rintro (h | h)
    · left; have : b.toNat = 32 := by omega
      exact this
    · right; have : b.toNat = 9 := by omega
      exact this
def frV (cur : List UInt8) (i : Nat) : Int := if cur = [] then -1 else ((i - cur.length : Nat) : Int)
set_option maxHeartbeats 4000000 in
theorem tokens_any (s : ByteArray) (a : Nat) (m : Int) (w : World) (hs : s.size < 4294967281) (ha : a < 4294967281) (hm : w.cell? ⟨4, 0, none⟩ = some (.int .i64 m)) :
    Calls Tryd.prog 31 #[.string s, .int .i64 a] w fun r w' => Below w.heap.size w w' ∧ ∃ v, r = .returned v ∧ w'.ownsRow w.heap.size 71 2 v (lineTok s.data.toList a).length (rows tkc (lineTok s.data.toList a)) := by
  obtain ⟨i0, hi, hz0, hz1, hz2⟩ := info_parts info_token
  have HCUT := Lib.hid (Tryd.strings_Cut s ⟨#[35]⟩ m w hs hm)
  have e1 : (⟨(Go.Lib.cut s.data.toList (⟨#[35]⟩ : ByteArray).data.toList).1.toArray⟩ : ByteArray) = ⟨(cutR s.data.toList).toArray⟩ := congrArg (fun l : List UInt8 => (⟨l.toArray⟩ : ByteArray)) (cut_one 35 s.data.toList)
  rw [e1] at HCUT
  obtain ⟨x2, hx2⟩ : ∃ x : ByteArray, x = ⟨(Go.Lib.cut s.data.toList (⟨#[35]⟩ : ByteArray).data.toList).2.1.toArray⟩ := ⟨_, rfl⟩
  obtain ⟨x3, hx3⟩ : ∃ x : Bool, x = (Go.Lib.cut s.data.toList (⟨#[35]⟩ : ByteArray).data.toList).2.2 := ⟨_, rfl⟩
  obtain ⟨c, hc⟩ : ∃ x : ByteArray, x = ⟨(cutR s.data.toList).toArray⟩ := ⟨_, rfl⟩
  rw [← hx2, ← hx3, ← hc] at HCUT
  have hcl : c.data.toList = cutR s.data.toList := by rw [hc]
  have hcs : c.size ≤ s.size := by
    have h1 : c.size = (cutR s.data.toList).length := by rw [← hcl, Array.length_toList]; rfl
    have h2 : (cutR s.data.toList).length ≤ s.data.toList.length := List.IsPrefix.length_le (List.takeWhile_prefix _)
    have h3 : s.data.toList.length = s.size := Array.length_toList
    rw [h1, ← h3]
    exact h2
  have HL : Hid (lineTok s.data.toList a = (stt a c.data.toList (c.size + 1)).1) := Lib.hid (by
    have h1 : c.size = c.data.toList.length := by rw [Array.length_toList]; rfl
    rw [h1, stt_last, hcl]
    rfl)
  clear e1 hx2 hx3 hc hcl
  obtain ⟨L0, hL0⟩ : ∃ L0, L0 = lineTok s.data.toList a := ⟨_, rfl⟩
  rw [← hL0] at HL ⊢
  clear hL0
  have hcs2 : c.size < 4294967281 := by omega
  clear hcs hs
  obtain ⟨n, hn⟩ : ∃ n, n = c.size := ⟨_, rfl⟩
  have hn1 : n ≤ c.size := by omega
  have hn2 : c.size ≤ n := by omega
  clear hn
  go_enter Tryd.func31, Tryd.ntmps31
  go_wp2_with (go_at_call 50; refine (HCUT.out).mono ?_; rintro r w1 ⟨hr, nd, hw⟩; subst hr; subst hw)
  go_loopg [5, 6, 7] (n + 1) (fun gk v fv iv wr => ∃ i : Nat, iv = .int .i64 i ∧ i ≤ n + 1 ∧ gk = n + 1 - i ∧ fv = .int .i64 (frV (stt a c.data.toList i).2.1 i) ∧ wr.ownsRow w.heap.size 71 2 v (stt a c.data.toList i).1.length (rows tkc (stt a c.data.toList i).1) ∧ Below w.heap.size w wr)
  case atStart => exact ⟨0, rfl, Nat.zero_le _, rfl, rfl, World.ownsRow_nil _ _ _ _, by repeat (first | with_reducible exact Below.refl _ _ | with_reducible refine Below.drew ?_ | with_reducible refine below_drewN ?_ _ | ((with_reducible refine Below.alloc ?_ ?_ _); (rotate_left; focus (first | with_reducible exact Nat.le_refl _ | omega | (simp; done) | (simp; omega) | (simp [World.setCell]; done) | (simp [World.setCell]; omega)))) | ((with_reducible refine Below.setCell ?_ ?_ _); (rotate_left; focus (first | with_reducible exact Nat.le_refl _ | omega | (simp; done) | (simp; omega) | (simp [World.setCell]; done) | (simp [World.setCell]; omega)))))⟩
  case round =>
    obtain ⟨i, rfl, hi1, hgk, hfv, hown, hbel⟩ := hrel
    have HG := Lib.hid hgk
    have HCZ : Hid (c.size = c.data.toList.length) := Lib.hid Array.length_toList.symm
    clear hgk
    by_cases hin : i ≤ n
    · have e1 : decide ((i : Int) ≤ (c.size : Int)) = true := decide_eq_true (by omega)
      have e2 : decide (i ≤ c.size) = true := decide_eq_true (by omega)
      have hcnt := stt_count a c.data.toList i
      obtain ⟨hcl, hcur⟩ := stt_cur a c.data.toList i (by have := HCZ.out; omega)
      by_cases hie : i < n
      · have hil : i < c.size := by omega
        have z1 : ((i : Int) == (c.size : Int)) = false := by simp; omega
        have z2 : (i == c.size) = false := by simp; omega
        have hb := line_at c i hil
        have hga := gap_at (c[i])
        clear hie
        cases hgap : isGap (c[i]) with
        | true =>
          rw [hgap] at hga
          cases q1 : (((c[i]).toNat : Int) == 32) with
          | true =>
            clear hga
            have HGP := Lib.hid hgap
            obtain ⟨hn1x, hn2x⟩ := stt_gap a c.data.toList i _ hb hgap
            unfold flushT at hn1x
            have HN2 := Lib.hid hn2x
            clear hgap hb hn2x
            by_cases hcn : (stt a c.data.toList i).2.1 = []
            · rw [if_pos hcn] at hn1x
              have HN1 := Lib.hid hn1x
              have hfr : frV (stt a c.data.toList i).2.1 i = -1 := by rw [hcn]; rfl
              rw [hfr] at hfv
              subst hfv
              clear hn1x hcn hcl hcur hfr
              go_wp2
              go_roundg (n + 1 - (i + 1))
              case measure => have := HG.out; omega
              case rel => exact ⟨i + 1, by simp, by omega, rfl, by rw [HN2.out]; rfl, by rw [HN1.out]; exact hown, hbel⟩
            · rw [if_neg hcn, stt_len a c.data.toList i (by have := HCZ.out; omega)] at hn1x
              have HN1 := Lib.hid hn1x
              have hfr : frV (stt a c.data.toList i).2.1 i = ((i - (stt a c.data.toList i).2.1.length : Nat) : Int) := by unfold frV; rw [if_neg hcn]
              rw [hfr] at hfv
              obtain ⟨cur, hcu⟩ : ∃ cur, cur = (stt a c.data.toList i).2.1 := ⟨_, rfl⟩
              rw [← hcu] at HN1 hcur hfv hcl
              obtain ⟨f, hf⟩ : ∃ f, f = i - cur.length := ⟨_, rfl⟩
              rw [← hf] at HN1 hcur hfv
              subst hfv
              have hst : c.extract f i = ⟨cur.toArray⟩ := tok_str c f i cur hcur
              have hfi : f ≤ i := by omega
              have hsl : ∀ W, (Instr.slice 9 (.string c) (some (.int .i64 (f : Int))) (some (.int .i64 (i : Int))) none).run Tryd.prog W = .ok (.string ⟨cur.toArray⟩) W := fun W => by
                have h := run_slice_string (P := Tryd.prog) W 9 c .i64 .i64 (f : Int) (i : Int) Tryd.underlying9 (by omega) (by omega) (by omega)
                rw [Int.toNat_natCast, Int.toNat_natCast, hst] at h
                exact h
              have haf : a + f ≤ 9223372036854775807 := by omega
              have hc2 : ∀ u ∈ ([.string ⟨cur.toArray⟩, .int .i64 ((a : Int) + (f : Int))] : List Value), u.oneCell' = true := by intro u hu; simp at hu; rcases hu with rfl | rfl <;> rfl
              obtain ⟨D, hD⟩ : ∃ D, D = (stt a c.data.toList i).1 := ⟨_, rfl⟩
              rw [← hD] at HN1 hown hcnt
              have hc3 : D.length + 1 ≤ maxLen := by unfold maxLen; omega
              have hc4 : (D.length + 1) * 24 ≤ 140737488355328 := by omega
              have hbs := hbel.size
              have hc5 : w.heap.size ≤ (wr.alloc (.cells #[.string ⟨cur.toArray⟩, .int .i64 ((a : Int) + (f : Int))] 71)).heap.size := by simp; omega
              have HB := Lib.hid hbel
              have HCU := Lib.hid hcu
              clear hn1x hcn hcl hcur hfr hst hf hD hbel hcu
              go_wp2_with (at_builtin; go_must (refine wpList_append_own _ rfl _ _ 68 rfl w.heap.size 71 i0 _ 2 24 Tryd.underlying68 hi hz0 hz1 hz2 rfl (by decide) _ _ _ rfl (hown.alloc _) ⟨wr.heap.size, 0, none⟩ 1 1 [.string ⟨cur.toArray⟩, .int .i64 ((a : Int) + (f : Int))] rfl rfl (World.news_of_block (cs := #[.string ⟨cur.toArray⟩, .int .i64 ((a : Int) + (f : Int))]) (t := 71) (fr := (0, 0)) (by simpa using heap_alloc_new wr (.cells #[.string ⟨cur.toArray⟩, .int .i64 ((a : Int) + (f : Int))] 71))) hc2 hc3 hc4 hc5 ?_; intro v' w2 hown2 hgrow _))
              have hbf : Below w.heap.size w w2 := (HB.out.alloc hbs _).trans (below_grown (hown.alloc _) hgrow hc5)
              clear hgrow
              go_roundg (n + 1 - (i + 1))
              case measure => have := HG.out; omega
              case rel => exact ⟨i + 1, by simp, by omega, rfl, by rw [HN2.out]; rfl, by rw [HN1.out, List.length_append, rows_snoc]; exact hown2, hbf⟩
          | false =>
            rw [q1, Bool.false_or] at hga
            have q2 := hga.symm
            clear hga
            have HGP := Lib.hid hgap
            obtain ⟨hn1x, hn2x⟩ := stt_gap a c.data.toList i _ hb hgap
            unfold flushT at hn1x
            have HN2 := Lib.hid hn2x
            clear hgap hb hn2x
            by_cases hcn : (stt a c.data.toList i).2.1 = []
            · rw [if_pos hcn] at hn1x
              have HN1 := Lib.hid hn1x
              have hfr : frV (stt a c.data.toList i).2.1 i = -1 := by rw [hcn]; rfl
              rw [hfr] at hfv
              subst hfv
              clear hn1x hcn hcl hcur hfr
              go_wp2
              go_roundg (n + 1 - (i + 1))
              case measure => have := HG.out; omega
              case rel => exact ⟨i + 1, by simp, by omega, rfl, by rw [HN2.out]; rfl, by rw [HN1.out]; exact hown, hbel⟩
            · rw [if_neg hcn, stt_len a c.data.toList i (by have := HCZ.out; omega)] at hn1x
              have HN1 := Lib.hid hn1x
              have hfr : frV (stt a c.data.toList i).2.1 i = ((i - (stt a c.data.toList i).2.1.length : Nat) : Int) := by unfold frV; rw [if_neg hcn]
              rw [hfr] at hfv
              obtain ⟨cur, hcu⟩ : ∃ cur, cur = (stt a c.data.toList i).2.1 := ⟨_, rfl⟩
              rw [← hcu] at HN1 hcur hfv hcl
              obtain ⟨f, hf⟩ : ∃ f, f = i - cur.length := ⟨_, rfl⟩
              rw [← hf] at HN1 hcur hfv
              subst hfv
              have hst : c.extract f i = ⟨cur.toArray⟩ := tok_str c f i cur hcur
              have hfi : f ≤ i := by omega
              have hsl : ∀ W, (Instr.slice 9 (.string c) (some (.int .i64 (f : Int))) (some (.int .i64 (i : Int))) none).run Tryd.prog W = .ok (.string ⟨cur.toArray⟩) W := fun W => by
                have h := run_slice_string (P := Tryd.prog) W 9 c .i64 .i64 (f : Int) (i : Int) Tryd.underlying9 (by omega) (by omega) (by omega)
                rw [Int.toNat_natCast, Int.toNat_natCast, hst] at h
                exact h
              have haf : a + f ≤ 9223372036854775807 := by omega
              have hc2 : ∀ u ∈ ([.string ⟨cur.toArray⟩, .int .i64 ((a : Int) + (f : Int))] : List Value), u.oneCell' = true := by intro u hu; simp at hu; rcases hu with rfl | rfl <;> rfl
              obtain ⟨D, hD⟩ : ∃ D, D = (stt a c.data.toList i).1 := ⟨_, rfl⟩
              rw [← hD] at HN1 hown hcnt
              have hc3 : D.length + 1 ≤ maxLen := by unfold maxLen; omega
              have hc4 : (D.length + 1) * 24 ≤ 140737488355328 := by omega
              have hbs := hbel.size
              have hc5 : w.heap.size ≤ (wr.alloc (.cells #[.string ⟨cur.toArray⟩, .int .i64 ((a : Int) + (f : Int))] 71)).heap.size := by simp; omega
              have HB := Lib.hid hbel
              have HCU := Lib.hid hcu
              clear hn1x hcn hcl hcur hfr hst hf hD hbel hcu
              go_wp2_with (at_builtin; go_must (refine wpList_append_own _ rfl _ _ 68 rfl w.heap.size 71 i0 _ 2 24 Tryd.underlying68 hi hz0 hz1 hz2 rfl (by decide) _ _ _ rfl (hown.alloc _) ⟨wr.heap.size, 0, none⟩ 1 1 [.string ⟨cur.toArray⟩, .int .i64 ((a : Int) + (f : Int))] rfl rfl (World.news_of_block (cs := #[.string ⟨cur.toArray⟩, .int .i64 ((a : Int) + (f : Int))]) (t := 71) (fr := (0, 0)) (by simpa using heap_alloc_new wr (.cells #[.string ⟨cur.toArray⟩, .int .i64 ((a : Int) + (f : Int))] 71))) hc2 hc3 hc4 hc5 ?_; intro v' w2 hown2 hgrow _))
              have hbf : Below w.heap.size w w2 := (HB.out.alloc hbs _).trans (below_grown (hown.alloc _) hgrow hc5)
              clear hgrow
              go_roundg (n + 1 - (i + 1))
              case measure => have := HG.out; omega
              case rel => exact ⟨i + 1, by simp, by omega, rfl, by rw [HN2.out]; rfl, by rw [HN1.out, List.length_append, rows_snoc]; exact hown2, hbf⟩
        | false =>
          rw [hgap] at hga
          have hga2 := Bool.or_eq_false_iff.1 hga.symm
          have q1 := hga2.1
          have q2 := hga2.2
          obtain ⟨hn1x, hn2x⟩ := stt_chr a c.data.toList i _ hb hgap
          have HN1 := Lib.hid hn1x
          have HN2 := Lib.hid hn2x
          clear hn1x hn2x hga hga2 hb hgap
          by_cases hcn : (stt a c.data.toList i).2.1 = []
          · have hfr : frV (stt a c.data.toList i).2.1 i = -1 := by rw [hcn]; rfl
            rw [hfr] at hfv
            subst hfv
            have HCN := Lib.hid hcn
            clear hcn hcl hcur hfr
            go_wp2
            go_roundg (n + 1 - (i + 1))
            case measure => have := HG.out; omega
            case rel => exact ⟨i + 1, by simp, by omega, rfl, by rw [HN2.out, HCN.out]; unfold frV; simp, by rw [HN1.out]; exact hown, hbel⟩
          · have hfr : frV (stt a c.data.toList i).2.1 i = ((i - (stt a c.data.toList i).2.1.length : Nat) : Int) := by unfold frV; rw [if_neg hcn]
            rw [hfr] at hfv
            obtain ⟨cur, hcu⟩ : ∃ cur, cur = (stt a c.data.toList i).2.1 := ⟨_, rfl⟩
            rw [← hcu] at hcur hfv hcl hcn HN2
            obtain ⟨f, hf⟩ : ∃ f, f = i - cur.length := ⟨_, rfl⟩
            rw [← hf] at hfv
            subst hfv
            have HCN := Lib.hid hcn
            have HCL := Lib.hid hcl
            have HF := Lib.hid hf
            have hfi : f ≤ i := by omega
            have y1 : decide ((f : Int) < 0) = false := decide_eq_false (by omega)
            clear hcn hcl hcur hfr hf hcu
            go_wp2
            go_roundg (n + 1 - (i + 1))
            case measure => have := HG.out; omega
            case rel => exact ⟨i + 1, by simp, by omega, rfl, by
              have h1 := HCL.out
              have h2 := HF.out
              rw [HN2.out]; unfold frV; rw [if_neg (by simp), List.length_append, List.length_singleton]
              congr 2; omega, by rw [HN1.out]; exact hown, hbel⟩
      · have z1 : ((i : Int) == (c.size : Int)) = true := by simp; omega
        have z2 : (i == c.size) = true := by simp; omega
        have hb : (c.data.toList ++ [32])[i]? = some 32 := by
          have : i = c.size := by omega
          rw [this]
          exact line_end c
        clear hie
        have hgap : isGap (32 : UInt8) = true := rfl
        have HGP := Lib.hid hgap
        obtain ⟨hn1x, hn2x⟩ := stt_gap a c.data.toList i _ hb hgap
        unfold flushT at hn1x
        have HN2 := Lib.hid hn2x
        clear hgap hb hn2x
        by_cases hcn : (stt a c.data.toList i).2.1 = []
        · rw [if_pos hcn] at hn1x
          have HN1 := Lib.hid hn1x
          have hfr : frV (stt a c.data.toList i).2.1 i = -1 := by rw [hcn]; rfl
          rw [hfr] at hfv
          subst hfv
          clear hn1x hcn hcl hcur hfr
          go_wp2
          go_roundg (n + 1 - (i + 1))
          case measure => have := HG.out; omega
          case rel => exact ⟨i + 1, by simp, by omega, rfl, by rw [HN2.out]; rfl, by rw [HN1.out]; exact hown, hbel⟩
        · rw [if_neg hcn, stt_len a c.data.toList i (by have := HCZ.out; omega)] at hn1x
          have HN1 := Lib.hid hn1x
          have hfr : frV (stt a c.data.toList i).2.1 i = ((i - (stt a c.data.toList i).2.1.length : Nat) : Int) := by unfold frV; rw [if_neg hcn]
          rw [hfr] at hfv
          obtain ⟨cur, hcu⟩ : ∃ cur, cur = (stt a c.data.toList i).2.1 := ⟨_, rfl⟩
          rw [← hcu] at HN1 hcur hfv hcl
          obtain ⟨f, hf⟩ : ∃ f, f = i - cur.length := ⟨_, rfl⟩
          rw [← hf] at HN1 hcur hfv
          subst hfv
          have hst : c.extract f i = ⟨cur.toArray⟩ := tok_str c f i cur hcur
          have hfi : f ≤ i := by omega
          have hsl : ∀ W, (Instr.slice 9 (.string c) (some (.int .i64 (f : Int))) (some (.int .i64 (i : Int))) none).run Tryd.prog W = .ok (.string ⟨cur.toArray⟩) W := fun W => by
            have h := run_slice_string (P := Tryd.prog) W 9 c .i64 .i64 (f : Int) (i : Int) Tryd.underlying9 (by omega) (by omega) (by omega)
            rw [Int.toNat_natCast, Int.toNat_natCast, hst] at h
            exact h
          have haf : a + f ≤ 9223372036854775807 := by omega
          have hc2 : ∀ u ∈ ([.string ⟨cur.toArray⟩, .int .i64 ((a : Int) + (f : Int))] : List Value), u.oneCell' = true := by intro u hu; simp at hu; rcases hu with rfl | rfl <;> rfl
          obtain ⟨D, hD⟩ : ∃ D, D = (stt a c.data.toList i).1 := ⟨_, rfl⟩
          rw [← hD] at HN1 hown hcnt
          have hc3 : D.length + 1 ≤ maxLen := by unfold maxLen; omega
          have hc4 : (D.length + 1) * 24 ≤ 140737488355328 := by omega
          have hbs := hbel.size
          have hc5 : w.heap.size ≤ (wr.alloc (.cells #[.string ⟨cur.toArray⟩, .int .i64 ((a : Int) + (f : Int))] 71)).heap.size := by simp; omega
          have HB := Lib.hid hbel
          have HCU := Lib.hid hcu
          clear hn1x hcn hcl hcur hfr hst hf hD hbel hcu
          go_wp2_with (at_builtin; go_must (refine wpList_append_own _ rfl _ _ 68 rfl w.heap.size 71 i0 _ 2 24 Tryd.underlying68 hi hz0 hz1 hz2 rfl (by decide) _ _ _ rfl (hown.alloc _) ⟨wr.heap.size, 0, none⟩ 1 1 [.string ⟨cur.toArray⟩, .int .i64 ((a : Int) + (f : Int))] rfl rfl (World.news_of_block (cs := #[.string ⟨cur.toArray⟩, .int .i64 ((a : Int) + (f : Int))]) (t := 71) (fr := (0, 0)) (by simpa using heap_alloc_new wr (.cells #[.string ⟨cur.toArray⟩, .int .i64 ((a : Int) + (f : Int))] 71))) hc2 hc3 hc4 hc5 ?_; intro v' w2 hown2 hgrow _))
          have hbf : Below w.heap.size w w2 := (HB.out.alloc hbs _).trans (below_grown (hown.alloc _) hgrow hc5)
          clear hgrow
          go_roundg (n + 1 - (i + 1))
          case measure => have := HG.out; omega
          case rel => exact ⟨i + 1, by simp, by omega, rfl, by rw [HN2.out]; rfl, by rw [HN1.out, List.length_append, rows_snoc]; exact hown2, hbf⟩
    · have e1 : decide ((i : Int) ≤ (c.size : Int)) = false := decide_eq_false (by omega)
      have e2 : decide (i ≤ c.size) = false := decide_eq_false (by omega)
      have HI : Hid (i = c.size + 1) := Lib.hid (by omega)
      go_wp2
      refine bodyPost_ret (v := u5) (by simp [results, Tryd.results31, go_sem]) rfl ?_
      exact ⟨hbel, u5, rfl, by rw [HL.out, ← HI.out]; exact hown⟩
end Go.Proofs.YthghnihlfdoefaaDoor
