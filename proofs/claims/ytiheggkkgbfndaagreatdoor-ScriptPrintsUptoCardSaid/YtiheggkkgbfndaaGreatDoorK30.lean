/- carouselref24: the first line. -/
import Derived.Test.YtiheggkkgbfndaaGreatDoorK28
import Derived.Test.YtiheggkkgbfndaaGreatDoorK29
import Derived.Test.YtiheggkkgbfndaaGreatDoorK18
namespace Go.Proofs.YtiheggkkgbfndaaGreatDoor
open Go.RowKit Go.Joins Go.ChangeShapes Go.WideShapes Go.Deep
set_option linter.unusedVariables false
set_option linter.unusedSimpArgs false
set_option maxRecDepth 100000
def numsL : List (List UInt8) → Option (List Nat)
 | [] => some []
 | s :: l => match natF s, numsL l with
  | some n, some r => some (n :: r)
  | _, _ => none
theorem numsL_snoc : ∀ (l : List (List UInt8)) (s : List UInt8), numsL (l ++ [s]) = match numsL l, natF s with | some r, some x => some (r ++ [x]) | _, _ => none
 | [], s => by
  rw [List.nil_append, numsL, numsL]
  cases natF s <;> rfl
 | a :: l, s => by
  rw [List.cons_append, numsL, numsL_snoc l s, numsL]
  cases natF a <;> cases numsL l <;> cases natF s <;> rfl
theorem numsL_app : ∀ {l r : List (List UInt8)}, numsL l = none → numsL (l ++ r) = none
 | [], r, h => by cases h
 | a :: l, r, h => by
  rw [numsL] at h
  rw [List.cons_append, numsL]
  cases ha : natF a with
  | none => rfl
  | some x =>
   cases hl : numsL l with
   | none => rw [numsL_app hl]
   | some y => rw [ha, hl] at h; cases h
theorem nums_next {l : List (List UInt8)} {i : Nat} {s : List UInt8} {A : List Nat} {n : Nat} (h : l[i]? = some s) (h1 : numsL (l.take i) = some A) (h2 : natF s = some n) : numsL (l.take (i + 1)) = some (A ++ [n]) := by
 rw [take_snoc l i s h, numsL_snoc, h1, h2]
theorem nums_bad {l : List (List UInt8)} {i : Nat} {s : List UInt8} {k : Nat} (hk : i < k) (h : l[i]? = some s) (h2 : natF s = none) : numsL (l.take k) = none := by
 have h3 : numsL (l.take (i + 1)) = none := by
  rw [take_snoc l i s h, numsL_snoc, h2]
  cases numsL (l.take i) <;> rfl
 have h4 := numsL_app (r := (l.take k).drop (i + 1)) h3
 have h5 : l.take (i + 1) = (l.take k).take (i + 1) := by rw [List.take_take, Nat.min_eq_left (by omega)]
 rw [h5, List.take_append_drop] at h4
 exact h4
def cfgO (m : Bool) : Option (List Nat) → Option Cfg
 | some [a, b, c, d, e] => some ⟨(a : Int), (b : Int), (c : Int), (d : Int), m, (e : Int)⟩
 | _ => none
theorem nums_five (a b c d e : List UInt8) (m : Bool) : (match numIn a 0 maxI, numIn b 0 maxI, numIn c 0 maxI, numIn d 0 maxI, numIn e 0 maxI with
       | some a, some b, some c, some d, some e => some (⟨a, b, c, d, m, e⟩ : Cfg)
       | _, _, _, _, _ => none) = cfgO m (numsL [a, b, c, d, e]) := by
  rw [numIn_natF, numIn_natF, numIn_natF, numIn_natF, numIn_natF]
  unfold numsL numsL numsL numsL numsL numsL
  cases natF a with
  | none => rfl
  | some xa => cases natF b with
    | none => rfl
    | some xb => cases natF c with
      | none => rfl
      | some xc => cases natF d with
        | none => rfl
        | some xd => cases natF e with
          | none => rfl
          | some xe => rfl
theorem configL_eq {l w a b c d e k : List UInt8} (hs : splitF 32 l = [w, a, b, c, d, e, k]) : configL l = if w = wConfig ∧ (k = wSingle ∨ k = wMulti) then cfgO (k == wMulti) (numsL [a, b, c, d, e]) else none := by
 unfold configL
 rw [hs]
 simp only
 split
 ·exact nums_five a b c d e _
 ·rfl
theorem configL_no {l : List UInt8} (h : (splitF 32 l).length ≠ 7) : configL l = none := by
 unfold configL
 split
 ·rename_i w a b c d e k hs
  rw [hs] at h
  exact absurd rfl h
 ·rfl
def noCfg : Cfg := ⟨0, 0, 0, 0, false, 0⟩
theorem split_words (s : ByteArray) : Go.Lib.splitB ⟨#[32]⟩ 0 (Go.Lib.countB s ⟨#[32]⟩) s = ((splitF 32 s.data.toList).map fun l => (⟨l.toArray⟩ : ByteArray)) ∧ Go.Lib.countB s ⟨#[32]⟩ + 1 = (splitF 32 s.data.toList).length := by
 have hc : Go.Lib.countB s ⟨#[32]⟩ = s.data.toList.count 32 := countFrom_eq 32 _ _ (Nat.lt_succ_self _)
 refine ⟨?_, by rw [splitF_length, hc]⟩
 rw [splitB_data, hc]
 exact congrArg _ (splitK_eq 32 _ _ (Nat.le_refl _))
theorem psplit_any {C : Nat} {w : World} (hE : EnvP C w) (s : ByteArray) (hs : s.size ≤ 65535) : Calls Tryz.prog 43 #[.string s, .string ⟨#[32]⟩] w fun e w' => ∃ g, e = .returned (.slice (some ⟨g, 0, none⟩) (splitF 32 s.data.toList).length (splitF 32 s.data.toList).length) ∧ WordsAt w' w'.heap.size g (splitF 32 s.data.toList) ∧ Below w.heap.size w w' := by
 obtain ⟨mx, hmx⟩ := hE.m
 have h := Tryz.strings_Split s ⟨#[32]⟩ mx w (by omega) hmx (by decide)
 obtain ⟨h1, h2⟩ := split_words s
 rw [h1, h2] at h
 refine h.mono ?_
 rintro e w' ⟨rfl, rfl⟩
 refine ⟨_, rfl, ⟨by simp, ⟨_, Blk.new _ _ _⟩, fun k t ht => ?_⟩, (Below.refl _ _).alloc (Nat.le_refl _) _⟩
 rw [(Blk.new w _ _).cell k]
 simp [ht]
theorem blk_cfgP {w1 : World} {p : Nat} {s : ByteArray} {a n : Nat} {c : Cfg} {rv pv tv lv : Value} {k e pl : Nat} (h : Blk w1 p 56 (RdV s a n noCfg rv pv tv lv k e pl)) : Blk (((((((w1.setCell ⟨p, 3, none⟩ (.int .i64 c.raw)).setCell ⟨p, 4, none⟩ (.int .i64 c.ring)).setCell ⟨p, 5, none⟩ (.int .i64 c.writes)).setCell ⟨p, 6, none⟩ (.int .i64 c.stamps)).setCell ⟨p, 7, none⟩ (.bool c.multi)).setCell ⟨p, 8, none⟩ (.int .i64 c.tries)).setCell ⟨p, 9, none⟩ (.slice none 0 0)) p 56 (RdV s a n c (.slice none 0 0) pv tv lv k e pl) := by
 have h0 : Blk _ p 56 (RdV s a n ⟨c.raw, 0, 0, 0, false, 0⟩ rv pv tv lv k e pl) := h.set_ 3 (.int .i64 c.raw)
 have h1 : Blk _ p 56 (RdV s a n ⟨c.raw, c.ring, 0, 0, false, 0⟩ rv pv tv lv k e pl) := h0.set_ 4 (.int .i64 c.ring)
 have h2 : Blk _ p 56 (RdV s a n ⟨c.raw, c.ring, c.writes, 0, false, 0⟩ rv pv tv lv k e pl) := h1.set_ 5 (.int .i64 c.writes)
 have h3 : Blk _ p 56 (RdV s a n ⟨c.raw, c.ring, c.writes, c.stamps, false, 0⟩ rv pv tv lv k e pl) := h2.set_ 6 (.int .i64 c.stamps)
 have h4 : Blk _ p 56 (RdV s a n ⟨c.raw, c.ring, c.writes, c.stamps, c.multi, 0⟩ rv pv tv lv k e pl) := h3.set_ 7 (.bool c.multi)
 have h5 : Blk _ p 56 (RdV s a n ⟨c.raw, c.ring, c.writes, c.stamps, c.multi, c.tries⟩ rv pv tv lv k e pl) := h4.set_ 8 (.int .i64 c.tries)
 exact h5.set_ 9 (.slice none 0 0)
theorem below_cfgP {B : Nat} {w w1 : World} {p : Nat} (h : Below B w w1) (hB : B ≤ p) (a b c d e f g : Value) : Below B w (((((((w1.setCell ⟨p, 3, none⟩ a).setCell ⟨p, 4, none⟩ b).setCell ⟨p, 5, none⟩ c).setCell ⟨p, 6, none⟩ d).setCell ⟨p, 7, none⟩ e).setCell ⟨p, 8, none⟩ f).setCell ⟨p, 9, none⟩ g) :=
 ((((((h.setCell hB _).setCell hB _).setCell hB _).setCell hB _).setCell hB _).setCell hB _).setCell hB _
def PCfgPost (B p : Nat) (s : ByteArray) (R : Option (Nat × Cfg)) (w : World) (e : Ending) (w' : World) : Prop := Below B w w' ∧ match R with
 | some (n, c) => e = .returned (.bool true) ∧ Blk w' p 56 (RdV s 0 n c (.slice none 0 0) (.slice none 0 0) (.slice none 0 0) (.slice none 0 0) 0 0 0)
 | none => e = .returned (.bool false) ∧ ∃ a n, Blk w' p 56 (RdV s a n noCfg (.slice none 0 0) (.slice none 0 0) (.slice none 0 0) (.slice none 0 0) 0 0 0)
set_option maxHeartbeats 4000000 in
theorem pconfig_none {C : Nat} (B p : Nat) (s : ByteArray) (hs : s.size ≤ 65535) (w : World) (hE : EnvP C w) (hCB : C ≤ B) (hb : Blk w p 56 (RdV s 0 0 noCfg (.slice none 0 0) (.slice none 0 0) (.slice none 0 0) (.slice none 0 0) 0 0 0)) (hBw : B ≤ w.heap.size) (hBp : B ≤ p) (hno : NoEnd s 0) :
  Calls Tryz.prog 16 #[.pointer (some ⟨p, 0, none⟩)] w (PCfgPost B p s none w) := by
 have HLN := Lib.hid (line_miss hs (Nat.zero_le _) hno p 0 noCfg (.slice none 0 0) (.slice none 0 0) (.slice none 0 0) (.slice none 0 0) 0 0 0 w hb)
 have HEN : Hid (∀ W, Below B w W → EnvP C W) := Lib.hid fun W hW => hE.below (hW.mono hCB)
 clear hno hb hE
 go_enter Tryz.func16, Tryz.ntmps16
 go_upto_region 2 with (go_at_call 42; refine HLN.out.mono ?_; rintro e w1 ⟨rfl, hF, hB1⟩; have HF := Lib.hid hF; have HB1 := Lib.hid hB1; clear hF hB1)
 have HBW : Hid (Below B w w1) := Lib.hid (below_of_frm HF.out hBw hBp)
 have HSP := Lib.hid (psplit_any (HEN.out w1 HBW.out) ⟨#[]⟩ (by decide))
 go_upto_region 3 with (go_at_call 43; refine HSP.out.mono ?_; rintro e w2 ⟨g, rfl, hw, hb2⟩; have HB2 := Lib.hid (hb2.mono (Nat.le_trans hBw HF.out.size)); have HQ2 := Lib.hid (HB1.out.below hb2 HB1.out.lt); clear hw hb2)
 go_wp2
 go_ret
 exact ⟨HBW.out.trans HB2.out, rfl, _, _, HQ2.out⟩
end Go.Proofs.YtiheggkkgbfndaaGreatDoor
