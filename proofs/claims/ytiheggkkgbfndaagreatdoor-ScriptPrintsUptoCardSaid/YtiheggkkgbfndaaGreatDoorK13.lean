/- carouselref24.Integer. -/
import Derived.Test.YtiheggkkgbfndaaGreatDoorK10
import Derived.Test.YtiheggkkgbfndaaGreatDoorK08
import Derived.Test.YtiheggkkgbfndaaGreatDoorK12
import Derived.Test.YtiheggkkgbfndaaGreatDoorK01
import Derived.Deep.QuietTactic
import Derived.BigQuiet
import Derived.Test.YtiheggkkgbfndaaGreatDoorK09
import Derived.Test.YtiheggkkgbfndaaGreatDoorK02
namespace Go.Proofs.YtiheggkkgbfndaaGreatDoor
open Go.RowKit Go.Joins Go.ChangeShapes Go.WideShapes Go.Deep
set_option linter.unusedVariables false
set_option linter.unusedSimpArgs false
set_option maxRecDepth 100000
theorem str_yes {s : ByteArray} {l : List UInt8} (h : s.data.toList = l) : (s.toList == l) = true := by rw [beq_iff_eq, ByteArray.toList_eq]; exact h
theorem str_no {s : ByteArray} {l : List UInt8} (h : s.data.toList ≠ l) : (s.toList == l) = false := by rw [beq_eq_false_iff_ne, ByteArray.toList_eq]; exact h
theorem find_none {n : Nat} {l : List (List UInt8)} {s : List UInt8} (h : ∀ i, i < n → l.getD i [] ≠ s) : ((List.range n).find? fun i => l.getD i [] == s) = none := by
 rw [List.find?_eq_none]
 intro i hi
 simpa using h i (List.mem_range.1 hi)
theorem kindF_none {s : List UInt8} (h : ∀ i, i < 4 → kindsL.getD i [] ≠ s) : kindF s = none := by unfold kindF; rw [find_none h]; rfl
theorem lookF_none {s : List UInt8} (h : ∀ i, i < 6 → looksL.getD i [] ≠ s) : lookF s = none := by unfold lookF; rw [find_none h]; rfl
set_option maxHeartbeats 2000000 in
theorem part_any (s : ByteArray) (w : World) : Calls Tryz.prog 45 #[.string s] w fun e w' => e = .returned (.int .i64 (partL s.data.toList : Nat)) ∧ w = w' := by
 by_cases h1 : s.data.toList = [114, 101, 103, 105, 111, 110]
 ·have q1 : (s.toList == [114, 101, 103, 105, 111, 110]) = true := str_yes h1
  have HR : Hid (partL s.data.toList = 1) := Lib.hid (by rw [h1]; decide)
  clear h1
  go_enter Tryz.func45, Tryz.ntmps45
  go_wp2
  go_ret
  exact ⟨by rw [HR.out]; rfl, rfl⟩
 ·have q1 : (s.toList == [114, 101, 103, 105, 111, 110]) = false := str_no h1
  by_cases h2 : s.data.toList = [112, 114, 111, 103, 114, 97, 109]
  ·have q2 : (s.toList == [112, 114, 111, 103, 114, 97, 109]) = true := str_yes h2
   have HR : Hid (partL s.data.toList = 2) := Lib.hid (by rw [h2]; decide)
   clear h1 h2
   go_enter Tryz.func45, Tryz.ntmps45
   go_wp2
   go_ret
   exact ⟨by rw [HR.out]; rfl, rfl⟩
  ·have q2 : (s.toList == [112, 114, 111, 103, 114, 97, 109]) = false := str_no h2
   by_cases h3 : s.data.toList = [116, 104, 114, 101, 97, 100]
   ·have q3 : (s.toList == [116, 104, 114, 101, 97, 100]) = true := str_yes h3
    have HR : Hid (partL s.data.toList = 3) := Lib.hid (by rw [h3]; decide)
    clear h1 h2 h3
    go_enter Tryz.func45, Tryz.ntmps45
    go_wp2
    go_ret
    exact ⟨by rw [HR.out]; rfl, rfl⟩
   ·have q3 : (s.toList == [116, 104, 114, 101, 97, 100]) = false := str_no h3
    by_cases h4 : s.data.toList = [106, 111, 98]
    ·have q4 : (s.toList == [106, 111, 98]) = true := str_yes h4
     have HR : Hid (partL s.data.toList = 3) := Lib.hid (by rw [h4]; decide)
     clear h1 h2 h3 h4
     go_enter Tryz.func45, Tryz.ntmps45
     go_wp2
     go_ret
     exact ⟨by rw [HR.out]; rfl, rfl⟩
    ·have q4 : (s.toList == [106, 111, 98]) = false := str_no h4
     have HR : Hid (partL s.data.toList = 4) := Lib.hid (by unfold partL; exact (if_neg h1).trans ((if_neg h2).trans (if_neg fun h => h.elim h3 h4)))
     clear h1 h2 h3 h4
     go_enter Tryz.func45, Tryz.ntmps45
     go_wp2
     go_ret
     exact ⟨by rw [HR.out]; rfl, rfl⟩
structure WordsAt (w : World) (C b : Nat) (ws : List (List UInt8)) : Prop where
 lt : b < C
 blk : ∃ cs, Blk w b 9 cs
 cell : ∀ (k : Nat) s, ws[k]? = some s → w.cell? ⟨b, k, none⟩ = some (.string ⟨s.toArray⟩)
theorem WordsAt.below {w w' : World} {C b : Nat} {ws : List (List UInt8)} (h : WordsAt w C b ws) (hb : Below C w w') : WordsAt w' C b ws :=
 ⟨h.lt, h.blk.imp fun cs hc => hc.below hb h.lt, fun k s hs => (hb.cell (p := ⟨b, k, none⟩) h.lt).trans (h.cell k s hs)⟩
structure Brief (ws : List (List UInt8)) : Prop where
 len : ws.length ≤ 65536
 each : ∀ s ∈ ws, s.length ≤ 65535
def regionR (x : SSt) (ws : List (List UInt8)) : Except Nat SSt := match regionL ws with
 | some r => .ok { x with set := { x.set with regs := x.set.regs ++ [r] } }
 | none => .error 9
theorem below_of_frm {w w' : World} {B q : Nat} (h : Frm w w' fun z => z = q) (hB : B ≤ w.heap.size) (hq : B ≤ q) : Below B w w' := h.below hB fun z hz => by omega
def PGood (B : Nat) (w : World) (p : Nat) (s : ByteArray) (a n : Nat) (x : SSt) : Prop := ∃ rv pv tv lv T L, Blk w p 56 (RdV s a n x.set.cfg rv pv tv lv x.steps 0 0) ∧ SetAt B w x rv pv tv lv T L
def PBad (w : World) (p : Nat) (e pl : Nat) : Prop := ∃ s a n c rv pv tv lv k, Blk w p 56 (RdV s a n c rv pv tv lv k e pl)
theorem PGood.below {B : Nat} {w w' : World} {p : Nat} {s : ByteArray} {a n : Nat} {x : SSt} (h : PGood B w p s a n x) (hb : Below w.heap.size w w') : PGood B w' p s a n x := by
 obtain ⟨rv, pv, tv, lv, T, L, h1, h2⟩ := h
 exact ⟨rv, pv, tv, lv, T, L, h1.below hb h1.lt, h2.below hb⟩
theorem kindF_at {i : Nat} (hi : i < 4) : kindF (kindsL.getD i []) = some (i + 1) := by
 revert hi
 revert i
 decide
theorem kindF_no {m : List UInt8} (h : ∀ j, j < 4 → kindsL.getD j [] ≠ m) : kindF m = none := kindF_none h
def kindB (i : Nat) : List UInt8 := if i = 0 then [] else kindsL.getD (i - 1) []
theorem kindV_at {i : Nat} (hi : i < 5) : kindV[i]? = some (.string ⟨(kindB i).toArray⟩) := by
 match i, hi with
 | 0, _ => rfl
 | 1, _ => rfl
 | 2, _ => rfl
 | 3, _ => rfl
 | 4, _ => rfl
def PRegPost (B p : Nat) (s : ByteArray) (a n : Nat) (x : SSt) (ws : List (List UInt8)) (w : World) (e : Ending) (w' : World) : Prop := Below B w w' ∧ match regionL ws with
 | some r => e = .returned (.bool true) ∧ PGood B w' p s a n { x with set := { x.set with regs := x.set.regs ++ [r] } }
 | none => e = .returned (.bool false) ∧ PGood B w' p s a n x
def regN : Option Int → Option Nat → Option Reg
 | some n, some k => some ⟨(k : Int), n⟩
 | _, _ => none
theorem regionL_three (u k m : List UInt8) : regionL [u, k, m] = regN (numIn m 0 9223372036854775807) (kindF k) := by
 show (match numIn m 0 maxI, kindF k with | some n, some k => some (⟨(k : Int), n⟩ : Reg) | _, _ => none) = _
 show _ = regN (numIn m 0 maxI) (kindF k)
 cases numIn m 0 maxI <;> cases kindF k <;> rfl
theorem regionL_no {ws : List (List UInt8)} (h : ws.length ≠ 3) : regionL ws = none := by
 match ws, h with
 | [], _ => rfl
 | [_], _ => rfl
 | [_, _], _ => rfl
 | [_, _, _], h => exact absurd rfl h
 | _ :: _ :: _ :: _ :: _, _ => rfl
set_option maxHeartbeats 4000000 in
theorem pregion_any {C : Nat} (B p b c : Nat) (s : ByteArray) (a n : Nat) (ws : List (List UInt8)) (x : SSt) (w : World) (hE : EnvP C w) (hCB : C ≤ B) (hG : PGood B w p s a n x) (hBw : B ≤ w.heap.size) (hBp : B ≤ p) (hW : WordsAt w w.heap.size b ws) (hws : Brief ws) (hrl : x.set.regs.length ≤ 65535) :
  Calls Tryz.prog 78 #[.pointer (some ⟨p, 0, none⟩), .slice (some ⟨b, 0, none⟩) ws.length c] w (PRegPost B p s a n x ws w) := by
 by_cases h3 : ws.length = 3
 ·obtain ⟨u, k, m, rfl⟩ : ∃ u k m, ws = [u, k, m] := by
   match ws, h3 with
   | [u, k, m], _ => exact ⟨u, k, m, rfl⟩
  have c2 : w.cell? ⟨b, 2, none⟩ = some (.string ⟨m.toArray⟩) := hW.cell 2 m rfl
  have hbl := hW.lt
  obtain ⟨sk, hsk⟩ : ∃ sk : ByteArray, sk = ⟨k.toArray⟩ := ⟨_, rfl⟩
  obtain ⟨sm, hsm⟩ : ∃ sm : ByteArray, sm = ⟨m.toArray⟩ := ⟨_, rfl⟩
  have hkl : sk.data.toList = k := by rw [hsk]
  have hml : sm.data.toList = m := by rw [hsm]
  rw [← hsm] at c2
  have HC1 : Hid (∀ W, Below w.heap.size w W → W.cell? ⟨b, 1, none⟩ = some (.string sk)) := Lib.hid fun W hW' => by rw [hsk]; exact (hW.below hW').cell 1 k rfl
  have hmz : sm.size ≤ 4294967296 := by
   have h1 : sm.size = sm.data.toList.length := Array.length_toList.symm
   have := hws.each m (by simp)
   rw [h1, hml]; omega
  have HN := Lib.hid (number_fit hE sm hmz 0 9223372036854775807)
  unfold NumberPost at HN
  rw [hml] at HN
  have HRL := Lib.hid (regionL_three u k m)
  obtain ⟨om, hom⟩ : ∃ om, om = numIn m 0 9223372036854775807 := ⟨_, rfl⟩
  rw [← hom] at HN HRL
  have HG := Lib.hid hG
  have HKL := Lib.hid hkl
  clear hom hkl hml hsk hsm hmz h3 hW hws hG hE
  go_enter Tryz.func78, Tryz.ntmps78
  go_upto_region 4 with (go_at_call 44; refine HN.out.mono ?_; rintro e w1 ⟨hb1, nn, bb, rfl, hbb, hnn⟩; have HNB := Lib.hid (And.intro hbb hnn); have HB1 := Lib.hid hb1; clear hbb hnn hb1)
  go_upto_region 5 with (go_at_call 62; refine (kinds_any _).mono ?_; rintro e w2 ⟨rfl, hw2⟩)
  obtain ⟨kb, hkb⟩ : ∃ kb, kb = w1.heap.size := ⟨_, rfl⟩
  rw [← hw2, ← hkb]
  have HK2 : Hid (Blk w2 kb 9 kindV) := Lib.hid (by rw [hw2, hkb]; exact Blk.new _ _ _)
  have HB2 : Hid (Below w.heap.size w w2) := Lib.hid (HB1.out.trans (hw2 ▸ (Below.refl _ _).alloc HB1.out.size _))
  have hG2 := HG.out.below HB2.out
  have hB2 : B ≤ w2.heap.size := Nat.le_trans hBw HB2.out.size
  have hbl2 : b < w2.heap.size := Nat.lt_of_lt_of_le hbl HB2.out.size
  have c1 := HC1.out w2 HB2.out
  have hkbl := HK2.out.lt
  have HG2 := Lib.hid hG2
  clear hw2 hkb hG2 c2
  go_loopg [7, 8, 21] 5 (fun gk _ _ iv W => ∃ i : Nat, iv = .int .i64 i ∧ i ≤ 5 ∧ gk + i = 5 ∧ Hid (bb = true → ∀ j, j + 1 < i → kindsL.getD j [] ≠ k) ∧ W = w2)
  case atStart => exact ⟨0, rfl, by omega, rfl, Lib.hid fun _ j hj => absurd hj (by omega), rfl⟩
  case round =>
   obtain ⟨i, rfl, hi5, hgk, HNO, rfl⟩ := hrel
   obtain ⟨w2, rfl⟩ : ∃ w0, w0 = wr := ⟨_, rfl⟩
   have HGK := Lib.hid hgk
   clear hgk
   by_cases hil : i < 5
   ·have e1 : decide ((i : Int) < 5) = true := decide_eq_true (by omega)
    have e2 : decide (i < 5) = true := decide_eq_true hil
    have e3 : (i : Int) < 5 := by omega
    obtain ⟨kk, hkk⟩ : ∃ kk : ByteArray, kk = ⟨(kindB i).toArray⟩ := ⟨_, rfl⟩
    have hkkl : kk.data.toList = kindB i := by rw [hkk]
    have ck : w2.cell? ⟨kb, i, none⟩ = some (.string kk) := by rw [hkk]; exact (HK2.out.cell i).trans (kindV_at hil)
    have zw : IntKind.i64.wrap ((i : Int) + 1) = (i : Int) + 1 := by rw [IntKind.wrap_i64]; omega
    have HKK := Lib.hid hkkl
    clear hkk hkkl
    cases bb
    ·go_wp2
     go_roundg (5 - (i + 1))
     case measure => have := HGK.out; omega
     case rel => exact ⟨i + 1, by simp, by omega, by omega, Lib.hid fun h => (by cases h), rfl⟩
    ·by_cases hi0 : i = 0
     ·subst hi0
      have q1 : decide ((0 : Int) < ((0 : Nat) : Int)) = false := rfl
      go_wp2
      go_roundg (5 - 1)
      case measure => have := HGK.out; omega
      case rel => exact ⟨1, rfl, by omega, by omega, Lib.hid fun _ j hj => absurd hj (by omega), rfl⟩
     ·have q1 : decide ((0 : Int) < (i : Int)) = true := decide_eq_true (by omega)
      have q2 : decide (0 < i) = true := decide_eq_true (by omega)
      have hki : kindB i = kindsL.getD (i - 1) [] := by unfold kindB; rw [if_neg hi0]
      by_cases heq : kindB i = k
      ·have q3 : (kk.toList == sk.toList) = true := by rw [beq_iff_eq, ByteArray.toList_eq, ByteArray.toList_eq, HKK.out, HKL.out]; exact heq
       have HKF : Hid (kindF k = some i) := Lib.hid (by
        rw [← heq, hki, kindF_at (by omega)]
        congr 1
        omega)
       cases om with
       | none => exact absurd HNB.out.1 (by decide)
       | some v =>
        obtain rfl := HNB.out.2 v rfl
        have HRR : Hid (regionL [u, k, m] = some ⟨(i : Int), v⟩) := Lib.hid (by rw [HRL.out, HKF.out]; rfl)
        obtain ⟨rv, pv, tv, lv, T, L, hbk, hS⟩ := HG2.out
        have HS := Lib.hid hS
        have HBL := Lib.hid hbk
        have x9 : w2.cell? ⟨p, 9, none⟩ = some rv := (hbk.cell 9).trans rfl
        have hpl := hbk.lt
        obtain ⟨i0, hi, hz0, hz1, hz2⟩ := info_parts info_reg
        have hc2 : ∀ u ∈ ([.int .i64 (i : Int), .int .i64 v] : List Value), u.oneCell' = true := by intro u hu; simp at hu; rcases hu with rfl | rfl <;> rfl
        have hc3 : x.set.regs.length + 1 ≤ maxLen := by unfold maxLen; omega
        have hc4 : (x.set.regs.length + 1) * 16 ≤ 140737488355328 := by omega
        have hc5 : B ≤ (w2.alloc (.cells #[.int .i64 (i : Int), .int .i64 v] 67)).heap.size := by simp; omega
        have HA : Hid (Below w2.heap.size w2 (w2.alloc (.cells #[.int .i64 (i : Int), .int .i64 v] 67))) := Lib.hid ((Below.refl _ _).alloc (Nat.le_refl _) _)
        have HBB : Hid (Below B w w2) := Lib.hid (HB2.out.mono hBw)
        obtain ⟨wq, rfl⟩ : ∃ wq, wq = w2 := ⟨_, rfl⟩
        clear hS hbk heq hki hi0
        go_wp2_with (at_builtin; go_must (refine wpList_append_lies _ rfl _ _ 23 rfl B 67 i0 (.agg #[.int .i64 0, .int .i64 0]) 2 16 Tryz.underlying23 (by assumption) hz0 hz1 hz2 rfl (by decide) rv x.set.regs.length (rows rgC x.set.regs) rfl (HS.out.regs.alloc _) ⟨wq.heap.size, 0, none⟩ 1 1 [.int .i64 (i : Int), .int .i64 v] rfl rfl (World.news_of_block (cs := #[.int .i64 (i : Int), .int .i64 v]) (t := 67) (fr := (0, 0)) (by simpa using heap_alloc_new wq (.cells #[.int .i64 (i : Int), .int .i64 v] 67))) hc2 (by omega) hc3 hc4 hc5 (wq.heap.size + 1) (by simp) ?_; intro gg c' w2 hown2 hg2 hat hlt2; have hR3 := blk_past HBL.out (HS.out.regs) oth_rd.a HA.out hg2; have m6 : w2.cell? ⟨p, 9, none⟩ = some rv := (hR3.cell 9).trans rfl; have f6 : w2.frozen? ⟨p, 9, none⟩ = false := hR3.frozen 9; have hl3 := hR3.lt))
        go_ret
        obtain ⟨g1, g2, g3⟩ := HS.out.put_region HBL.out oth_rd hB2 hBp HA.out hg2 ⟨(i : Int), v⟩ hown2 9
        refine ⟨HBB.out.trans g3, ?_⟩
        rw [HRR.out]
        exact ⟨rfl, _, _, _, _, _, _, g1, g2⟩
      ·have q3 : (kk.toList == sk.toList) = false := by rw [beq_eq_false_iff_ne, ByteArray.toList_eq, ByteArray.toList_eq, HKK.out, HKL.out]; exact heq
       go_wp2
       go_roundg (5 - (i + 1))
       case measure => have := HGK.out; omega
       case rel =>
        refine ⟨i + 1, by simp, by omega, by omega, Lib.hid fun hb j hj => ?_, rfl⟩
        rcases Nat.lt_or_ge (j + 1) i with h1 | h1
        ·exact HNO.out hb j h1
        ·have : j = i - 1 := by omega
         subst this
         rw [← hki]
         exact heq
   ·have e1 : decide ((i : Int) < 5) = false := decide_eq_false (by omega)
    have e2 : decide (i < 5) = false := decide_eq_false hil
    have HRR : Hid (regionL [u, k, m] = none) := Lib.hid (by
     rw [HRL.out]
     cases om with
     | none => rfl
     | some v =>
      have : bb = true := HNB.out.1
      rw [kindF_no fun j hj => HNO.out this j (by omega)]
      rfl)
    go_wp2
    go_ret
    refine ⟨HB2.out.mono hBw, ?_⟩
    rw [HRR.out]
    exact ⟨rfl, HG2.out⟩
 ·have e1 : ((ws.length : Int) != 3) = true := by simp; omega
  have HR : Hid (regionL ws = none) := Lib.hid (regionL_no h3)
  have HG := Lib.hid hG
  clear h3 hW hws hG hE
  go_enter Tryz.func78, Tryz.ntmps78
  go_wp2
  go_ret
  refine ⟨Below.refl _ _, ?_⟩
  rw [HR.out]
  exact ⟨rfl, HG.out⟩
set_option maxHeartbeats 2000000 in
theorem numbers_same (L : List Int) (n c c' C : Nat) (A A' : Option Addr) (w : World) (hl : L.length = n) (hn9 : n ≤ 9223372036854775807) (hC : C ≤ w.heap.size) (hA : Reads w C 1 A n (rows i64C L)) (hA' : Reads w C 1 A' n (rows i64C L)) :
  Calls Tryz.prog 24 #[.slice A n c, .slice A' n c'] w fun e w' => e = .returned (.bool true) ∧ ∃ m, w' = w.drewN m := by
 by_cases hn : 0 < n
 ·obtain ⟨b, off, rfl, hb, hc⟩ := hA.flat hn
  obtain ⟨b', off', rfl, hb', hc'⟩ := hA'.flat hn
  have HC : Hid (∀ (i : Nat) (z : Int), L[i]? = some z → ∀ k, (w.drewN k).cell? ⟨b, off + i, none⟩ = some (.int .i64 (z : Int)) ∧ (w.drewN k).cell? ⟨b', off' + i, none⟩ = some (.int .i64 (z : Int))) := Lib.hid fun i z hi k => by
   have hr : (rows i64C L)[i]? = some (.int .i64 (z : Int)) := by
    have : rows i64C L = L.map fun (z : Int) => (.int .i64 (z : Int) : Value) := by
     unfold rows
     clear hA hA' hc hc' hi hl hn
     induction L with
     | nil => rfl
     | cons a r ih => rw [List.flatMap_cons, ih]; rfl
    rw [this, List.getElem?_map, hi]
    rfl
   exact ⟨hc i _ hr, hc' i _ hr⟩
  have hbl : b < w.heap.size := Nat.lt_of_lt_of_le hb hC
  have hbl' : b' < w.heap.size := Nat.lt_of_lt_of_le hb' hC
  have HL := Lib.hid hl
  clear hA hA' hc hc' hb hb' hC hl
  go_enter Tryz.func24, Tryz.ntmps24
  go_upto_region 4 with fail
  go_loopg [5] n (fun gk iv W => ∃ i : Nat, iv = .int .i64 i ∧ i ≤ n ∧ gk + i = n ∧ Hid (∃ k, W = w.drewN k))
  case atStart => exact ⟨0, rfl, Nat.zero_le _, rfl, Lib.hid ⟨0, rfl⟩⟩
  case round =>
   obtain ⟨i, rfl, hi, hgk, HW⟩ := hrel
   have HG := Lib.hid hgk
   clear hgk
   by_cases hil : i < n
   ·have e1 : decide ((i : Int) < (n : Int)) = true := decide_eq_true (by omega)
    have e2 : decide (i < n) = true := decide_eq_true hil
    have e3 : (i : Int) < (n : Int) := by omega
    obtain ⟨z, hz⟩ : ∃ z, L[i]? = some z := ⟨_, List.getElem?_eq_getElem (by rw [HL.out]; exact hil)⟩
    obtain ⟨k, hk⟩ := HW.out
    have c1 : wr.cell? ⟨b, off + i, none⟩ = some (.int .i64 (z : Int)) := by rw [hk]; exact (HC.out i z hz k).1
    have c2 : wr.cell? ⟨b', off' + i, none⟩ = some (.int .i64 (z : Int)) := by rw [hk]; exact (HC.out i z hz k).2
    have hbr : b < wr.heap.size := by rw [hk]; exact hbl
    have hbr' : b' < wr.heap.size := by rw [hk]; exact hbl'
    have q1 : ((z : Int) != (z : Int)) = false := by simp
    have zw : IntKind.i64.wrap ((i : Int) + 1) = (i : Int) + 1 := by rw [IntKind.wrap_i64]; omega
    have HK := Lib.hid hk
    clear hk hz
    go_wp2_with fail
    go_quiet (fail)
    go_wp2
    go_roundg (n - (i + 1))
    case measure => have := HG.out; omega
    case rel => exact ⟨i + 1, by simp, by omega, by omega, Lib.hid ⟨k + nq, by rw [HK.out, World.drewN_drewN]⟩⟩
   ·have e1 : decide ((i : Int) < (n : Int)) = false := decide_eq_false (by omega)
    have e2 : decide (i < n) = false := decide_eq_false hil
    go_wp2
    go_ret
    exact ⟨rfl, HW.out⟩
 ·obtain rfl : n = 0 := by omega
  clear hA hA' hC hl
  go_enter Tryz.func24, Tryz.ntmps24
  go_upto_region 4 with fail
  go_loopg [5] 0 (fun gk iv W => iv = .int .i64 0 ∧ W = w)
  case atStart => exact ⟨rfl, rfl⟩
  case round =>
   obtain ⟨rfl, rfl⟩ := hrel
   go_wp2
   go_ret
   exact ⟨rfl, 0, rfl⟩
set_option maxHeartbeats 2000000 in
theorem ints_same (L : List Nat) (n c c' C : Nat) (A A' : Option Addr) (w : World) (hl : L.length = n) (hn9 : n ≤ 9223372036854775807) (hC : C ≤ w.heap.size) (hA : Reads w C 1 A n (rows natC L)) (hA' : Reads w C 1 A' n (rows natC L)) :
  Calls Tryz.prog 25 #[.slice A n c, .slice A' n c'] w fun e w' => e = .returned (.bool true) ∧ ∃ m, w' = w.drewN m := by
 by_cases hn : 0 < n
 ·obtain ⟨b, off, rfl, hb, hc⟩ := hA.flat hn
  obtain ⟨b', off', rfl, hb', hc'⟩ := hA'.flat hn
  have HC : Hid (∀ (i : Nat) (z : Nat), L[i]? = some z → ∀ k, (w.drewN k).cell? ⟨b, off + i, none⟩ = some (.int .i64 (z : Int)) ∧ (w.drewN k).cell? ⟨b', off' + i, none⟩ = some (.int .i64 (z : Int))) := Lib.hid fun i z hi k => by
   have hr : (rows natC L)[i]? = some (.int .i64 (z : Int)) := by
    have : rows natC L = L.map fun (z : Nat) => (.int .i64 (z : Int) : Value) := by
     unfold rows
     clear hA hA' hc hc' hi hl hn
     induction L with
     | nil => rfl
     | cons a r ih => rw [List.flatMap_cons, ih]; rfl
    rw [this, List.getElem?_map, hi]
    rfl
   exact ⟨hc i _ hr, hc' i _ hr⟩
  have hbl : b < w.heap.size := Nat.lt_of_lt_of_le hb hC
  have hbl' : b' < w.heap.size := Nat.lt_of_lt_of_le hb' hC
  have HL := Lib.hid hl
  clear hA hA' hc hc' hb hb' hC hl
  go_enter Tryz.func25, Tryz.ntmps25
  go_upto_region 4 with fail
  go_loopg [5] n (fun gk iv W => ∃ i : Nat, iv = .int .i64 i ∧ i ≤ n ∧ gk + i = n ∧ Hid (∃ k, W = w.drewN k))
  case atStart => exact ⟨0, rfl, Nat.zero_le _, rfl, Lib.hid ⟨0, rfl⟩⟩
  case round =>
   obtain ⟨i, rfl, hi, hgk, HW⟩ := hrel
   have HG := Lib.hid hgk
   clear hgk
   by_cases hil : i < n
   ·have e1 : decide ((i : Int) < (n : Int)) = true := decide_eq_true (by omega)
    have e2 : decide (i < n) = true := decide_eq_true hil
    have e3 : (i : Int) < (n : Int) := by omega
    obtain ⟨z, hz⟩ : ∃ z, L[i]? = some z := ⟨_, List.getElem?_eq_getElem (by rw [HL.out]; exact hil)⟩
    obtain ⟨k, hk⟩ := HW.out
    have c1 : wr.cell? ⟨b, off + i, none⟩ = some (.int .i64 (z : Int)) := by rw [hk]; exact (HC.out i z hz k).1
    have c2 : wr.cell? ⟨b', off' + i, none⟩ = some (.int .i64 (z : Int)) := by rw [hk]; exact (HC.out i z hz k).2
    have hbr : b < wr.heap.size := by rw [hk]; exact hbl
    have hbr' : b' < wr.heap.size := by rw [hk]; exact hbl'
    have q1 : ((z : Int) != (z : Int)) = false := by simp
    have zw : IntKind.i64.wrap ((i : Int) + 1) = (i : Int) + 1 := by rw [IntKind.wrap_i64]; omega
    have HK := Lib.hid hk
    clear hk hz
    go_wp2_with fail
    go_quiet (fail)
    go_wp2
    go_roundg (n - (i + 1))
    case measure => have := HG.out; omega
    case rel => exact ⟨i + 1, by simp, by omega, by omega, Lib.hid ⟨k + nq, by rw [HK.out, World.drewN_drewN]⟩⟩
   ·have e1 : decide ((i : Int) < (n : Int)) = false := decide_eq_false (by omega)
    have e2 : decide (i < n) = false := decide_eq_false hil
    go_wp2
    go_ret
    exact ⟨rfl, HW.out⟩
 ·obtain rfl : n = 0 := by omega
  clear hA hA' hC hl
  go_enter Tryz.func25, Tryz.ntmps25
  go_upto_region 4 with fail
  go_loopg [5] 0 (fun gk iv W => iv = .int .i64 0 ∧ W = w)
  case atStart => exact ⟨rfl, rfl⟩
  case round =>
   obtain ⟨rfl, rfl⟩ := hrel
   go_wp2
   go_ret
   exact ⟨rfl, 0, rfl⟩
end Go.Proofs.YtiheggkkgbfndaaGreatDoor
