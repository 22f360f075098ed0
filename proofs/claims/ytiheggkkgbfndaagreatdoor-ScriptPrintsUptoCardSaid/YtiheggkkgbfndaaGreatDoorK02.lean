/- script: the reader's next line. -/
import Derived.Test.YtiheggkkgbfndaaGreatDoorK01
import Derived.Lib.OthersKept
import Derived.WalkSmall
import Derived.Laws.RangeAny
import Derived.Laws.RangeString
import Derived.Deep.LoopGhost
import Derived.Deep.QuietTactic
import Derived.BigQuiet
import Derived.Test.YtiheggkkgbfndaaGreatDoorRows
import Derived.Lib.ParseIntB
import Derived.Lib.ItoaNum
import Derived.Lib.ParseIntBCases
import Derived.Lib.ParseIntBTie
import Derived.Lib.Split
namespace Go.Proofs.YtiheggkkgbfndaaGreatDoor
open Go.RowKit Go.Joins Go.ChangeShapes Go.WideShapes Go.Deep
set_option linter.unusedVariables false
set_option linter.unusedSimpArgs false
set_option maxRecDepth 100000
def RdV (s : ByteArray) (a n : Nat) (c : Cfg) (rv pv tv lv : Value) (k e pl : Nat) : Array Value := #[.string s, .int .i64 a, .int .i64 n, .int .i64 c.raw, .int .i64 c.ring, .int .i64 c.writes, .int .i64 c.stamps, .bool c.multi, .int .i64 c.tries, rv, pv, tv, lv, .int .i64 k, .int .i64 e, .int .i64 pl]
def LinePost (s : ByteArray) (p n : Nat) (c : Cfg) (rv pv tv lv : Value) (k e pl : Nat) (w : World) (r : Ending) (w' : World) : Prop := Frm w w' (fun q => q = p) ∧
  ((∃ i, n ≤ i ∧ i < s.size ∧ s.get! i = 10 ∧ (∀ j, n ≤ j → j < i → s.get! j ≠ 10) ∧ r = .returned (.tuple #[.string (s.extract n i), .bool true]) ∧ Blk w' p 56 (RdV s n (i + 1) c rv pv tv lv k e pl)) ∨
   ((∀ j, n ≤ j → j < s.size → s.get! j ≠ 10) ∧ r = .returned (.tuple #[.string ⟨#[]⟩, .bool false]) ∧ Blk w' p 56 (RdV s n n c rv pv tv lv k e pl)))
theorem get_sub (s : ByteArray) (n j : Nat) (h : n + j < s.size) : (s.extract n s.size).get! j = s.get! (n + j) := by
 have h1 : j < (s.extract n s.size).size := by rw [ByteArray.size_extract]; omega
 have e1 : ∀ (t : ByteArray) (k : Nat) (hk : k < t.size), t.get! k = t[k]'hk := fun t k hk => Go.get_at t k hk
 rw [e1 _ _ h1, e1 _ _ h, ByteArray.getElem_extract]
set_option maxHeartbeats 4000000 in
theorem line_any (s : ByteArray) (hs : s.size ≤ 65535) (p a n : Nat) (c : Cfg) (rv pv tv lv : Value) (k e pl : Nat) (w : World) (hb : Blk w p 56 (RdV s a n c rv pv tv lv k e pl)) (hn : n ≤ s.size) :
  Calls Tryz.prog 42 #[.pointer (some ⟨p, 0, none⟩)] w (LinePost s p n c rv pv tv lv k e pl w) := by
 have x2 : w.cell? ⟨p, 2, none⟩ = some (.int .i64 n) := (hb.cell 2).trans rfl
 have x1 : w.cell? ⟨p, 1, none⟩ = some (.int .i64 a) := (hb.cell 1).trans rfl
 have f1 : w.frozen? ⟨p, 1, none⟩ = false := hb.frozen 1
 obtain ⟨W1, hW1⟩ : ∃ W1, W1 = w.setCell ⟨p, 1, none⟩ (.int .i64 n) := ⟨_, rfl⟩
 have hb1 : Blk W1 p 56 (RdV s n n c rv pv tv lv k e pl) := hW1 ▸ hb.set_ 1 _
 have hF1 : Frm w W1 (fun q => q = p) := hW1 ▸ (Frm.refl w _).set p 1 _ (.inl rfl)
 have hplt : p < W1.heap.size := hb1.lt
 have y0 : W1.cell? ⟨p, 0, none⟩ = some (.string s) := (hb1.cell 0).trans rfl
 have y1 : W1.cell? ⟨p, 1, none⟩ = some (.int .i64 n) := (hb1.cell 1).trans rfl
 have HW := Lib.hid hW1
 obtain ⟨sub, hsub⟩ : ∃ sub, sub = s.extract n s.size := ⟨_, rfl⟩
 have hsz : sub.size = s.size - n := by rw [hsub, ByteArray.size_extract]; omega
 have HSUB := Lib.hid hsub
 have hget : Hid (∀ j, n + j < s.size → sub.get! j = s.get! (n + j)) := Lib.hid fun j hj => by rw [hsub]; exact get_sub s n j hj
 go_enter Tryz.func42, Tryz.ntmps42
 go_wp2
 rw [← HW.out]
 have g1 : ((n : Int) ≤ (s.size : Int)) := by omega
 have g2 : ¬ ((n : Int) < 0) := by omega
 have hslr : (Instr.sliceAt 9 (.string s) (some (.int .i64 n)) none none).run Tryz.prog W1 = .ok (.string sub) W1 := by
  rw [HSUB.out]
  simp [go_sem, hn]
 clear hb hsub hW1 x2 x1 f1
 go_region
 go_wp2
 rw [← HSUB.out]
 obtain ⟨W2, hW2⟩ : ∃ W2, W2 = W1.drew := ⟨_, rfl⟩
 have hb2 : Blk W2 p 56 (RdV s n n c rv pv tv lv k e pl) := hW2 ▸ hb1
 have hF2 : Frm w W2 (fun q => q = p) := hW2 ▸ hF1.drew
 have hplt2 : p < W2.heap.size := hb2.lt
 have e12 : W1.heap.size = W2.heap.size := by rw [hW2]; rfl
 rw [← hW2, e12]
 clear hW2 e12 hb1 hF1 hplt y0 y1 hslr HW
 go_loopw [] (fun wr => ∃ pos, wr = W2.iter sub pos ∧ pos ≤ sub.size ∧ ∀ j, j < pos → sub.get! j ≠ 10) (fun wr => sub.size - wr.iterPos W2.heap.size)
 case atStart => exact ⟨0, rfl, Nat.zero_le _, fun j hj => absurd hj (by omega)⟩
 case round =>
  obtain ⟨pos, rfl, hps, hj⟩ := hrel
  by_cases hp : pos < sub.size
  ·have hnx : ∀ ty, (Instr.next (.pointer (some ⟨W2.heap.size, 0, none⟩)) true ty).run Tryz.prog (W2.iter sub pos) = _ := fun ty => run_next_any W2 sub pos ty hp
   by_cases h10 : sub.get! pos = 10
   ·have hd := decode_ten sub pos h10
    have hdb : (((Utf8.decode sub pos).1 : Int) == 10) = true := by rw [hd]; rfl
    have hb3 : Blk (W2.iter sub (pos + (Utf8.decode sub pos).2)) p 56 (RdV s n n c rv pv tv lv k e pl) := hb2.alloc _
    have z1 : (W2.iter sub (pos + (Utf8.decode sub pos).2)).cell? ⟨p, 1, none⟩ = some (.int .i64 n) := (hb3.cell 1).trans rfl
    have z2 : (W2.iter sub (pos + (Utf8.decode sub pos).2)).cell? ⟨p, 2, none⟩ = some (.int .i64 n) := (hb3.cell 2).trans rfl
    have zf : (W2.iter sub (pos + (Utf8.decode sub pos).2)).frozen? ⟨p, 2, none⟩ = false := hb3.frozen 2
    have zw : IntKind.i64.wrap ((n : Int) + (pos : Int)) = (n : Int) + (pos : Int) := by rw [IntKind.wrap_i64]; omega
    have zw1 : IntKind.i64.wrap ((n : Int) + (pos : Int) + 1) = (n : Int) + (pos : Int) + 1 := by rw [IntKind.wrap_i64]; omega
    go_wp2
    obtain ⟨W4, hW4⟩ : ∃ W4, W4 = (W2.iter sub (pos + (Utf8.decode sub pos).2)).setCell ⟨p, 2, none⟩ (.int .i64 ((n : Int) + (pos : Int) + 1)) := ⟨_, rfl⟩
    have hb4 : Blk W4 p 56 (RdV s n (n + pos + 1) c rv pv tv lv k e pl) := hW4 ▸ hb3.set_ 2 _
    have hF4 : Frm w W4 (fun q => q = p) := hW4 ▸ (hF2.alloc _).set p 2 _ (.inl rfl)
    rw [← hW4]
    clear hW4 hb3 z1 z2 zf hnx
    have v0 : W4.cell? ⟨p, 0, none⟩ = some (.string s) := (hb4.cell 0).trans rfl
    have v1 : W4.cell? ⟨p, 1, none⟩ = some (.int .i64 n) := (hb4.cell 1).trans rfl
    have i1 : (n : Int) + (pos : Int) ≤ (s.size : Int) := by omega
    have i2 : (n : Int) ≤ (n : Int) + (pos : Int) := by omega
    have i3 : (0 : Int) ≤ (n : Int) + (pos : Int) := by omega
    have i4 : ((n : Int) + (pos : Int)).toNat = n + pos := by omega
    go_quiet (fail)
    go_wp2
    go_ret2
    have hgp := hget.out pos (by omega)
    refine ⟨hF4.drewN _, .inl ⟨n + pos, by omega, by omega, by rw [← hgp]; exact h10, fun j h1 h2 => ?_, rfl, hb4.drewN _⟩⟩
    have := hget.out (j - n) (by omega)
    rw [show n + (j - n) = j by omega] at this
    rw [← this]
    exact hj (j - n) (by omega)
   ·obtain ⟨d1, d2, d3, d4⟩ := decode_skip sub pos hp h10
    have hdb : (((Utf8.decode sub pos).1 : Int) == 10) = false := by
     rw [beq_eq_false_iff_ne]
     omega
    go_wp2
    go_roundw
    case rel =>
     refine ⟨pos + (Utf8.decode sub pos).2, rfl, d2, fun j hj2 => ?_⟩
     rcases Nat.lt_or_ge j pos with h1 | h1
     ·exact hj j h1
     ·exact d4 j h1 hj2
    case measure =>
     simp
     omega
  ·have hnx : ∀ ty, (Instr.next (.pointer (some ⟨W2.heap.size, 0, none⟩)) true ty).run Tryz.prog (W2.iter sub pos) = _ := fun ty => run_next_end W2 sub pos ty hp
   go_wp2
   go_ret2
   refine ⟨hF2.alloc _, .inr ⟨fun j h1 h2 => ?_, rfl, hb2.alloc _⟩⟩
   have := hget.out (j - n) (by omega)
   rw [show n + (j - n) = j by omega] at this
   rw [← this]
   exact hj (j - n) (by omega)
def kindV : Array Value := #[.string ⟨#[]⟩, .string ⟨#[99, 111, 117, 110, 116, 101, 114]⟩, .string ⟨#[113, 117, 101, 117, 101]⟩, .string ⟨#[100, 105, 99, 116]⟩, .string ⟨#[99, 104, 97, 105, 110]⟩]
def lookV : Array Value := #[.string ⟨#[99, 101, 108, 108, 115]⟩, .string ⟨#[115, 104, 97, 112, 101, 115]⟩, .string ⟨#[114, 105, 110, 103]⟩, .string ⟨#[115, 116, 97, 116, 101]⟩, .string ⟨#[111, 114, 100, 101, 114]⟩, .string ⟨#[119, 111, 114, 100, 115]⟩]
theorem kinds_any (w : World) : Calls Tryz.prog 62 #[] w fun e w' => e = .returned (.slice (some ⟨w.heap.size, 0, none⟩) 5 5) ∧ w' = w.alloc (.cells kindV 9) := by
 go_enter Tryz.func62, Tryz.ntmps62
 go_wp2
 go_ret
 exact ⟨rfl, rfl⟩
theorem looks_any (w : World) : Calls Tryz.prog 33 #[] w fun e w' => e = .returned (.slice (some ⟨w.heap.size, 0, none⟩) 6 6) ∧ w' = w.alloc (.cells lookV 9) := by
 go_enter Tryz.func33, Tryz.ntmps33
 go_wp2
 go_ret
 exact ⟨rfl, rfl⟩
theorem fails_any (s : ByteArray) (p a n : Nat) (c : Cfg) (rv pv tv lv : Value) (k pl x y : Nat) (w : World) (hb : Blk w p 56 (RdV s a n c rv pv tv lv k 0 pl)) :
  Calls Tryz.prog 17 #[.pointer (some ⟨p, 0, none⟩), .int .i64 x, .int .i64 y] w fun e w' => e = .returned (.tuple #[]) ∧ Frm w w' (fun q => q = p) ∧ Blk w' p 56 (RdV s a n c rv pv tv lv k x y) := by
 have x14 : w.cell? ⟨p, 14, none⟩ = some (.int .i64 (0 : Nat)) := (hb.cell 14).trans rfl
 have x15 : w.cell? ⟨p, 15, none⟩ = some (.int .i64 pl) := (hb.cell 15).trans rfl
 have f14 : w.frozen? ⟨p, 14, none⟩ = false := hb.frozen 14
 obtain ⟨W1, hW1⟩ : ∃ W1, W1 = w.setCell ⟨p, 14, none⟩ (.int .i64 x) := ⟨_, rfl⟩
 have hb1 : Blk W1 p 56 (RdV s a n c rv pv tv lv k x pl) := hW1 ▸ hb.set_ 14 _
 have y15 : (w.setCell ⟨p, 14, none⟩ (.int .i64 x)).cell? ⟨p, 15, none⟩ = some (.int .i64 pl) := hW1 ▸ (hb1.cell 15).trans rfl
 have f15 : (w.setCell ⟨p, 14, none⟩ (.int .i64 x)).frozen? ⟨p, 15, none⟩ = false := hW1 ▸ hb1.frozen 15
 have HF : Hid (Frm w ((w.setCell ⟨p, 14, none⟩ (.int .i64 x)).setCell ⟨p, 15, none⟩ (.int .i64 y)) (fun q => q = p)) := Lib.hid (((Frm.refl w (fun q => q = p)).set p 14 _ (.inl rfl)).set p 15 _ (.inl rfl))
 have HB : Hid (Blk ((w.setCell ⟨p, 14, none⟩ (.int .i64 x)).setCell ⟨p, 15, none⟩ (.int .i64 y)) p 56 (RdV s a n c rv pv tv lv k x y)) := Lib.hid ((hb.set_ 14 _).set_ 15 _)
 clear hb hb1 hW1
 go_enter Tryz.func17, Tryz.ntmps17
 go_wp2
 go_end0
 exact ⟨rfl, HF.out, HB.out⟩
end Go.Proofs.YtiheggkkgbfndaaGreatDoor
namespace Go.Proofs.YtiheggkkgbfndaaGreatDoor
open Go Go.Lib
set_option linter.unusedVariables false
set_option linter.unusedSimpArgs false
def isDig (c : UInt8) : Bool := decide (48 ≤ c.toNat ∧ c.toNat ≤ 57)
def decV (l : List UInt8) : Nat := l.foldl (fun a c => 10 * a + (c.toNat - 48)) 0
theorem decV_snoc (l : List UInt8) (c : UInt8) : decV (l ++ [c]) = 10 * decV l + (c.toNat - 48) := by simp [decV]
theorem dig_chr (n : Nat) (h : n < 10) : isDig (UInt8.ofNat (48 + n)) = true ∧ (UInt8.ofNat (48 + n)).toNat = 48 + n := by
 have e : (UInt8.ofNat (48 + n)).toNat = 48 + n := by rw [UInt8.toNat_ofNat']; omega
 exact ⟨by unfold isDig; rw [e]; simp; omega, e⟩
theorem decDigits_big {u : Nat} (h : ¬ u < 10) : decDigits u = decDigits (u / 10) ++ [UInt8.ofNat (48 + u % 10)] := by rw [decDigits, dif_neg h]
theorem decDigits_dig (u : Nat) : ∀ c ∈ decDigits u, isDig c = true := by
 induction u using Nat.strongRecOn with
 | _ u ih =>
  by_cases h : u < 10
  ·rw [decDigits_one h]
   intro c hc
   obtain rfl := List.mem_singleton.1 hc
   exact (dig_chr u h).1
  ·rw [decDigits_big h]
   intro c hc
   rcases List.mem_append.1 hc with hc | hc
   ·exact ih (u / 10) (by omega) c hc
   ·obtain rfl := List.mem_singleton.1 hc
    exact (dig_chr (u % 10) (by omega)).1
theorem decV_digits (u : Nat) : decV (decDigits u) = u := by
 induction u using Nat.strongRecOn with
 | _ u ih =>
  by_cases h : u < 10
  ·rw [decDigits_one h]
   simp [decV]
   omega
  ·rw [decDigits_big h, decV_snoc, ih (u / 10) (by omega), (dig_chr (u % 10) (by omega)).2]
   omega
theorem decDigits_head (u : Nat) (h : 0 < u) : ∃ c r, decDigits u = c :: r ∧ c.toNat ≠ 48 := by
 induction u using Nat.strongRecOn with
 | _ u ih =>
  by_cases h9 : u < 10
  ·exact ⟨_, [], decDigits_one h9, by rw [(dig_chr u h9).2]; omega⟩
  ·obtain ⟨c, r, e, hc⟩ := ih (u / 10) (by omega) (by omega)
   exact ⟨c, r ++ [UInt8.ofNat (48 + u % 10)], by rw [decDigits_big h9, e]; rfl, hc⟩
theorem digits_canon : ∀ (n : Nat) (l : List UInt8), l.length = n → l ≠ [] → (∀ c ∈ l, isDig c = true) → (1 < l.length → ∀ c r, l = c :: r → c.toNat ≠ 48) → l = decDigits (decV l) ∧ (∀ c r, l = c :: r → c.toNat ≠ 48 → 0 < decV l)
 | 0, l, hn, h0, _, _ => absurd (List.eq_nil_of_length_eq_zero hn) h0
 | n + 1, l, hn, h0, hd, hz => by
  obtain ⟨i, c, rfl⟩ : ∃ i c, l = i ++ [c] := ⟨l.dropLast, l.getLast h0, (List.dropLast_concat_getLast h0).symm⟩
  have hcd : isDig c = true := hd c (by simp)
  have hcc : 48 ≤ c.toNat ∧ c.toNat ≤ 57 := by simpa [isDig] using hcd
  have hco : UInt8.ofNat (48 + (c.toNat - 48)) = c := by
   rw [show 48 + (c.toNat - 48) = c.toNat by omega]
   simp
  by_cases hi : i = []
  ·subst hi
   have hv : decV ([] ++ [c]) = c.toNat - 48 := by simp [decV]
   rw [hv, decDigits_one (by omega), hco]
   refine ⟨rfl, fun c' r e hc' => ?_⟩
   simp at e
   obtain ⟨rfl, _⟩ := e
   omega
  ·obtain ⟨a, r, rfl⟩ : ∃ a r, i = a :: r := by
    cases i with
    | nil => exact absurd rfl hi
    | cons a r => exact ⟨a, r, rfl⟩
   have ha : a.toNat ≠ 48 := hz (by simp) a (r ++ [c]) rfl
   obtain ⟨e1, e2⟩ := digits_canon n (a :: r) (by simpa using hn) (by simp) (fun x hx => hd x (List.mem_append_left _ hx)) (fun _ c' r' e => by
    simp only [List.cons.injEq] at e
    rw [← e.1]
    exact ha)
   have hp := e2 a r rfl ha
   rw [decV_snoc]
   refine ⟨?_, fun _ _ _ _ => by omega⟩
   rw [decDigits_big (by omega), show (10 * decV (a :: r) + (c.toNat - 48)) / 10 = decV (a :: r) by omega, show (10 * decV (a :: r) + (c.toNat - 48)) % 10 = c.toNat - 48 by omega, hco, ← e1]

theorem canon {l : List UInt8} (h0 : l ≠ []) (hd : ∀ c ∈ l, isDig c = true) (hz : 1 < l.length → ∀ c r, l = c :: r → c.toNat ≠ 48) : l = decDigits (decV l) := (digits_canon l.length l rfl h0 hd hz).1
def natF (s : List UInt8) : Option Nat := if s = [] ∨ 19 < s.length ∨ (1 < s.length ∧ s.head? = some 48) ∨ s.any (fun c => !isDig c) ∨ 9223372036854775807 < decV s then none else some (decV s)
def minB : List UInt8 := 45 :: decDigits 9223372036854775808
def numF (s : List UInt8) : Option Int := if s = minB then some (-9223372036854775808) else match s with
 | [] => none
 | c :: r => if c = 45 then (match natF r with | some n => if 0 < n then some (-(n : Int)) else none | none => none) else (natF (c :: r)).map fun (n : Nat) => (n : Int)
theorem natF_some {s : List UInt8} {n : Nat} : natF s = some n ↔ n ≤ 9223372036854775807 ∧ s = decDigits n := by
  unfold natF
  constructor
  · intro h
    split at h
    · cases h
    · rename_i hh
      injection h with h
      subst h
      simp only [not_or, not_and, List.any_eq_true, Bool.not_eq_true', not_exists] at hh
      obtain ⟨h0, h1, h2, h3, h4⟩ := hh
      refine ⟨by omega, canon h0 (fun c hc => by simpa using h3 c hc) fun hl c r e hc => ?_⟩
      refine h2 hl ?_
      rw [e]
      simp
      exact UInt8.toNat_inj.1 hc
  · rintro ⟨h1, rfl⟩
    rw [if_neg]
    · rw [decV_digits]
    · simp only [not_or, not_and, List.any_eq_true, Bool.not_eq_true', not_exists]
      refine ⟨?_, ?_, ?_, ?_, ?_⟩
      · intro e
        have := decDigits_length n
        rw [e] at this
        have := nDigits_pos n
        simp at *
        omega
      · rw [decDigits_length]
        have hk : ∀ (k u : Nat), u < 10 ^ (k + 1) → nDigits u ≤ k + 1 := by
          intro k
          induction k with
          | zero => intro u h; rw [nDigits_small (by simpa using h)]; exact Nat.le_refl _
          | succ k ih =>
            intro u h
            by_cases h9 : u < 10
            · rw [nDigits_small h9]
              omega
            · rw [nDigits_big h9]
              have := ih (u / 10) (by rw [Nat.pow_succ] at h; omega)
              omega
        have := hk 18 n (by have : (10 : Nat) ^ (18 + 1) = 10000000000000000000 := by decide
                            omega)
        omega
      · intro hl e
        by_cases h0 : n = 0
        · subst h0
          rw [decDigits_one (by omega)] at hl
          simp at hl
        · obtain ⟨c, r, e2, hc⟩ := decDigits_head n (by omega)
          rw [e2] at e
          simp at e
          subst e
          exact hc rfl
      · intro c hc
        simpa using decDigits_dig n c hc
      · rw [decV_digits]
        omega
def i64ok0 (k : Int) : Prop := -9223372036854775808 ≤ k ∧ k ≤ 9223372036854775807
theorem digits_ne (n : Nat) : decDigits n ≠ [] := by
 intro e
 have h1 := decDigits_length n
 have h2 := nDigits_pos n
 rw [e] at h1
 simp at h1
 omega
theorem digits_head_ne (n : Nat) (c : UInt8) (r : List UInt8) (h : decDigits n = c :: r) : c ≠ 45 := by
 have := decDigits_dig n c (by rw [h]; simp)
 rintro rfl
 simp [isDig] at this
theorem numF_some {s : List UInt8} {n : Int} : numF s = some n ↔ i64ok0 n ∧ s = itoa n := by
 unfold numF
 constructor
 ·intro h
  split at h
  ·rename_i hm
   injection h with h
   subst h
   exact ⟨⟨by omega, by omega⟩, hm⟩
  ·cases s with
   | nil => cases h
   | cons c r =>
    simp only at h
    split at h
    ·rename_i hc
     subst hc
     cases hn : natF r with
     | none => rw [hn] at h; cases h
     | some k =>
      rw [hn] at h
      simp only at h
      split at h
      ·injection h with h
       subst h
       obtain ⟨h1, rfl⟩ := natF_some.1 hn
       refine ⟨⟨by omega, by omega⟩, ?_⟩
       unfold itoa
       rw [if_pos (by omega)]
       simp
      ·cases h
    ·cases hn : natF (c :: r) with
     | none => rw [hn] at h; cases h
     | some k =>
      rw [hn] at h
      simp only [Option.map_some, Option.some.injEq] at h
      subst h
      obtain ⟨h1, h2⟩ := natF_some.1 hn
      refine ⟨⟨by omega, by omega⟩, ?_⟩
      unfold itoa
      rw [if_neg (by omega), h2]
      simp
 ·rintro ⟨⟨h1, h2⟩, rfl⟩
  by_cases hm : n = -9223372036854775808
  ·subst hm
   rw [if_pos (show itoa (-9223372036854775808) = minB from by unfold itoa minB; rw [if_pos (by omega)]; rfl)]
  ·have hne : itoa n ≠ minB := by
    unfold itoa minB
    by_cases h0 : n < 0
    ·rw [if_pos h0]
     intro e
     injection e with _ e
     have := congrArg decV e
     rw [decV_digits, decV_digits] at this
     omega
    ·rw [if_neg h0]
     intro e
     exact digits_head_ne _ _ _ e rfl
   rw [if_neg hne]
   unfold itoa
   by_cases h0 : n < 0
   ·rw [if_pos h0]
    simp only [if_true]
    have hk : natF (decDigits n.natAbs) = some n.natAbs := natF_some.2 ⟨by omega, rfl⟩
    rw [hk]
    simp only
    rw [if_pos (by omega)]
    congr 1
    omega
   ·rw [if_neg h0]
    have hk : natF (decDigits n.toNat) = some n.toNat := natF_some.2 ⟨by omega, rfl⟩
    cases hd : decDigits n.toNat with
    | nil => exact absurd hd (digits_ne _)
    | cons c r =>
     simp only
     rw [if_neg (digits_head_ne _ _ _ hd), ← hd, hk]
     simp
     omega
/-! ### the library's -/
theorem parseUintM_digits : ∀ (l : List UInt8) (acc : Nat), (∀ c ∈ l, isDig c = true) → l.foldl (fun a c => 10 * a + (c.toNat - 48)) acc ≤ 9223372036854775808 → parseUintM 18446744073709551615 acc l = .ok (l.foldl (fun a c => 10 * a + (c.toNat - 48)) acc)
 | [], acc, _, _ => rfl
 | c :: r, acc, hd, h => by
  have hc : 48 ≤ c.toNat ∧ c.toNat ≤ 57 := by simpa [isDig] using hd c (by simp)
  have hmono : ∀ (r : List UInt8) (a : Nat), a ≤ r.foldl (fun a c => 10 * a + (c.toNat - 48)) a := by
   intro r
   induction r with
   | nil => intro a; exact Nat.le_refl _
   | cons x r ih => intro a; rw [List.foldl_cons]; exact Nat.le_trans (show a ≤ 10 * a + (x.toNat - 48) by omega) (ih _)
  have h1 := hmono r (10 * acc + (c.toNat - 48))
  rw [List.foldl_cons] at h
  unfold parseUintM
  rw [if_pos hc, if_neg (by omega), if_neg (by omega), show acc * 10 + (c.toNat - 48) = 10 * acc + (c.toNat - 48) by omega]
  exact parseUintM_digits r _ (fun x hx => hd x (by simp [hx])) h
theorem parseUintB_digits (u : Nat) (h : u ≤ 9223372036854775808) : parseUintB 64 (decDigits u) = .ok u := by
 unfold parseUintB
 rw [if_neg (digits_ne u)]
 have := parseUintM_digits (decDigits u) 0 (decDigits_dig u) (by have := decV_digits u; unfold decV at this; omega)
 have e := decV_digits u
 unfold decV at e
 rw [e] at this
 exact this
theorem parse_itoa (n : Int) (h : i64ok0 n) : parseIntB 64 (itoa n) = .ok n := by
  obtain ⟨h1, h2⟩ := h
  unfold itoa
  by_cases h0 : n < 0
  · rw [if_pos h0, parseIntB_minus, parseUintB_digits _ (by omega)]
    simp only [signedC]
    rw [if_neg (by have : 2 ^ (64 - 1) = 9223372036854775808 := by decide
                   omega)]
    congr 1
    omega
  · rw [if_neg h0]
    cases hd : decDigits n.toNat with
    | nil => exact absurd hd (digits_ne _)
    | cons c r =>
      have hc : isDig c = true := decDigits_dig n.toNat c (by rw [hd]; simp)
      have hcc : 48 ≤ c.toNat ∧ c.toNat ≤ 57 := by simpa [isDig] using hc
      rw [parseIntB_plain _ _ _ (by omega) (by omega), ← hd, parseUintB_digits _ (by omega)]
      simp only [signlessC]
      rw [if_neg (by have : 2 ^ (64 - 1) = 9223372036854775808 := by decide
                     omega)]
      congr 1
      omega
theorem prog_num (s : List UInt8) (n : Int) : (parseIntB 64 s = .ok n ∧ itoa n = s) ↔ numF s = some n := by
 rw [numF_some]
 constructor
 ·rintro ⟨h1, rfl⟩
  have hb := parseIntB_bounds h1
  exact ⟨by unfold i64ok0; omega, rfl⟩
 ·rintro ⟨h1, rfl⟩
  exact ⟨parse_itoa n h1, rfl⟩


theorem index_miss (c : UInt8) : ∀ (l : List UInt8), c ∉ l → index l [c] = -1
 | [], _ => by simp [index]
 | b :: l, h => by
  have hb : b ≠ c := fun e => h (by simp [e])
  have hl : c ∉ l := fun e => h (by simp [e])
  unfold index
  rw [if_neg (by simp [List.isPrefixOf]; exact fun e => hb e.symm), if_pos (by rw [index_miss c l hl]; rfl)]
theorem index_hit (c : UInt8) : ∀ (a b : List UInt8), c ∉ a → index (a ++ c :: b) [c] = a.length
 | [], b, _ => by unfold index; simp [List.isPrefixOf]
 | x :: a, b, h => by
  have hx : x ≠ c := fun e => h (by simp [e])
  have ha : c ∉ a := fun e => h (by simp [e])
  rw [List.cons_append]
  unfold index
  rw [if_neg (by simp [List.isPrefixOf]; exact fun e => hx e.symm), index_hit c a b ha, if_neg (by rw [beq_iff_eq]; omega)]
  simp
def splitF (c : UInt8) : List UInt8 → List (List UInt8)
 | [] => [[]]
 | b :: r => if b = c then [] :: splitF c r else (match splitF c r with | h :: t => (b :: h) :: t | [] => [[b]])
theorem splitF_ne (c : UInt8) (l : List UInt8) : splitF c l ≠ [] := by
 cases l with
 | nil => simp [splitF]
 | cons b r =>
  unfold splitF
  split
  ·simp
  ·split <;> simp
theorem splitF_miss (c : UInt8) : ∀ (l : List UInt8), c ∉ l → splitF c l = [l]
 | [], _ => rfl
 | b :: r, h => by
  have hb : b ≠ c := fun e => h (by simp [e])
  unfold splitF
  rw [if_neg hb, splitF_miss c r (fun e => h (by simp [e]))]
theorem splitF_hit (c : UInt8) : ∀ (a b : List UInt8), c ∉ a → splitF c (a ++ c :: b) = a :: splitF c b
 | [], b, _ => by simp [splitF]
 | x :: a, b, h => by
  have hx : x ≠ c := fun e => h (by simp [e])
  rw [List.cons_append, splitF, if_neg hx, splitF_hit c a b (fun e => h (by simp [e]))]
theorem split_cases (c : UInt8) (l : List UInt8) : c ∉ l ∨ ∃ a b, l = a ++ c :: b ∧ c ∉ a := by
 induction l with
 | nil => exact .inl (by simp)
 | cons x l ih =>
  by_cases hx : x = c
  ·exact .inr ⟨[], l, by simp [hx], by simp⟩
  ·rcases ih with h | ⟨a, b, rfl, h⟩
   ·exact .inl (by simp; exact ⟨fun e => hx e.symm, h⟩)
   ·exact .inr ⟨x :: a, b, rfl, by simp; exact ⟨fun e => hx e.symm, h⟩⟩
theorem countFrom_eq (c : UInt8) : ∀ (f : Nat) (l : List UInt8), l.length < f → countFrom [c] f l = l.count c
 | 0, l, h => absurd h (by omega)
 | f + 1, l, h => by
  unfold countFrom
  rcases split_cases c l with hm | ⟨a, b, rfl, ha⟩
  ·rw [index_miss c l hm, if_pos (by rfl)]
   exact (List.count_eq_zero.2 hm).symm
  ·rw [index_hit c a b ha, if_neg (by rw [beq_iff_eq]; omega)]
   have e : (a ++ c :: b).drop (((a.length : Int)).toNat + [c].length) = b := by
    simp
   rw [e, countFrom_eq c f b (by simp at h; omega), List.count_append, List.count_cons_self, List.count_eq_zero.2 ha]
   omega
theorem splitK_eq (c : UInt8) : ∀ (k : Nat) (l : List UInt8), l.count c ≤ k → splitK [c] 0 k l = splitF c l
 | 0, l, h => by
  have : c ∉ l := List.count_eq_zero.1 (by omega)
  rw [splitF_miss c l this]
  rfl
 | k + 1, l, h => by
  unfold splitK
  rcases split_cases c l with hm | ⟨a, b, rfl, ha⟩
  ·rw [index_miss c l hm, if_pos (by rfl), splitF_miss c l hm]
  ·rw [index_hit c a b ha, if_neg (by rw [beq_iff_eq]; omega), splitF_hit c a b ha]
   rw [List.count_append, List.count_cons_self] at h
   have e : (a ++ c :: b).drop (((a.length : Int)).toNat + [c].length) = b := by simp
   rw [e, splitK_eq c k b (by omega)]
   simp
theorem splitF_length (c : UInt8) (l : List UInt8) : (splitF c l).length = l.count c + 1 := by
 induction l with
 | nil => rfl
 | cons b r ih =>
  unfold splitF
  by_cases hb : b = c
  ·subst hb
   rw [if_pos rfl, List.length_cons, ih, List.count_cons_self]
  ·rw [if_neg hb, List.count_cons_of_ne hb, ← ih]
   split
   ·rename_i h t e
    rw [e]
    simp
   ·rename_i e
    exact absurd e (splitF_ne c r)
theorem cut_one (c : UInt8) (l : List UInt8) : (cut l [c]).1 = l.takeWhile (fun b => b != c) := by
 unfold cut
 rcases split_cases c l with hm | ⟨a, b, rfl, ha⟩
 ·rw [index_miss c l hm, if_neg (by omega)]
  have h : ∀ (l : List UInt8), c ∉ l → l.takeWhile (fun b => b != c) = l := by
   intro l
   induction l with
   | nil => intro _; rfl
   | cons x r ih =>
    intro hm
    have hx : x ≠ c := fun e => hm (by simp [e])
    rw [List.takeWhile_cons, if_pos (by simpa using hx), ih (fun e => hm (by simp [e]))]
  exact (h l hm).symm
 ·rw [index_hit c a b ha, if_pos (by omega)]
  have h : (a ++ c :: b).takeWhile (fun b => b != c) = a := by
   rw [List.takeWhile_append_of_pos]
   ·simp
   ·intro x hx
    simp
    rintro rfl
    exact ha hx
  rw [h]
  simp
theorem suffix_one (c : UInt8) (l : List UInt8) : hasSuffix l [c] = (l.getLast? == some c) := by
 unfold hasSuffix
 rcases List.eq_nil_or_concat l with rfl | ⟨i, x, rfl⟩
 ·simp
 ·rw [Bool.eq_iff_iff]
  simp [List.isSuffixOf, List.isPrefixOf]
  exact eq_comm
theorem trim_one (c : UInt8) (l : List UInt8) (h : hasSuffix l [c] = true) : trimSuffix l [c] = l.dropLast := by
 unfold trimSuffix
 rw [if_pos h, List.dropLast_eq_take]
 rfl

structure Tok where
 s : List UInt8
 pos : Nat
def isGap (c : UInt8) : Bool := c == 32 || c == 9
def scStep (a : Nat) (x : List Tok × List UInt8 × Nat) (c : UInt8) : List Tok × List UInt8 × Nat :=
 if isGap c then ((if x.2.1 = [] then x.1 else x.1 ++ [⟨x.2.1, a + (x.2.2 - x.2.1.length)⟩]), [], x.2.2 + 1) else (x.1, x.2.1 ++ [c], x.2.2 + 1)
def sc (a : Nat) (p : List UInt8) : List Tok × List UInt8 × Nat := p.foldl (scStep a) ([], [], 0)
def flushT (a : Nat) (x : List Tok × List UInt8 × Nat) : List Tok := if x.2.1 = [] then x.1 else x.1 ++ [⟨x.2.1, a + (x.2.2 - x.2.1.length)⟩]
theorem sc_snoc (a : Nat) (p : List UInt8) (c : UInt8) : sc a (p ++ [c]) = scStep a (sc a p) c := by simp [sc]
theorem snoc_ind' {α : Type} {P : List α → Prop} (h0 : P []) (h1 : ∀ l x, P l → P (l ++ [x])) (l : List α) : P l := by
 rw [← List.reverse_reverse l]
 induction l.reverse with
 | nil => exact h0
 | cons x r ih => rw [List.reverse_cons]; exact h1 _ _ ih
theorem sc_len (a : Nat) (p : List UInt8) : (sc a p).2.2 = p.length := by
 induction p using snoc_ind' with
 | h0 => rfl
 | h1 l x ih =>
  rw [sc_snoc, scStep]
  split <;> simp [ih]
theorem sc_suffix (a : Nat) (p : List UInt8) : ∃ q, p = q ++ (sc a p).2.1 := by
 induction p using snoc_ind' with
 | h0 => exact ⟨[], rfl⟩
 | h1 l x ih =>
  obtain ⟨q, hq⟩ := ih
  rw [sc_snoc, scStep]
  split
  ·exact ⟨l ++ [x], by simp⟩
  ·refine ⟨q, ?_⟩
   simp only
   rw [← List.append_assoc, ← hq]
theorem sc_gap (a : Nat) (p : List UInt8) (c : UInt8) (h : isGap c = true) : sc a (p ++ [c]) = (flushT a (sc a p), [], p.length + 1) := by
 rw [sc_snoc, scStep, if_pos h]
 unfold flushT
 rw [sc_len]
theorem sc_chr (a : Nat) (p : List UInt8) (c : UInt8) (h : isGap c = false) : sc a (p ++ [c]) = ((sc a p).1, (sc a p).2.1 ++ [c], p.length + 1) := by
 rw [sc_snoc, scStep, if_neg (by rw [h]; exact Bool.false_ne_true), sc_len]
def cutR (l : List UInt8) : List UInt8 := l.takeWhile (fun b => b != 35)
def lineTok (l : List UInt8) (a : Nat) : List Tok := flushT a (sc a (cutR l))
theorem cutR_clean (l : List UInt8) (h : (35 : UInt8) ∉ l) : cutR l = l := by
 unfold cutR
 induction l with
 | nil => rfl
 | cons x r ih =>
  have hx : x ≠ 35 := fun e => h (by simp [e])
  rw [List.takeWhile_cons, if_pos (by simpa using hx), ih (fun e => h (by simp [e]))]
/-! ### lines -/
def txStep (x : List (List Tok) × Nat × List UInt8) (c : UInt8) : List (List Tok) × Nat × List UInt8 :=
 if c = 10 then (x.1 ++ [lineTok x.2.2 x.2.1], x.2.1 + x.2.2.length + 1, []) else (x.1, x.2.1, x.2.2 ++ [c])
def tx (t : List UInt8) : List (List Tok) × Nat × List UInt8 := t.foldl txStep ([], 0, [])
def lineToks (t : List UInt8) : List (List Tok) := (tx t).1 ++ [lineTok (tx t).2.2 (tx t).2.1]
def toksFrom : Nat → List (List UInt8) → List (List Tok)
 | _, [] => []
 | a, l :: r => lineTok l a :: toksFrom (a + l.length + 1) r
theorem tx_split : ∀ (t : List UInt8) (d : List (List Tok)) (a : Nat) (p : List UInt8), (10 : UInt8) ∉ p →
  (t.foldl txStep (d, a, p)).1 ++ [lineTok (t.foldl txStep (d, a, p)).2.2 (t.foldl txStep (d, a, p)).2.1] = d ++ toksFrom a (splitF 10 (p ++ t))
 | [], d, a, p, h => by
  rw [List.append_nil, splitF_miss 10 p h]
  rfl
 | c :: t, d, a, p, h => by
  rw [List.foldl_cons]
  by_cases hc : c = 10
  ·subst hc
   have e : txStep (d, a, p) 10 = (d ++ [lineTok p a], a + p.length + 1, []) := by simp [txStep]
   rw [e, tx_split t _ _ [] (by simp), splitF_hit 10 p t h, List.nil_append, toksFrom, List.append_assoc]
   rfl
  ·have e : txStep (d, a, p) c = (d, a, p ++ [c]) := by simp [txStep, hc]
   rw [e, tx_split t d a (p ++ [c]) (by simp; exact ⟨h, fun e => hc e.symm⟩), List.append_assoc]
   rfl
theorem lineToks_split (t : List UInt8) : lineToks t = toksFrom 0 (splitF 10 t) := by
 have := tx_split t [] 0 [] (by simp)
 rw [List.nil_append, List.nil_append] at this
 exact this
/-! ### how the document reads lines -/
end Go.Proofs.YtiheggkkgbfndaaGreatDoor
namespace Go.Proofs.YtiheggkkgbfndaaGreatDoor
set_option linter.unusedVariables false
set_option linter.unusedSimpArgs false
structure AOp where
 code : Nat
 operand : Int
def shapeL : List Nat := [0, 1, 2, 3, 0, 0, 0, 0, 0, 0, 0, 0, 0, 0, 0, 0, 0, 0, 0, 0, 0, 0, 0, 4, 2, 2, 6, 0, 5, 0, 0, 0, 0, 5, 5, 5, 5, 5, 5, 5, 5]
def shapeF (c : Nat) : Nat := shapeL.getD c 0
def widthF (sh : Nat) : Nat := if sh = 1 ∨ sh = 4 ∨ sh = 5 then 1 else if sh = 2 ∨ sh = 6 then 2 else if sh = 3 then 8 else 0
def leF : List Nat → Nat
 | [] => 0
 | b :: r => b + 256 * leF r
theorem leF_snoc (l : List Nat) (b : Nat) : leF (l ++ [b]) = leF l + 256 ^ l.length * b := by
 induction l with
 | nil => simp [leF]
 | cons x r ih =>
  rw [List.cons_append, leF, leF, ih, List.length_cons, Nat.pow_succ, Nat.mul_add, Nat.add_assoc, Nat.mul_comm (256 ^ r.length) 256, Nat.mul_assoc]
theorem leF_lt (l : List Nat) (h : ∀ b ∈ l, b < 256) : leF l < 256 ^ l.length := by
 induction l with
 | nil => simp [leF]
 | cons x r ih =>
  have h1 := ih fun b hb => h b (List.mem_cons_of_mem _ hb)
  have h2 := h x (by simp)
  rw [leF, List.length_cons, Nat.pow_succ]
  omega
def valueF (sh n : Nat) : Int := if sh = 1 then (if n < 128 then (n : Int) else n - 256) else if sh = 2 then (if n < 32768 then (n : Int) else n - 65536) else if sh = 3 then (if n < 9223372036854775808 then (n : Int) else n - 18446744073709551616) else n
def fitsF (sh : Nat) (n : Int) : Bool :=
 if sh = 1 then decide (-128 ≤ n ∧ n ≤ 127) else if sh = 2 then decide (-32768 ≤ n ∧ n ≤ 32767) else if sh = 3 then true
 else if sh = 4 then decide (0 ≤ n ∧ n < 6) else if sh = 5 then decide (0 ≤ n ∧ n ≤ 255) else if sh = 6 then decide (0 ≤ n ∧ n ≤ 65535) else decide (n = 0)
def atF (s : List Nat) (i : Nat) : Option (AOp × Nat) :=
  if i < s.length then
    (let c := s.getD i 0
     if c < 41 then
       (let w := widthF (shapeF c)
        if w ≤ s.length - (i + 1) then
          (let o := valueF (shapeF c) (leF ((s.drop (i + 1)).take w))
           if fitsF (shapeF c) o = true then some (⟨c, o⟩, 1 + w) else none)
        else none)
     else none)
  else none
theorem shape_cases (c : Nat) (h : c < 41) : (c = 1 ∧ shapeF c = 1) ∨ ((c = 2 ∨ c = 24 ∨ c = 25) ∧ shapeF c = 2) ∨ (c = 3 ∧ shapeF c = 3) ∨ (c = 23 ∧ shapeF c = 4) ∨ ((c = 28 ∨ 33 ≤ c) ∧ shapeF c = 5) ∨ (c = 26 ∧ shapeF c = 6) ∨ ((c ≠ 1 ∧ c ≠ 2 ∧ c ≠ 3 ∧ c ≠ 23 ∧ c ≠ 24 ∧ c ≠ 25 ∧ c ≠ 26 ∧ c ≠ 28 ∧ c < 33) ∧ shapeF c = 0) := by
 have key : ∀ k, k < 41 → (k = 1 ∧ shapeF k = 1) ∨ ((k = 2 ∨ k = 24 ∨ k = 25) ∧ shapeF k = 2) ∨ (k = 3 ∧ shapeF k = 3) ∨ (k = 23 ∧ shapeF k = 4) ∨ ((k = 28 ∨ 33 ≤ k) ∧ shapeF k = 5) ∨ (k = 26 ∧ shapeF k = 6) ∨ ((k ≠ 1 ∧ k ≠ 2 ∧ k ≠ 3 ∧ k ≠ 23 ∧ k ≠ 24 ∧ k ≠ 25 ∧ k ≠ 26 ∧ k ≠ 28 ∧ k < 33) ∧ shapeF k = 0) := by decide
 exact key c h
end Go.Proofs.YtiheggkkgbfndaaGreatDoor
