/- Frames with blocks that may be written; what a list of the call's own keeps. -/
import Derived.Test.YtiheggkkgbfndaaGreatDoorJ01
import Derived.Lib.OthersKept
import Derived.WalkSmall
import Derived.Laws.RangeAny
import Derived.Laws.RangeString
import Derived.Deep.LoopGhost
import Derived.Deep.QuietTactic
import Derived.BigQuiet
namespace Go.Proofs.YtiheggkkgbfndaaGreatDoor
open Go.RowKit Go.Joins Go.ChangeShapes Go.WideShapes Go.Deep
set_option linter.unusedVariables false
set_option linter.unusedSimpArgs false
set_option maxRecDepth 100000
structure Frm (w w' : World) (S : Nat → Prop) : Prop where
 os : w'.os = w.os
 tape : w'.tape = w.tape
 output : w'.output = w.output
 size : w.heap.size ≤ w'.heap.size
 block : ∀ q, q < w.heap.size → ¬ S q → w'.heap[q]? = w.heap[q]?
theorem Frm.refl (w : World) (S : Nat → Prop) : Frm w w S := ⟨rfl, rfl, rfl, Nat.le_refl _, fun _ _ _ => rfl⟩
theorem Frm.of_below {w w' : World} {S : Nat → Prop} (h : Below w.heap.size w w') : Frm w w' S := ⟨h.os, h.tape, h.output, h.size, fun q hq _ => h.block q hq⟩
theorem Frm.trans {w w1 w2 : World} {S : Nat → Prop} {S' : Nat → Prop} (h : Frm w w1 S) (k : Frm w1 w2 S') (hs : ∀ q, S' q → S q ∨ w.heap.size ≤ q) : Frm w w2 S :=
 ⟨k.os.trans h.os, k.tape.trans h.tape, k.output.trans h.output, Nat.le_trans h.size k.size, fun q hq hS => (k.block q (Nat.lt_of_lt_of_le hq h.size) fun hh => by
  rcases hs q hh with h1 | h1
  ·exact hS h1
  ·omega).trans (h.block q hq hS)⟩
theorem Frm.below {w w' : World} {S : Nat → Prop} {B : Nat} (h : Frm w w' S) (hB : B ≤ w.heap.size) (hs : ∀ q, S q → B ≤ q) : Below B w w' :=
 ⟨h.os, h.tape, h.output, h.size, fun q hq => h.block q (by omega) fun hh => by have := hs q hh; omega⟩
theorem Frm.drewN {w w' : World} {S : Nat → Prop} (h : Frm w w' S) (n : Nat) : Frm w (w'.drewN n) S := ⟨h.os, h.tape, h.output, h.size, h.block⟩
theorem Frm.drew {w w' : World} {S : Nat → Prop} (h : Frm w w' S) : Frm w w'.drew S := ⟨h.os, h.tape, h.output, h.size, h.block⟩
theorem Frm.alloc {w w' : World} {S : Nat → Prop} (h : Frm w w' S) (o : Obj) : Frm w (w'.alloc o) S := h.trans (Frm.of_below (S := S) (Below.alloc (Below.refl _ _) (Nat.le_refl _) o)) fun q hq => .inl hq
theorem Frm.set {w w' : World} {S : Nat → Prop} (h : Frm w w' S) (b i : Nat) (u : Value) (hb : S b ∨ w.heap.size ≤ b) : Frm w (w'.setCell ⟨b, i, none⟩ u) S :=
 h.trans (S' := fun q => q = b) (Below.setCell (Below.refl b w') (Nat.le_refl b) u |> fun k => ⟨k.os, k.tape, k.output, k.size, fun q hq hn => Below.heap_setCell w' ⟨b, i, none⟩ u q hn⟩) fun q hq => by subst hq; exact hb
theorem Frm.grown {w w1 w2 : World} {S : Nat → Prop} {row : Option Nat} (h : Frm w w1 S) (k : w1.grownBy w2 row) (hr : ∀ q, row = some q → S q ∨ w.heap.size ≤ q) : Frm w w2 S :=
 h.trans (S' := fun q => row = some q) ⟨k.os, k.tape, k.output, k.size, fun q hq hn => k.block q hq (fun e => hn e.symm)⟩ hr
theorem own_keep {w w' : World} {base : Nat} {e : TypeId} {size n : Nat} {v : Value} {xs : List Value} (h : w.ownsRow base e size v n xs) (hk : ∀ b, v.ownBlock = some b → w'.heap[b]? = w.heap[b]?) : w'.ownsRow base e size v n xs := by
 refine ⟨h.1, ?_⟩
 rcases h.2 with h0 | ⟨g, cap, cur, hv, hb, hg, r⟩
 ·exact .inl h0
 ·exact .inr ⟨g, cap, cur, hv, hb, (hk g (by rw [hv]; rfl)).trans hg, r⟩
theorem own_drewN {w : World} {B e n size k : Nat} {v : Value} {xs : List Value} (h : w.ownsRow B e size v n xs) : (w.drewN k).ownsRow B e size v n xs := h
theorem own_shapes {w : World} {B e n size : Nat} {v : Value} {xs : List Value} (h : w.ownsRow B e size v n xs) : ∃ R c, v = .slice R n c ∧ n ≤ c ∧ Reads w w.heap.size size R n xs := by
 have h0 := h
 rcases h.2 with ⟨rfl, rfl⟩ | ⟨g, cap, cur, rfl, _, _, hnc, _⟩
 ·exact ⟨none, 0, rfl, Nat.le_refl _, Reads.of_own h0⟩
 ·exact ⟨_, cap, rfl, hnc, Reads.of_own h0⟩
theorem own_blk {w : World} {base : Nat} {e : TypeId} {size n : Nat} {v : Value} {xs : List Value} (h : w.ownsRow base e size v n xs) {b : Nat} (hb : v.ownBlock = some b) : ∃ cs, Blk w b e cs := by
 rcases h.2 with ⟨rfl, _⟩ | ⟨g, cap, cur, rfl, _, hg, _⟩
 ·cases hb
 ·injection hb with hb
  subst hb
  exact ⟨cur, hg⟩
theorem own_set {w : World} {base : Nat} {e t : TypeId} {size n b i : Nat} {v : Value} {xs : List Value} {cs : Array Value} (h : w.ownsRow base e size v n xs) (hb : Blk w b t cs) (hne : e ≠ t) (u : Value) : (w.setCell ⟨b, i, none⟩ u).ownsRow base e size v n xs := by
 refine own_keep h fun q hq => ?_
 obtain ⟨cs', hc⟩ := own_blk h hq
 exact Below.heap_setCell w ⟨b, i, none⟩ u q (hc.ne_ hb hne)

theorem own_ne {w : World} {B1 B2 n1 n2 s1 s2 : Nat} {t1 t2 : TypeId} {v1 v2 : Value} {x1 x2 : List Value} (h1 : w.ownsRow B1 t1 s1 v1 n1 x1) (h2 : w.ownsRow B2 t2 s2 v2 n2 x2) (ht : t1 ≠ t2) {q : Nat} (hq : v1.ownBlock = some q) : v2.ownBlock ≠ some q := fun hh => by
 obtain ⟨c1, hc1⟩ := own_blk h1 hq
 obtain ⟨c2, hc2⟩ := own_blk h2 hh
 exact (hc1.ne_ hc2 ht) rfl
theorem own_ne_blk {w : World} {B1 n1 s1 b : Nat} {t1 t2 : TypeId} {v1 : Value} {x1 : List Value} {cs : Array Value} (h1 : w.ownsRow B1 t1 s1 v1 n1 x1) (h2 : Blk w b t2 cs) (ht : t1 ≠ t2) : v1.ownBlock ≠ some b := fun hh => by
 obtain ⟨c1, hc1⟩ := own_blk h1 hh
 exact (hc1.ne_ h2 ht) rfl
theorem own_beb {w w' : World} {B e size n : Nat} {v : Value} {xs : List Value} (h : w.ownsRow B e size v n xs) (hb : Below w.heap.size w w') : w'.ownsRow B e size v n xs := own_keep h fun q hq => hb.block q (h.lt q hq).2
theorem own_lower {w : World} {B B' e size n : Nat} {v : Value} {xs : List Value} (h : w.ownsRow B e size v n xs) (hB : B' ≤ B) : w.ownsRow B' e size v n xs :=
 ⟨h.1, h.2.imp id fun ⟨g, cap, cur, a, b, r⟩ => ⟨g, cap, cur, a, by omega, r⟩⟩
theorem below_grown {B n size : Nat} {e : TypeId} {v : Value} {xs : List Value} {W w2 : World} (h : W.ownsRow B e size v n xs) (hg : W.grownBy w2 v.ownBlock) (hB : B ≤ W.heap.size) : Below B W w2 :=
 ((Frm.refl W (fun q => v.ownBlock = some q)).grown hg (fun q h => .inl h)).below hB fun q hq => (h.lt q hq).1
def RdV (s : ByteArray) (a n : Nat) (c : Cfg) (rv pv tv lv : Value) (k e pl : Nat) : Array Value := #[.string s, .int .i64 a, .int .i64 n, .int .i64 c.raw, .int .i64 c.ring, .int .i64 c.writes, .int .i64 c.stamps, .bool c.multi, .int .i64 c.tries, rv, pv, tv, lv, .int .i64 k, .int .i64 e, .int .i64 pl]
def LinePost (s : ByteArray) (p n : Nat) (c : Cfg) (rv pv tv lv : Value) (k e pl : Nat) (w : World) (r : Ending) (w' : World) : Prop := Frm w w' (fun q => q = p) ∧
  ((∃ i, n ≤ i ∧ i < s.size ∧ s.get! i = 10 ∧ (∀ j, n ≤ j → j < i → s.get! j ≠ 10) ∧ r = .returned (.tuple #[.string (s.extract n i), .bool true]) ∧ Blk w' p 56 (RdV s n (i + 1) c rv pv tv lv k e pl)) ∨
   ((∀ j, n ≤ j → j < s.size → s.get! j ≠ 10) ∧ r = .returned (.tuple #[.string ⟨#[]⟩, .bool false]) ∧ Blk w' p 56 (RdV s n n c rv pv tv lv k e pl)))
theorem get_sub (s : ByteArray) (n j : Nat) (h : n + j < s.size) : (s.extract n s.size).get! j = s.get! (n + j) := by
 have h1 : j < (s.extract n s.size).size := by rw [ByteArray.size_extract]; omega
 have e1 : ∀ (t : ByteArray) (k : Nat) (hk : k < t.size), t.get! k = t[k]'hk := fun t k hk => Go.get_at t k hk
 rw [e1 _ _ h1, e1 _ _ h, ByteArray.getElem_extract]
set_option maxHeartbeats 4000000 in
theorem line_any (s : ByteArray) (hs : s.size ≤ 65535) (p a n : Nat) (c : Cfg) (rv pv tv lv : Value) (k e pl : Nat) (w : World) (hb : Blk w p 56 (RdV s a n c rv pv tv lv k e pl)) (hn : n ≤ s.size) :
  Calls Tryz.prog 42 #[.pointer (some ⟨p, 0, none⟩)] w (LinePost s p n c rv pv tv lv k e pl w) := by
 have x2 : w.cell? ⟨p, 2, none⟩ = some (.int .i64 n) := (hb.cell 2).trans rfl
 have x1 : w.cell? ⟨p, 1, none⟩ = some (.int .i64 a) := (hb.cell 1).trans rfl
 have f1 : w.frozen? ⟨p, 1, none⟩ = false := hb.frozen 1
 obtain ⟨W1, hW1⟩ : ∃ W1, W1 = w.setCell ⟨p, 1, none⟩ (.int .i64 n) := ⟨_, rfl⟩
 have hb1 : Blk W1 p 56 (RdV s n n c rv pv tv lv k e pl) := hW1 ▸ hb.set_ 1 _
 have hF1 : Frm w W1 (fun q => q = p) := hW1 ▸ (Frm.refl w _).set p 1 _ (.inl rfl)
 have hplt : p < W1.heap.size := hb1.lt
 have y0 : W1.cell? ⟨p, 0, none⟩ = some (.string s) := (hb1.cell 0).trans rfl
 have y1 : W1.cell? ⟨p, 1, none⟩ = some (.int .i64 n) := (hb1.cell 1).trans rfl
 have HW := Lib.hid hW1
 obtain ⟨sub, hsub⟩ : ∃ sub, sub = s.extract n s.size := ⟨_, rfl⟩
 have hsz : sub.size = s.size - n := by rw [hsub, ByteArray.size_extract]; omega
 have HSUB := Lib.hid hsub
 have hget : Hid (∀ j, n + j < s.size → sub.get! j = s.get! (n + j)) := Lib.hid fun j hj => by rw [hsub]; exact get_sub s n j hj
 go_enter Tryz.func42, Tryz.ntmps42
 go_wp2
 rw [← HW.out]
 have g1 : ((n : Int) ≤ (s.size : Int)) := by omega
 have g2 : ¬ ((n : Int) < 0) := by omega
 have hslr : (Instr.sliceAt 9 (.string s) (some (.int .i64 n)) none none).run Tryz.prog W1 = .ok (.string sub) W1 := by
  rw [HSUB.out]
  simp [go_sem, hn]
 clear hb hsub hW1 x2 x1 f1
 go_region
 go_wp2
 rw [← HSUB.out]
 obtain ⟨W2, hW2⟩ : ∃ W2, W2 = W1.drew := ⟨_, rfl⟩
 have hb2 : Blk W2 p 56 (RdV s n n c rv pv tv lv k e pl) := hW2 ▸ hb1
 have hF2 : Frm w W2 (fun q => q = p) := hW2 ▸ hF1.drew
 have hplt2 : p < W2.heap.size := hb2.lt
 have e12 : W1.heap.size = W2.heap.size := by rw [hW2]; rfl
 rw [← hW2, e12]
 clear hW2 e12 hb1 hF1 hplt y0 y1 hslr HW
 go_loopw [] (fun wr => ∃ pos, wr = W2.iter sub pos ∧ pos ≤ sub.size ∧ ∀ j, j < pos → sub.get! j ≠ 10) (fun wr => sub.size - wr.iterPos W2.heap.size)
 case atStart => exact ⟨0, rfl, Nat.zero_le _, fun j hj => absurd hj (by omega)⟩
 case round =>
  obtain ⟨pos, rfl, hps, hj⟩ := hrel
  by_cases hp : pos < sub.size
  ·have hnx : ∀ ty, (Instr.next (.pointer (some ⟨W2.heap.size, 0, none⟩)) true ty).run Tryz.prog (W2.iter sub pos) = _ := fun ty => run_next_any W2 sub pos ty hp
   by_cases h10 : sub.get! pos = 10
   ·have hd := decode_ten sub pos h10
    have hdb : (((Utf8.decode sub pos).1 : Int) == 10) = true := by rw [hd]; rfl
    have hb3 : Blk (W2.iter sub (pos + (Utf8.decode sub pos).2)) p 56 (RdV s n n c rv pv tv lv k e pl) := hb2.alloc _
    have z1 : (W2.iter sub (pos + (Utf8.decode sub pos).2)).cell? ⟨p, 1, none⟩ = some (.int .i64 n) := (hb3.cell 1).trans rfl
    have z2 : (W2.iter sub (pos + (Utf8.decode sub pos).2)).cell? ⟨p, 2, none⟩ = some (.int .i64 n) := (hb3.cell 2).trans rfl
    have zf : (W2.iter sub (pos + (Utf8.decode sub pos).2)).frozen? ⟨p, 2, none⟩ = false := hb3.frozen 2
    have zw : IntKind.i64.wrap ((n : Int) + (pos : Int)) = (n : Int) + (pos : Int) := by rw [IntKind.wrap_i64]; omega
    have zw1 : IntKind.i64.wrap ((n : Int) + (pos : Int) + 1) = (n : Int) + (pos : Int) + 1 := by rw [IntKind.wrap_i64]; omega
    go_wp2
    obtain ⟨W4, hW4⟩ : ∃ W4, W4 = (W2.iter sub (pos + (Utf8.decode sub pos).2)).setCell ⟨p, 2, none⟩ (.int .i64 ((n : Int) + (pos : Int) + 1)) := ⟨_, rfl⟩
    have hb4 : Blk W4 p 56 (RdV s n (n + pos + 1) c rv pv tv lv k e pl) := hW4 ▸ hb3.set_ 2 _
    have hF4 : Frm w W4 (fun q => q = p) := hW4 ▸ (hF2.alloc _).set p 2 _ (.inl rfl)
    rw [← hW4]
    clear hW4 hb3 z1 z2 zf hnx
    have v0 : W4.cell? ⟨p, 0, none⟩ = some (.string s) := (hb4.cell 0).trans rfl
    have v1 : W4.cell? ⟨p, 1, none⟩ = some (.int .i64 n) := (hb4.cell 1).trans rfl
    have i1 : (n : Int) + (pos : Int) ≤ (s.size : Int) := by omega
    have i2 : (n : Int) ≤ (n : Int) + (pos : Int) := by omega
    have i3 : (0 : Int) ≤ (n : Int) + (pos : Int) := by omega
    have i4 : ((n : Int) + (pos : Int)).toNat = n + pos := by omega
    go_quiet (fail)
    go_wp2
    go_ret2
    have hgp := hget.out pos (by omega)
    refine ⟨hF4.drewN _, .inl ⟨n + pos, by omega, by omega, by rw [← hgp]; exact h10, fun j h1 h2 => ?_, rfl, hb4.drewN _⟩⟩
    have := hget.out (j - n) (by omega)
    rw [show n + (j - n) = j by omega] at this
    rw [← this]
    exact hj (j - n) (by omega)
   ·obtain ⟨d1, d2, d3, d4⟩ := decode_skip sub pos hp h10
    have hdb : (((Utf8.decode sub pos).1 : Int) == 10) = false := by
     rw [beq_eq_false_iff_ne]
     omega
    go_wp2
    go_roundw
    case rel =>
     refine ⟨pos + (Utf8.decode sub pos).2, rfl, d2, fun j hj2 => ?_⟩
     rcases Nat.lt_or_ge j pos with h1 | h1
     ·exact hj j h1
     ·exact d4 j h1 hj2
    case measure =>
     simp
     omega
  ·have hnx : ∀ ty, (Instr.next (.pointer (some ⟨W2.heap.size, 0, none⟩)) true ty).run Tryz.prog (W2.iter sub pos) = _ := fun ty => run_next_end W2 sub pos ty hp
   go_wp2
   go_ret2
   refine ⟨hF2.alloc _, .inr ⟨fun j h1 h2 => ?_, rfl, hb2.alloc _⟩⟩
   have := hget.out (j - n) (by omega)
   rw [show n + (j - n) = j by omega] at this
   rw [← this]
   exact hj (j - n) (by omega)
def kindV : Array Value := #[.string ⟨#[]⟩, .string ⟨#[99, 111, 117, 110, 116, 101, 114]⟩, .string ⟨#[113, 117, 101, 117, 101]⟩, .string ⟨#[100, 105, 99, 116]⟩, .string ⟨#[99, 104, 97, 105, 110]⟩]
def lookV : Array Value := #[.string ⟨#[99, 101, 108, 108, 115]⟩, .string ⟨#[115, 104, 97, 112, 101, 115]⟩, .string ⟨#[114, 105, 110, 103]⟩, .string ⟨#[115, 116, 97, 116, 101]⟩, .string ⟨#[111, 114, 100, 101, 114]⟩, .string ⟨#[119, 111, 114, 100, 115]⟩]
theorem kinds_any (w : World) : Calls Tryz.prog 62 #[] w fun e w' => e = .returned (.slice (some ⟨w.heap.size, 0, none⟩) 5 5) ∧ w' = w.alloc (.cells kindV 9) := by
 go_enter Tryz.func62, Tryz.ntmps62
 go_wp2
 go_ret
 exact ⟨rfl, rfl⟩
theorem looks_any (w : World) : Calls Tryz.prog 33 #[] w fun e w' => e = .returned (.slice (some ⟨w.heap.size, 0, none⟩) 6 6) ∧ w' = w.alloc (.cells lookV 9) := by
 go_enter Tryz.func33, Tryz.ntmps33
 go_wp2
 go_ret
 exact ⟨rfl, rfl⟩
theorem fails_any (s : ByteArray) (p a n : Nat) (c : Cfg) (rv pv tv lv : Value) (k pl x y : Nat) (w : World) (hb : Blk w p 56 (RdV s a n c rv pv tv lv k 0 pl)) :
  Calls Tryz.prog 17 #[.pointer (some ⟨p, 0, none⟩), .int .i64 x, .int .i64 y] w fun e w' => e = .returned (.tuple #[]) ∧ Frm w w' (fun q => q = p) ∧ Blk w' p 56 (RdV s a n c rv pv tv lv k x y) := by
 have x14 : w.cell? ⟨p, 14, none⟩ = some (.int .i64 (0 : Nat)) := (hb.cell 14).trans rfl
 have x15 : w.cell? ⟨p, 15, none⟩ = some (.int .i64 pl) := (hb.cell 15).trans rfl
 have f14 : w.frozen? ⟨p, 14, none⟩ = false := hb.frozen 14
 obtain ⟨W1, hW1⟩ : ∃ W1, W1 = w.setCell ⟨p, 14, none⟩ (.int .i64 x) := ⟨_, rfl⟩
 have hb1 : Blk W1 p 56 (RdV s a n c rv pv tv lv k x pl) := hW1 ▸ hb.set_ 14 _
 have y15 : (w.setCell ⟨p, 14, none⟩ (.int .i64 x)).cell? ⟨p, 15, none⟩ = some (.int .i64 pl) := hW1 ▸ (hb1.cell 15).trans rfl
 have f15 : (w.setCell ⟨p, 14, none⟩ (.int .i64 x)).frozen? ⟨p, 15, none⟩ = false := hW1 ▸ hb1.frozen 15
 have HF : Hid (Frm w ((w.setCell ⟨p, 14, none⟩ (.int .i64 x)).setCell ⟨p, 15, none⟩ (.int .i64 y)) (fun q => q = p)) := Lib.hid (((Frm.refl w (fun q => q = p)).set p 14 _ (.inl rfl)).set p 15 _ (.inl rfl))
 have HB : Hid (Blk ((w.setCell ⟨p, 14, none⟩ (.int .i64 x)).setCell ⟨p, 15, none⟩ (.int .i64 y)) p 56 (RdV s a n c rv pv tv lv k x y)) := Lib.hid ((hb.set_ 14 _).set_ 15 _)
 clear hb hb1 hW1
 go_enter Tryz.func17, Tryz.ntmps17
 go_wp2
 go_end0
 exact ⟨rfl, HF.out, HB.out⟩
end Go.Proofs.YtiheggkkgbfndaaGreatDoor
