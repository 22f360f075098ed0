/- carouselref13.At. -/
import Derived.Test.YtiheggkkgbfndaaGreatDoorJ05
import Derived.Test.YtiheggkkgbfndaaGreatDoorJ02
import Derived.Deep.LoopGhost
import Derived.Deep.DeepMust
import Derived.BigQuiet
import Derived.Laws.IdiomStrings
import Derived.Lib.BufferRead
namespace Go.Proofs.YtiheggkkgbfndaaGreatDoor
open Go.RowKit Go.Joins Go.ChangeShapes Go.WideShapes Go.Deep
set_option linter.unusedVariables false
set_option linter.unusedSimpArgs false
set_option maxRecDepth 100000

theorem value_lo (sh n : Nat) (h : sh < 7) (hn : n < 256 ^ widthF sh) : loF sh ≤ valueF sh n ∧ -9223372036854775808 ≤ valueF sh n ∧ valueF sh n ≤ 9223372036854775807 := by
 match sh, h with
 | 0, _ =>
  have hn' : n < 1 := hn
  simp [loF, valueF]
  omega
 | 1, _ =>
  have hn' : n < 256 := hn
  simp [loF, valueF]
  omega
 | 2, _ =>
  have hn' : n < 65536 := hn
  simp [loF, valueF]
  omega
 | 3, _ =>
  have hn' : n < 18446744073709551616 := hn
  simp [loF, valueF]
  omega
 | 4, _ =>
  have hn' : n < 256 := hn
  simp [loF, valueF]
  omega
 | 5, _ =>
  have hn' : n < 256 := hn
  simp [loF, valueF]
  omega
 | 6, _ =>
  have hn' : n < 65536 := hn
  simp [loF, valueF]
  omega
def opc (o : AOp) : List Value := [.int .i64 o.code, .int .i64 o.operand]
theorem opc_len (o : AOp) : (opc o).length = 2 := rfl
theorem info_op : (Tryz.prog.info? 113).map (fun i => (i.zero, i.size, i.bytes)) = some (some (.agg #[.int .i64 0, .int .i64 0]), 2, 16) := by kernel_rfl
inductive Dec (s : List Nat) : List AOp → Nat → Prop
 | nil : Dec s [] 0
 | snoc {L : List AOp} {p : Nat} {o : AOp} {k : Nat} : Dec s L p → p < s.length → atF s p = some (o, k) → Dec s (L ++ [o]) (p + k)
theorem atF_bound {s : List Nat} {p : Nat} {o : AOp} {k : Nat} (h : atF s p = some (o, k)) : p < s.length ∧ o.code < 41 ∧ k = 1 + widthF (shapeF o.code) ∧ p + k ≤ s.length ∧ fitsF (shapeF o.code) o.operand = true := by
 unfold atF at h
 split at h
 ·rename_i hp
  simp only at h
  split at h
  ·rename_i hc
   split at h
   ·rename_i hw
    split at h
    ·rename_i hf
     injection h with h
     injection h with h1 h2
     subst h1 h2
     exact ⟨hp, hc, rfl, by omega, hf⟩
    ·cases h
   ·cases h
  ·cases h
 ·cases h
theorem Dec.le {s : List Nat} {L : List AOp} {p : Nat} (h : Dec s L p) : p ≤ s.length ∧ L.length ≤ p := by
 induction h with
 | nil => exact ⟨Nat.zero_le _, Nat.le_refl _⟩
 | snoc h1 h2 h3 ih =>
  obtain ⟨_, _, hk, hb, _⟩ := atF_bound h3
  refine ⟨hb, ?_⟩
  rw [List.length_append, List.length_singleton]
  omega
def DecPost (s : ByteArray) (w : World) (e : Ending) (w' : World) : Prop :=
  Below w.heap.size w w' ∧
  ((512 < s.size ∧ e = .returned (.tuple #[.slice none 0 0, .int .i64 2, .int .i64 0])) ∨
   (s.size ≤ 512 ∧ ∃ L p, Dec (bytesL s) L p ∧ p < s.size ∧ atF (bytesL s) p = none ∧ e = .returned (.tuple #[.slice none 0 0, .int .i64 10, .int .i64 p])) ∨
   (s.size ≤ 512 ∧ ∃ L v, Dec (bytesL s) L s.size ∧ w'.ownsRow w.heap.size 113 2 v L.length (rows opc L) ∧ e = .returned (.tuple #[v, .int .i64 0, .int .i64 0])))
theorem ShapesAt.below {w w' : World} {B : Nat} (h : ShapesAt w) (hb : Below B w w') (hB : 1 < B) : ShapesAt w' := ⟨Nat.lt_of_lt_of_le h.lt hb.size, fun c hc => (hb.cell (p := ⟨1, c, none⟩) hB).trans (h.cell c hc)⟩
set_option maxHeartbeats 1000000 in
theorem decode_any (s : ByteArray) (w : World) (hS : ShapesAt w) (hs : s.size ≤ 4611686018427387904) :
  Calls Tryz.prog 63 #[.string s] w (DecPost s w) := by
 by_cases h512 : 512 < s.size
 ·have d1 : decide ((512 : Int) < (s.size : Int)) = true := decide_eq_true (by omega)
  have d2 : decide (512 < s.size) = true := decide_eq_true h512
  have H5 := Lib.hid h512
  clear h512
  go_enter Tryz.func63, Tryz.ntmps63
  go_wp2
  go_ret3
  exact ⟨Below.refl _ _, .inl ⟨H5.out, rfl⟩⟩
 ·have hle : s.size ≤ 512 := by omega
  have d1 : decide ((512 : Int) < (s.size : Int)) = false := decide_eq_false (by omega)
  have d2 : decide (512 < s.size) = false := decide_eq_false h512
  clear h512
  obtain ⟨i0, hi, hz0, hz1, hz2⟩ := info_parts info_op
  go_enter Tryz.func63, Tryz.ntmps63
  go_wp2
  go_loopg [5, 6] s.size (fun gk v i wr => ∃ (L : List AOp) (p : Nat), i = .int .i64 p ∧ gk = s.size - p ∧ Dec (bytesL s) L p ∧ wr.ownsRow w.heap.size 113 2 v L.length (rows opc L) ∧ Below w.heap.size w wr)
  case atStart => exact ⟨[], 0, rfl, rfl, .nil, World.ownsRow_nil _ _ _ _, Below.refl _ _⟩
  case round =>
   obtain ⟨L, p, rfl, hgk, hD, hown, hbel⟩ := hrel
   have HG := Lib.hid hgk
   clear hgk
   have hple := hD.le
   rw [bytesL_length] at hple
   obtain ⟨hpl, hLp⟩ := hple
   have HD := Lib.hid hD
   clear hD
   by_cases hp : p < s.size
   ·have e1 : decide ((p : Int) < (s.size : Int)) = true := decide_eq_true (by omega)
    have e2 : decide (p < s.size) = true := decide_eq_true hp
    have hAT := at_any s p wr (hS.below hbel hS.lt) hs hp
    cases hat : atF (bytesL s) p with
    | none =>
     have HAT := Lib.hid hat
     rw [hat] at hAT
     have HC := Lib.hid hAT
     clear hat hAT
     go_wp2_with (go_at_call 97; refine (HC.out).mono ?_; rintro e w1 ⟨rfl, hb1⟩; simp only [atV])
     go_ret3
     exact ⟨((hbel.trans (hb1.mono hbel.size)).alloc (Nat.le_trans hbel.size hb1.size) _), .inr (.inl ⟨hle, L, p, HD.out, hp, HAT.out, rfl⟩)⟩
    | some r =>
     obtain ⟨⟨c, V⟩, k⟩ := r
     have HAT := Lib.hid hat
     obtain ⟨_, hcl, hk, hkl, _⟩ := atF_bound hat
     rw [bytesL_length] at hkl
     have hk1 : 1 ≤ k := by rw [hk]; omega
     rw [hat] at hAT
     have HC := Lib.hid hAT
     clear hat hAT hk
     have hc2 : ∀ u ∈ ([.int .i64 c, .int .i64 V] : List Value), u.oneCell' = true := (by intro u hu; simp at hu; rcases hu with rfl | rfl <;> rfl)
     have hc3 : L.length + 1 ≤ maxLen := (by unfold maxLen; omega)
     have hc4 : (L.length + 1) * 16 ≤ 140737488355328 := (by omega)
     have HBE := Lib.hid hbel
     have hbs := hbel.size
     clear hbel
     go_upto_region 9 with (go_at_call 97; refine (HC.out).mono ?_; rintro e w1 ⟨rfl, hb1⟩; simp only [atV])
     have hown1 := (own_beb hown hb1).alloc (.cells #[.int .i64 c, .int .i64 V] 113)
     have HB1 := Lib.hid hb1
     have hbz := hb1.size
     clear hb1
     have hc5 : w.heap.size ≤ ((w1.alloc (.cells #[.int .i64 c, .int .i64 V] 113)).alloc (.cells #[.int .i64 c, .int .i64 V] 113)).heap.size := (by simp; omega)
     go_wp2_with (at_builtin; go_must (refine wpList_append_own _ rfl _ _ 108 rfl w.heap.size 113 i0 _ 2 16 Tryz.underlying108 hi hz0 hz1 hz2 rfl (by decide) _ _ _ rfl (hown1.alloc _) ⟨w1.heap.size + 1, 0, none⟩ 1 1 [.int .i64 c, .int .i64 V] rfl rfl (World.news_of_block (cs := #[.int .i64 c, .int .i64 V]) (t := 113) (fr := (0, 0)) (by have := heap_alloc_new (w1.alloc (.cells #[.int .i64 c, .int .i64 V] 113)) (.cells #[.int .i64 c, .int .i64 V] 113); simpa using this)) hc2 hc3 hc4 hc5 ?_; intro v' w2 hown2 hgrow _))
     have hbf : Below w.heap.size w w2 := ((HBE.out.trans (HB1.out.mono hbs)).alloc (by omega) _).alloc (by simp; omega) _ |>.trans (below_grown (hown1.alloc _) hgrow hc5)
     clear hgrow
     go_roundg (s.size - (p + k))
     case measure => have := HG.out; omega
     case rel => exact ⟨L ++ [⟨c, V⟩], p + k, by simp, rfl, HD.out.snoc (by rw [bytesL_length]; exact hp) HAT.out, by rw [List.length_append, rows_snoc]; exact hown2, hbf⟩
   ·have e1 : decide ((p : Int) < (s.size : Int)) = false := decide_eq_false (by omega)
    have e2 : decide (p < s.size) = false := decide_eq_false hp
    have hpe : p = s.size := by omega
    have HPE := Lib.hid hpe
    clear hpe
    go_wp2
    go_ret3
    exact ⟨hbel, .inr (.inr ⟨hle, L, _, HPE.out ▸ HD.out, hown, rfl⟩)⟩
def u64F (v : Int) : Nat := (v % 18446744073709551616).toNat
theorem u64F_lt (v : Int) : u64F v < 18446744073709551616 := by unfold u64F; omega
theorem u64_wrap (v : Int) : IntKind.u64.wrap v = (u64F v : Int) := by
 unfold u64F
 simp [IntKind.wrap, IntKind.bits, IntKind.signed]
 omega
def byteF (v : Int) (k : Nat) : UInt8 := UInt8.ofNat (u64F v / 256 ^ k)
def encB (o : AOp) : List UInt8 := UInt8.ofNat o.code :: (List.range (widthF (shapeF o.code))).map (byteF o.operand)
def byc (l : List UInt8) : List Value := l.map fun b => .int .u8 (b.toNat : Int)
theorem byc_append (l r : List UInt8) : byc (l ++ r) = byc l ++ byc r := by simp [byc]
theorem encB_length (o : AOp) : (encB o).length = 1 + widthF (shapeF o.code) := by simp [encB]; omega
theorem u8_wrap (n : Nat) : IntKind.u8.wrap (n : Int) = ((UInt8.ofNat n).toNat : Int) := by
 simp [IntKind.wrap, IntKind.bits, IntKind.signed, UInt8.toNat_ofNat']
theorem info_u8 : (Tryz.prog.info? 5).map (fun i => (i.zero, i.size, i.bytes)) = some (some (.int .u8 0), 1, 1) := by kernel_rfl
theorem run_bytes_string {w : World} {B n : Nat} {v : Value} {l : List UInt8} (h : w.ownsRow B 5 1 v n (byc l)) (hn : n = l.length) : (convert 73 9 v).run Tryz.prog w = .ok (.string ⟨l.toArray⟩) w := by
 rcases h.2 with ⟨rfl, rfl⟩ | ⟨g, cap, cur, rfl, _, hh, _⟩
 ·have : l = [] := List.eq_nil_of_length_eq_zero hn.symm
  subst this
  exact Go.Lib.run_convert_nil_bytes w _ _ _ _ Tryz.underlying73 Tryz.underlying5 Tryz.underlying9
 ·subst hn
  refine run_convert_bytes_back w _ _ _ _ cap l Tryz.underlying73 Tryz.underlying5 Tryz.underlying9 fun j hj => ?_
  have := h.cells (g := g) rfl j (.int .u8 (l[j].toNat : Int)) (by simp [byc, hj])
  exact this
theorem own_lit1 {w1 : World} {n : Nat} (hs : w1.heap.size = n) {z : Int} {b : UInt8} (h : z = (b.toNat : Int)) : (w1.alloc (.cells #[.int .u8 z] 5)).ownsRow n 5 1 (.slice (some ⟨n, 0, none⟩) 1 1) 1 (byc [b]) := by
 subst hs h
 exact World.ownsRow_lit _ #[.int .u8 (b.toNat : Int)] 1 (Nat.le_refl _) (by unfold maxLen; omega) rfl
set_option maxHeartbeats 1000000 in
theorem bytes_any (o : AOp) (hc : o.code < 41) (w : World) :
  Calls Tryz.prog 115 #[.agg #[.int .i64 o.code, .int .i64 o.operand]] w fun e w' => e = .returned (.string ⟨(encB o).toArray⟩) ∧ Below w.heap.size w w' := by
 obtain ⟨c, v⟩ := o
 simp only at hc ⊢
 have HW := Lib.hid (fun W => rwidth_any c hc W)
 obtain ⟨i0, hi, hz0, hz1, hz2⟩ := info_parts info_u8
 obtain ⟨wd, hwd⟩ : ∃ wd, wd = widthF (shapeF c) := ⟨_, rfl⟩
 have hw8 : wd ≤ 8 := by rw [hwd]; unfold widthF; split <;> (try split) <;> (try split) <;> omega
 have HE : Hid (encB ⟨c, v⟩ = UInt8.ofNat c :: (List.range wd).map (byteF v)) := Lib.hid (by rw [hwd]; rfl)
 rw [← hwd] at HW
 clear hwd
 have HCM : Hid ((c : Int) = ((UInt8.ofNat c).toNat : Int)) := Lib.hid (by simp [UInt8.toNat_ofNat']; omega)
 have hvu := u64_wrap v
 have hvl := u64F_lt v
 go_enter Tryz.func115, Tryz.ntmps115
 go_wp2_with (go_at_call 73; refine (HW.out _).mono ?_; rintro r w1 ⟨hr, hw⟩; subst hr; subst hw)
 go_loopg [3, 4, 6] wd (fun gk bv nv iv wr => ∃ k : Nat, iv = .int .i64 k ∧ k ≤ wd ∧ gk = wd - k ∧ nv = .int .u64 (u64F v / 256 ^ k : Nat) ∧ wr.ownsRow (w.heap.size + 1) 5 1 bv (k + 1) (byc (UInt8.ofNat c :: (List.range k).map (byteF v))) ∧ Below w.heap.size w wr)
 case atStart => exact ⟨0, rfl, Nat.zero_le _, rfl, by rw [Nat.pow_zero, Nat.div_one], own_lit1 (by simp) HCM.out, by repeat (first | with_reducible exact Below.refl _ _ | with_reducible refine Below.drew ?_ | with_reducible refine below_drewN ?_ _ | ((with_reducible refine Below.alloc ?_ ?_ _); (rotate_left; focus (first | with_reducible exact Nat.le_refl _ | omega | (simp; done) | (simp; omega) | (simp [World.setCell]; done) | (simp [World.setCell]; omega)))) | ((with_reducible refine Below.setCell ?_ ?_ _); (rotate_left; focus (first | with_reducible exact Nat.le_refl _ | omega | (simp; done) | (simp; omega) | (simp [World.setCell]; done) | (simp [World.setCell]; omega)))))⟩
 case round =>
  obtain ⟨k, rfl, hk, hgk, rfl, hown, hbel⟩ := hrel
  have HG := Lib.hid hgk
  clear hgk
  have HBE := Lib.hid hbel
  have hbs := hbel.size
  clear hbel
  by_cases hkw : k < wd
  ·have e1 : decide ((k : Int) < (wd : Int)) = true := decide_eq_true (by omega)
   have e2 : decide (k < wd) = true := decide_eq_true hkw
   have hcv : IntKind.u8.wrap ((u64F v / 256 ^ k : Nat) : Int) = ((byteF v k).toNat : Int) := u8_wrap _
   have hXl : u64F v / 256 ^ k ≤ u64F v := Nat.div_le_self _ _
   have HX : Hid (u64F v / 256 ^ k / 256 = u64F v / 256 ^ (k + 1)) := Lib.hid (by rw [Nat.div_div_eq_div_mul, Nat.pow_succ])
   obtain ⟨X, hX⟩ : ∃ X, X = u64F v / 256 ^ k := ⟨_, rfl⟩
   rw [← hX] at hcv hXl HX ⊢
   clear hX
   have hc2 : ∀ u ∈ ([.int .u8 ((byteF v k).toNat : Int)] : List Value), u.oneCell' = true := (by intro u hu; simp at hu; subst hu; rfl)
   have hc3 : k + 1 + 1 ≤ maxLen := (by unfold maxLen; omega)
   have hc4 : (k + 1 + 1) * 1 ≤ 140737488355328 := (by omega)
   have hc5 : w.heap.size + 1 ≤ (wr.alloc (.cells #[.int .u8 ((byteF v k).toNat : Int)] 5)).heap.size := (by simp; omega)
   go_wp2_with (at_builtin; go_must (refine wpList_append_own _ rfl _ _ 73 rfl (w.heap.size + 1) 5 i0 (.int .u8 0) 1 1 Tryz.underlying73 hi hz0 hz1 hz2 rfl (by decide) _ _ _ rfl (hown.alloc _) ⟨wr.heap.size, 0, none⟩ 1 1 [.int .u8 ((byteF v k).toNat : Int)] rfl rfl (cell_one_new _ _ _) hc2 hc3 hc4 hc5 ?_; intro v' w1 hown' hgrow _))
   have hbf : Below w.heap.size w w1 := (HBE.out.alloc hbs _).trans ((below_grown (hown.alloc _) hgrow hc5).mono (by omega))
   clear hgrow
   go_roundg (wd - (k + 1))
   case measure => have := HG.out; omega
   case rel => exact ⟨k + 1, by simp, by omega, rfl, by rw [← HX.out]; simp, by
    have := hown'
    rw [List.range_succ, List.map_append, ← List.cons_append, byc_append]
    exact this, hbf⟩
  ·obtain rfl : k = wd := by omega
   have e1 : decide ((k : Int) < (k : Int)) = false := decide_eq_false (by omega)
   have hrun := run_bytes_string hown (by simp)
   rw [← HE.out] at hrun
   go_wp2
   go_ret
   exact ⟨rfl, HBE.out⟩
end Go.Proofs.YtiheggkkgbfndaaGreatDoor
