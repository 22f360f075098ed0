/- code.Encode. -/
import Derived.Test.YthghnihlfdoefaaDoorAh
namespace Go.Proofs.YthghnihlfdoefaaDoor
open Go.RowKit Go.Joins Go.ChangeShapes Go.WideShapes Go.Deep
set_option linter.unusedVariables false
set_option linter.unusedSimpArgs false
set_option maxRecDepth 100000

def bytesOf (L : List AOp) : List UInt8 := L.flatMap encB
theorem bytesOf_take (L : List AOp) (i : Nat) (h : i < L.length) : bytesOf (L.take (i + 1)) = bytesOf (L.take i) ++ encB L[i] := by
  unfold bytesOf
  rw [List.take_succ_eq_append_getElem h, List.flatMap_append, List.flatMap_cons, List.flatMap_nil, List.append_nil]
theorem bytesOf_le (L : List AOp) (i : Nat) : (bytesOf (L.take i)).length ≤ (bytesOf L).length := by
  have h : bytesOf L = bytesOf (L.take i) ++ bytesOf (L.drop i) := by
    unfold bytesOf
    rw [← List.flatMap_append, List.take_append_drop]
  rw [h, List.length_append]
  omega
theorem opc_at (L : List AOp) (i : Nat) (h : i < L.length) : (rows opc L)[i * 2]? = some (.int .i64 (L[i]).code) ∧ (rows opc L)[i * 2 + 1]? = some (.int .i64 (L[i]).operand) :=
  ⟨by have := rows_at opc 2 opc_len L i 0 h (by omega); simpa [opc] using this, by have := rows_at opc 2 opc_len L i 1 h (by omega); simpa [opc] using this⟩
theorem shr_byte (v : Int) (k : Nat) : IntKind.u8.wrap ((u64F v : Int) / 2 ^ (8 * k)) = ((byteF v k).toNat : Int) := by
  have e : ((u64F v : Int) / 2 ^ (8 * k)) = ((u64F v / 256 ^ k : Nat) : Int) := by
    have : (256 : Nat) ^ k = 2 ^ (8 * k) := by rw [Nat.pow_mul]
    rw [this]
    simp
  rw [e]
  exact u8_wrap _
set_option maxHeartbeats 2000000 in
theorem enc_ok (L : List AOp) (A : Option Addr) (n c : Nat) (w : World) (hS : ShapesAt w) (hA : Reads w w.heap.size 2 A n (rows opc L)) (hn : n ≤ 512)
    (hL : ∀ o ∈ L, o.code < 41 ∧ fitsF (shapeF o.code) o.operand = true) (ht : (bytesOf L).length ≤ 512) :
    Calls Tryd.prog 33 #[.slice A n c] w fun e w' => e = .returned (.tuple #[.string ⟨(bytesOf L).toArray⟩, .int .i64 0, .int .i64 0]) ∧ Below w.heap.size w w' := by
  have hlen : L.length = n := by have := hA.1; rw [rows_length opc 2 opc_len] at this; omega
  have HL := Lib.hid hlen
  clear hlen
  have HLL := Lib.hid hL
  clear hL
  obtain ⟨i0, hi, hz0, hz1, hz2⟩ := info_parts info_u8
  have HT := Lib.hid ht
  clear ht
  have hlt := hS.lt
  go_enter Tryd.func33, Tryd.ntmps33
  go_wp2_with fail
  go_loopg [5, 12] n (fun gk bv iv wr => ∃ i : Nat, iv = .int .i64 i ∧ i ≤ n ∧ gk = n - i ∧ wr.ownsRow w.heap.size 5 1 bv (bytesOf (L.take i)).length (byc (bytesOf (L.take i))) ∧ Below w.heap.size w wr)
  case atStart => exact ⟨0, rfl, Nat.zero_le _, rfl, World.ownsRow_nil _ _ _ _, Below.refl _ _⟩
  case round =>
    obtain ⟨i, rfl, hi1, hgk, hown, hbel⟩ := hrel
    have HG := Lib.hid hgk
    clear hgk
    by_cases hin : i < n
    · have e1 : decide ((i : Int) < (n : Int)) = true := decide_eq_true (by omega)
      have e2 : decide (i < n) = true := decide_eq_true hin
      obtain ⟨b, off, rfl, hb, hc⟩ := reads_flat (hA.below hbel) (by omega) (by omega)
      have hil : i < L.length := by rw [HL.out]; exact hin
      obtain ⟨p0, p1⟩ := opc_at L i hil
      obtain ⟨hcl, hfit⟩ := HLL.out L[i] (List.getElem_mem hil)
      have hbt := bytesOf_take L i hil
      have hble := bytesOf_le L (i + 1)
      obtain ⟨⟨co, v⟩, ho⟩ : ∃ o, o = L[i] := ⟨_, rfl⟩
      rw [← ho] at p0 p1 hcl hfit hbt
      have cx0 : wr.cell? ⟨b, off + i * 2, none⟩ = some (.int .i64 co) := hc _ _ p0
      have cx1 : wr.cell? ⟨b, off + i * 2 + 1, none⟩ = some (.int .i64 v) := hc _ _ p1
      simp only at hcl hfit
      have HSA : ShapesAt wr := hS.below hbel hS.lt
      have hlt2 := HSA.lt
      have hsh := HSA.cell co hcl
      have h7 : shapeF co < 7 := by rcases shape_cases co hcl with h | h | h | h | h | h | h <;> omega
      obtain ⟨sh, hshh⟩ : ∃ sh, sh = shapeF co := ⟨_, rfl⟩
      rw [← hshh] at hsh h7 hfit
      have HW := Lib.hid (fun W => width_any sh h7 W)
      have HF0 : ∀ W, Calls Tryd.prog 51 #[.int .u8 sh, .int .i64 v] W fun r w' => r = .returned (.bool true) ∧ w' = W := fun W => (fits_any sh h7 v W).mono fun r w' h => ⟨by rw [h.1, hfit], h.2⟩
      have HF := Lib.hid HF0
      obtain ⟨wd, hwd⟩ : ∃ wd, wd = widthF sh := ⟨_, rfl⟩
      have hw8 : wd ≤ 8 := by rw [hwd]; unfold widthF; split <;> (try split) <;> (try split) <;> omega
      rw [← hwd] at HW
      have hencl : encB ⟨co, v⟩ = UInt8.ofNat co :: (List.range wd).map (byteF v) := by rw [hwd, hshh]; rfl
      have d0 : decide ((co : Int) < 0) = false := decide_eq_false (by omega)
      have d1 : decide ((41 : Int) ≤ (co : Int)) = false := decide_eq_false (by omega)
      have d2 : decide (41 ≤ co) = false := decide_eq_false (by omega)
      have hcu : IntKind.u8.wrap (co : Int) = ((UInt8.ofNat co).toNat : Int) := u8_wrap co
      have hvu := u64_wrap v
      have hvl := u64F_lt v
      obtain ⟨pre, hpre⟩ : ∃ pre, pre = bytesOf (L.take i) := ⟨_, rfl⟩
      rw [← hpre] at hown hbt
      have hpl : pre.length + 1 + wd ≤ 512 := by
        have := HT.out
        rw [hbt, List.length_append, hencl] at hble
        simp at hble
        omega
      have HBT := Lib.hid hbt
      have HEN := Lib.hid hencl
      have HBE := Lib.hid hbel
      have hbs := hbel.size
      clear hc p0 p1 hfit hbt hble ho hshh HF0 hwd hencl hpre hbel HSA
      have hc2 : ∀ u ∈ ([.int .u8 ((UInt8.ofNat co).toNat : Int)] : List Value), u.oneCell' = true := (by intro u hu; simp at hu; subst hu; rfl)
      have hc3 : pre.length + 1 ≤ maxLen := (by unfold maxLen; omega)
      have hc4 : (pre.length + 1) * 1 ≤ 140737488355328 := (by omega)
      have hown1 := (hown.alloc (.cells #[.int .i64 co, .int .i64 v] 36)).alloc (.cells #[.int .u8 ((UInt8.ofNat co).toNat : Int)] 5)
      have hc5 : w.heap.size ≤ ((wr.alloc (.cells #[.int .i64 co, .int .i64 v] 36)).alloc (.cells #[.int .u8 ((UInt8.ofNat co).toNat : Int)] 5)).heap.size := (by simp; omega)
      go_upto_region 11 with (first
        | (go_at_call 51; refine (HF.out _).mono ?_; rintro r w1 ⟨hr, hw⟩; subst hr; subst hw)
        | (at_builtin; go_must (refine wpList_append_own _ rfl (.tmp 36) (.tmp 40) 42 rfl w.heap.size 5 i0 (.int .u8 0) 1 1 Tryd.underlying42 hi hz0 hz1 hz2 rfl (by decide) _ _ _ rfl hown1 ⟨wr.heap.size + 1, 0, none⟩ 1 1 [.int .u8 ((UInt8.ofNat co).toNat : Int)] rfl rfl (World.news_of_block (cs := #[.int .u8 ((UInt8.ofNat co).toNat : Int)]) (t := 5) (fr := (0, 0)) (by have := heap_alloc_new (wr.alloc (.cells #[.int .i64 co, .int .i64 v] 36)) (.cells #[.int .u8 ((UInt8.ofNat co).toNat : Int)] 5); simpa using this)) hc2 hc3 hc4 hc5 ?_; intro v' w2 hown2 hgrow2 _)))
      have hB2 : Blk w2 wr.heap.size 36 #[.int .i64 co, .int .i64 v] := ((Blk.new wr _ _).alloc _).grown hgrow2 (fun hh => own_ne_blk hown1 ((Blk.new wr _ _).alloc _) (by decide) hh.symm)
      have hb2 : Below w.heap.size w w2 := ((HBE.out.alloc hbs _).alloc (by simp; omega) _).trans (below_grown hown1 hgrow2 hc5)
      clear hgrow2 hown1 hc2 hc3 hc4 hc5 cx0 cx1 hsh hown
      have HB2 := Lib.hid hb2
      have hbs2 := hb2.size
      clear hb2
      obtain ⟨gb, hgb⟩ : ∃ gb, gb = wr.heap.size := ⟨_, rfl⟩
      rw [← hgb] at hB2 ⊢
      have HGB := Lib.hid hgb
      clear hgb
      go_wp2_with (go_at_call 52; refine (HW.out _).mono ?_; rintro r w1 ⟨hr, hw⟩; subst hr; subst hw)
      obtain ⟨wo, rfl⟩ : ∃ wo, wo = wr := ⟨_, rfl⟩
      go_loopg [5, 9, 44] wd (fun gk bv _ kv W => ∃ k : Nat, kv = .int .i64 k ∧ k ≤ wd ∧ gk = wd - k ∧ W.ownsRow w.heap.size 5 1 bv (pre.length + 1 + k) (byc (pre ++ UInt8.ofNat co :: (List.range k).map (byteF v))) ∧ Blk W gb 36 #[.int .i64 co, .int .i64 v] ∧ Below w.heap.size w W)
      case atStart => exact ⟨0, rfl, Nat.zero_le _, rfl, by rw [byc_append]; exact hown2, hB2, HB2.out⟩
      case round =>
        obtain ⟨k, rfl, hk, hgk, howk, hBk, hbk⟩ := hrel
        have HGK := Lib.hid hgk
        clear hgk
        have HBK := Lib.hid hbk
        have hbks := hbk.size
        clear hbk
        have x0 : wr.cell? ⟨gb, 0, none⟩ = some (.int .i64 co) := (hBk.cell 0).trans rfl
        have x1 : wr.cell? ⟨gb, 1, none⟩ = some (.int .i64 v) := (hBk.cell 1).trans rfl
        have hgl := hBk.lt
        by_cases hkw : k < wd
        · have f1 : decide ((k : Int) < (wd : Int)) = true := decide_eq_true (by omega)
          have f2 : decide (k < wd) = true := decide_eq_true hkw
          have hsb := shr_byte v k
          obtain ⟨y, hy⟩ : ∃ y, y = byteF v k := ⟨_, rfl⟩
          rw [← hy] at hsb
          have HY := Lib.hid hy
          clear hy
          have hc2 : ∀ u ∈ ([.int .u8 (y.toNat : Int)] : List Value), u.oneCell' = true := (by intro u hu; simp at hu; subst hu; rfl)
          have hc3 : pre.length + 1 + k + 1 ≤ maxLen := (by unfold maxLen; omega)
          have hc4 : (pre.length + 1 + k + 1) * 1 ≤ 140737488355328 := (by omega)
          have hown1 := howk.alloc (.cells #[.int .u8 (y.toNat : Int)] 5)
          have hc5 : w.heap.size ≤ (wr.alloc (.cells #[.int .u8 (y.toNat : Int)] 5)).heap.size := (by simp; omega)
          go_wp2_with (at_builtin; go_must (refine wpList_append_own _ rfl _ _ 42 rfl w.heap.size 5 i0 (.int .u8 0) 1 1 Tryd.underlying42 hi hz0 hz1 hz2 rfl (by decide) _ _ _ rfl hown1 ⟨wr.heap.size, 0, none⟩ 1 1 [.int .u8 (y.toNat : Int)] rfl rfl (cell_one_new _ _ _) hc2 hc3 hc4 hc5 ?_; intro v' w3 hown3 hgrow3 _))
          have hB3 : Blk w3 gb 36 #[.int .i64 co, .int .i64 v] := (hBk.alloc _).grown hgrow3 (fun hh => own_ne_blk hown1 (hBk.alloc _) (by decide) hh.symm)
          have hb3 : Below w.heap.size w w3 := (HBK.out.alloc hbks _).trans (below_grown hown1 hgrow3 hc5)
          clear hgrow3
          go_roundg (wd - (k + 1))
          case measure => have := HGK.out; omega
          case rel => exact ⟨k + 1, by simp, by omega, rfl, by
            have := hown3
            rw [List.range_succ, List.map_append, ← List.cons_append, ← List.append_assoc, byc_append _ (List.map _ [k]), List.map_cons, List.map_nil, ← HY.out]
            exact this, hB3, hb3⟩
        · obtain rfl : k = wd := by omega
          have f1 : decide ((k : Int) < (k : Int)) = false := decide_eq_false (by omega)
          obtain ⟨R, c3, rfl, _, _⟩ := own_shapes howk
          have f2 : decide ((512 : Int) < ((pre.length + 1 + k : Nat) : Int)) = false := decide_eq_false (by omega)
          have f3 : decide (512 < pre.length + 1 + k) = false := decide_eq_false (by omega)
          have f4 : decide ((512 : Int) < (pre.length : Int) + 1 + (k : Int)) = false := decide_eq_false (by omega)
          go_wp2_with fail
          go_roundg (n - (i + 1))
          case measure => have := HG.out; omega
          case rel => exact ⟨i + 1, by simp, by omega, rfl, by
            rw [HBT.out, HEN.out, List.length_append, List.length_cons, List.length_map, List.length_range]
            rw [show pre.length + (k + 1) = pre.length + 1 + k by omega]
            exact howk, HBK.out⟩
    · obtain rfl : i = n := by omega
      have e1 : decide ((i : Int) < (i : Int)) = false := decide_eq_false (by omega)
      have htk : L.take i = L := List.take_of_length_le (by rw [HL.out]; exact Nat.le_refl _)
      rw [htk] at hown
      have hrun := run_bytes_string hown rfl
      clear htk
      go_wp2
      go_ret3
      exact ⟨rfl, hbel⟩
end Go.Proofs.YthghnihlfdoefaaDoor
