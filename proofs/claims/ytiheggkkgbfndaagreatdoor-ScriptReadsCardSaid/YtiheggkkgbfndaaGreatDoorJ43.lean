/- script.row, script.lined: walked. -/
import Derived.Test.YtiheggkkgbfndaaGreatDoorJ42
namespace Go.Proofs.YtiheggkkgbfndaaGreatDoor
open Go.RowKit Go.Joins Go.ChangeShapes Go.WideShapes Go.Deep
set_option linter.unusedVariables false
set_option linter.unusedSimpArgs false
set_option maxRecDepth 100000
theorem i64_cells {W : World} {C n : Nat} {R : Option Addr} {l : List Int} (h : Reads W C 1 R n (rows i64C l)) (hl : l.length = n) (hn : 0 < n) :
  ∃ b off, R = some ⟨b, off, none⟩ ∧ b < C ∧ ∀ (i : Nat) x, l[i]? = some x → W.cell? ⟨b, off + i, none⟩ = some (.int .i64 x) := list_cells (α := Int) (enc := i64C) (l := l) (f := fun x => .int .i64 x) h (fun _ => rfl) hl hn
theorem sum_text (q l : ByteArray) (h : q.size + l.size ≤ 9223372036854775807) : ∃ r : ByteArray, r.data.toList = q.data.toList ++ l.data.toList ∧ ∀ W, (Op.stringOp .add q l).run Tryz.prog W = .ok (.string r) W :=
 ⟨q ++ l, by rw [ByteArray.data_append, Array.toList_append], fun W => run_string_add_sum (P := Tryz.prog) W q l h⟩
theorem size_list (t : ByteArray) : t.size = t.data.toList.length := by
 rw [Array.length_toList]
 rfl
theorem row_step (L : List Int) (i : Nat) (v : Int) (h : L[i]? = some v) (word t a r : ByteArray) (ht : t.data.toList = word.data.toList ++ (L.take i).flatMap fun n => 32 :: Go.Lib.itoa n) (ha : a.data.toList = [32] ++ Go.Lib.itoa v) (hr : r.data.toList = t.data.toList ++ a.data.toList) :
  r.data.toList = word.data.toList ++ (L.take (i + 1)).flatMap fun n => 32 :: Go.Lib.itoa n := by
 rw [List.take_add_one, h, hr, ha, ht]
 simp
theorem row_end (L : List Int) (n : Nat) (h : L.length = n) (word t r : ByteArray) (ht : t.data.toList = word.data.toList ++ (L.take n).flatMap fun n => 32 :: Go.Lib.itoa n) (hr : r.data.toList = t.data.toList ++ [10]) :
  r = ⟨(rowT word.data.toList L).toArray⟩ := by
 have : r.data = (rowT word.data.toList L).toArray := by
  apply Array.toList_inj.1
  rw [← h, List.take_length] at ht
  rw [hr, ht]
  simp [rowT]
 cases r with
 | mk d => rw [← this]
set_option maxHeartbeats 2000000 in
theorem row_any {B : Nat} (word : ByteArray) (L : List Int) (n c C : Nat) (A : Option Addr) (w : World) (hE : EnvIn B w) (hl : L.length = n) (hsz : word.size + 22 * n + 1 ≤ 9223372036854775807) (hC : C ≤ w.heap.size) (h64 : ∀ v ∈ L, i64ok v) (hA : Reads w C 1 A n (rows i64C L)) :
  Calls Tryz.prog 31 #[.string word, .slice A n c] w fun e w' => e = .returned (.string ⟨(rowT word.data.toList L).toArray⟩) ∧ Below w.heap.size w w' := by
 have HA : Hid (∀ i, i < n → ∃ (b off : Nat) (v : Int), A = some ⟨b, off, none⟩ ∧ b < w.heap.size ∧ L[i]? = some v ∧ i64ok v ∧ ∀ W, Below w.heap.size w W → W.cell? ⟨b, off + i, none⟩ = some (.int .i64 v)) := Lib.hid fun i hi => by
  obtain ⟨v, hv⟩ : ∃ v, L[i]? = some v := ⟨_, List.getElem?_eq_getElem (by omega)⟩
  obtain ⟨b, off, h1, h2, _⟩ := i64_cells (hA.more hC) hl (by omega)
  refine ⟨b, off, v, h1, h2, hv, h64 v (List.mem_of_getElem? hv), fun W hW => ?_⟩
  obtain ⟨b', off', h1', _, h3'⟩ := i64_cells ((hA.more hC).below hW) hl (by omega)
  rw [h1] at h1'
  injection h1' with e
  injection e with e1 e2
  rw [e1, e2]
  exact h3' i v hv
 have HE := Lib.hid hE
 have HSZ := Lib.hid hsz
 have hn9 : n ≤ 9223372036854775807 := by omega
 clear hsz
 have HL := Lib.hid hl
 clear hA h64 hC hl hE
 go_enter Tryz.func31, Tryz.ntmps31
 go_upto_region 2 with fail
 go_loopg [9, 0, 6] n (fun gk iv sv _ W => ∃ (i : Nat) (t : ByteArray), iv = .int .i64 i ∧ i ≤ n ∧ gk + i = n ∧ sv = .string t ∧ Hid (t.data.toList = word.data.toList ++ (L.take i).flatMap fun n => 32 :: Go.Lib.itoa n) ∧ Hid (t.size ≤ word.size + 22 * i) ∧ Hid (Below w.heap.size w W))
 case atStart => exact ⟨0, word, rfl, Nat.zero_le _, rfl, rfl, Lib.hid (by simp), Lib.hid (Nat.le_refl _), Lib.hid (Below.refl _ _)⟩
 case round =>
  obtain ⟨i, t, rfl, hi, hgk, rfl, HT, HTS, HB⟩ := hrel
  have HG := Lib.hid hgk
  clear hgk
  by_cases hil : i < n
  ·have e1 : decide ((i : Int) < (n : Int)) = true := decide_eq_true (by omega)
   have e2 : decide (i < n) = true := decide_eq_true hil
   have e3 : (i : Int) < (n : Int) := by omega
   have zw : IntKind.i64.wrap ((i : Int) + 1) = (i : Int) + 1 := by rw [IntKind.wrap_i64]; omega
   obtain ⟨b, off, v, rfl, hb, hv, h6, hc⟩ := HA.out i hil
   have c1 := hc wr HB.out
   have hbr : b < wr.heap.size := Nat.lt_of_lt_of_le hb HB.out.size
   have HFI := Lib.hid (formatInt_any (HE.out.below HB.out HE.out.1) v h6)
   have HV := Lib.hid hv
   obtain ⟨sv, hsv⟩ : ∃ sv : ByteArray, sv = ⟨(Go.Lib.itoa v).toArray⟩ := ⟨_, rfl⟩
   rw [← hsv] at HFI
   have h21 := itoa_len v h6
   have hsz1 : sv.size = (Go.Lib.itoa v).length := by rw [hsv, size_list]
   have hsz2 : (⟨#[32]⟩ : ByteArray).size = 1 := rfl
   have hts := HTS.out
   have htz := HSZ.out
   obtain ⟨a, ha, ga⟩ := sum_text ⟨#[32]⟩ sv (by omega)
   have hza : a.size = 1 + sv.size := by rw [size_list a, ha, List.length_append, ← size_list, ← size_list sv, hsz2]
   obtain ⟨r, hr, gr⟩ := sum_text t a (by omega)
   have hzr : r.size = t.size + a.size := by rw [size_list r, hr, List.length_append, ← size_list, ← size_list]
   have HRT : Hid (r.data.toList = word.data.toList ++ (L.take (i + 1)).flatMap fun n => 32 :: Go.Lib.itoa n) := Lib.hid (row_step L i v hv word t a r HT.out (by rw [ha, hsv]) hr)
   have HRS : Hid (r.size ≤ word.size + 22 * (i + 1)) := Lib.hid (by omega)
   clear hts htz hza hzr hsz1 hsz2 h21 ha hr
   clear hc hv h6 hsv HV
   go_upto_region 4 with fail
   go_upto_region 5 with (go_at_call 70; refine (HFI.out).mono ?_; rintro e w2 ⟨rfl, hb2⟩)
   have HB2 := Lib.hid hb2
   clear hb2 c1
   go_wp2
   go_roundg (n - (i + 1))
   case measure => have := HG.out; omega
   case rel => exact ⟨i + 1, _, by simp, by omega, by omega, rfl, HRT, HRS, Lib.hid (HB.out.trans (HB2.out.mono HB.out.size))⟩
  ·have e1 : decide ((i : Int) < (n : Int)) = false := decide_eq_false (by omega)
   have e2 : decide (i < n) = false := decide_eq_false hil
   have hie : i = n := by omega
   have HT' : Hid (t.data.toList = word.data.toList ++ (L.take n).flatMap fun n => 32 :: Go.Lib.itoa n) := Lib.hid (by rw [← hie]; exact HT.out)
   have hts := HTS.out
   have htz := HSZ.out
   have hsz2 : (⟨#[10]⟩ : ByteArray).size = 1 := rfl
   obtain ⟨r, hr, gr⟩ := sum_text t ⟨#[10]⟩ (by omega)
   have HR := Lib.hid (row_end L n HL.out word t r HT'.out hr)
   clear hie hts htz hsz2 hr
   go_wp2
   go_ret
   exact ⟨by rw [HR.out]; rfl, HB.out⟩
def rlC (x : RLine × Value) : List Value := [.int .i64 x.1.kind, x.2]
structure RLinesRd (W : World) (C : Nat) (l : List RLine) (lv : Value) : Prop where
 le : l.length ≤ 9223372036854775807
 rd : ∃ R c vs, lv = .slice R l.length c ∧ vs.length = l.length ∧ Reads W C 2 R l.length (rows rlC (l.zip vs)) ∧ ∀ (i : Nat) x v, l[i]? = some x → vs[i]? = some v → ListRd W C i64C x.thr v
theorem RLinesRd.below {W W' : World} {C : Nat} {l : List RLine} {lv : Value} (h : RLinesRd W C l lv) (hb : Below C W W') : RLinesRd W' C l lv := by
 obtain ⟨h0, R, c, vs, h1, h2, h3, h4⟩ := h
 exact ⟨h0, R, c, vs, h1, h2, h3.below hb, fun i x v hx hv => (h4 i x v hx hv).below hb⟩
theorem RLinesRd.more {W : World} {C C' : Nat} {l : List RLine} {lv : Value} (h : RLinesRd W C l lv) (hC : C ≤ C') : RLinesRd W C' l lv := by
 obtain ⟨h0, R, c, vs, h1, h2, h3, h4⟩ := h
 exact ⟨h0, R, c, vs, h1, h2, h3.more hC, fun i x v hx hv => (h4 i x v hx hv).more hC⟩
theorem rline_cells {W : World} {C n : Nat} {R : Option Addr} {l : List RLine} {vs : List Value} (h : Reads W C 2 R n (rows rlC (l.zip vs))) (hv : vs.length = l.length) (hl : l.length = n) (hn : 0 < n) :
  ∃ b off, R = some ⟨b, off, none⟩ ∧ b < C ∧ ∀ (i : Nat) x v, l[i]? = some x → vs[i]? = some v → W.cell? ⟨b, off + i * 2, none⟩ = some (.int .i64 x.kind) ∧ W.cell? ⟨b, off + i * 2 + 1, none⟩ = some v := by
 obtain ⟨b, off, rfl, hb, hc⟩ := reads_flat h hn (by omega)
 refine ⟨b, off, rfl, hb, fun i x v hx hvx => ?_⟩
 have hzi : (l.zip vs)[i]? = some (x, v) := by
  rw [List.getElem?_zip_eq_some]
  exact ⟨hx, hvx⟩
 have hil : i < (l.zip vs).length := (List.getElem?_eq_some_iff.1 hzi).1
 have hze : (l.zip vs)[i] = (x, v) := (List.getElem?_eq_some_iff.1 hzi).2
 have h0 := rows_at rlC 2 (fun _ => rfl) (l.zip vs) i 0 hil (by omega)
 have h1 := rows_at rlC 2 (fun _ => rfl) (l.zip vs) i 1 hil (by omega)
 rw [hze] at h0 h1
 exact ⟨by have := hc (i * 2 + 0) _ h0; simpa using this, by have := hc (i * 2 + 1) _ h1; simpa [Nat.add_assoc] using this⟩
def LineCells (w : World) (R : Option Addr) (l : List RLine) (n : Nat) : Prop := ∀ i, i < n → ∃ (b off : Nat) (x : RLine) (Q : Option Addr) (m q : Nat), R = some ⟨b, off, none⟩ ∧ b < w.heap.size ∧ l[i]? = some x ∧ x.thr.length = m ∧ m ≤ 9223372036854775807 ∧ Reads w w.heap.size 1 Q m (rows i64C x.thr) ∧ (∀ W, Below w.heap.size w W → W.cell? ⟨b, off + i * 2, none⟩ = some (.int .i64 x.kind) ∧ W.cell? ⟨b, off + i * 2 + 1, none⟩ = some (.slice Q m q)) ∧ ∀ j, j < m → ∃ (d o : Nat) (t : Int), Q = some ⟨d, o, none⟩ ∧ d < w.heap.size ∧ x.thr[j]? = some t ∧ ∀ W, Below w.heap.size w W → W.cell? ⟨d, o + j, none⟩ = some (.int .i64 t)
theorem line_all {w : World} {C n c : Nat} {R : Option Addr} {l : List RLine} (hC : C ≤ w.heap.size) (hL : RLinesRd w C l (.slice R n c)) (hn : l.length = n) : LineCells w R l n := by
 obtain ⟨hle, R', c', vs, he, hvl, hR, hT⟩ := hL.more hC
 injection he with e1 e2 e3
 subst e1
 intro i hi
 obtain ⟨b, off, rfl, hb, hc⟩ := rline_cells hR hvl rfl (by omega)
 obtain ⟨x, hx⟩ : ∃ x, l[i]? = some x := ⟨_, List.getElem?_eq_getElem (by omega)⟩
 obtain ⟨v, hv⟩ : ∃ v, vs[i]? = some v := ⟨_, List.getElem?_eq_getElem (by omega)⟩
 obtain ⟨Q, q, rfl, hm, hQ⟩ := hT i x v hx hv
 refine ⟨b, off, x, Q, x.thr.length, q, rfl, hb, hx, rfl, hm, hQ, fun W hW => ⟨(hW.cell hb).trans (hc i x _ hx hv).1, (hW.cell hb).trans (hc i x _ hx hv).2⟩, fun j hj => ?_⟩
 obtain ⟨d, o, rfl, hd, hcd⟩ := i64_cells hQ rfl (by omega)
 obtain ⟨t, ht⟩ : ∃ t, x.thr[j]? = some t := ⟨_, List.getElem?_eq_getElem (by omega)⟩
 exact ⟨d, o, t, rfl, hd, ht, fun W hW => (hW.cell hd).trans (hcd j t ht)⟩
theorem many_take (l : List RLine) (i : Nat) (x : RLine) (h : l[i]? = some x) : manyR (l.take (i + 1)) = manyR (l.take i) + x.thr.length := by
 unfold manyR
 rw [List.take_add_one, h]
 simp
theorem many_le (l : List RLine) : ∀ i, manyR (l.take i) ≤ manyR l := by
 unfold manyR
 intro i
 have h : (l.map fun x => x.thr.length).sum = ((l.take i).map fun x => x.thr.length).sum + ((l.drop i).map fun x => x.thr.length).sum := by
  rw [← List.sum_append, ← List.map_append, List.take_append_drop]
 omega
theorem take_all {α : Type} {p : α → Prop} {l : List α} {i : Nat} {x : α} (h : ∀ y ∈ l.take i, p y) (hx : l[i]? = some x) (hp : p x) : ∀ y ∈ l.take (i + 1), p y := by
 rw [List.take_add_one, hx]
 intro y hy
 rcases List.mem_append.1 hy with hy | hy
 ·exact h y hy
 ·have : y = x := by simpa using hy
  rw [this]
  exact hp
theorem lined_no {l : List RLine} {i : Nat} {x : RLine} (hx : l[i]? = some x) (h : ¬ lineR x) : decide (linedR l) = false := decide_eq_false fun hl => h (hl.1 x (List.mem_of_getElem? hx))
set_option maxHeartbeats 4000000 in
theorem lined_any (l : List RLine) (C : Nat) (lv : Value) (w : World) (hC : C ≤ w.heap.size) (hm : manyR l ≤ 9223372036854775807) (hL : RLinesRd w C l lv) :
  Calls Tryz.prog 27 #[lv] w fun e w' => e = .returned (.bool (decide (linedR l))) ∧ Below w.heap.size w w' := by
 obtain ⟨R, c, rfl⟩ : ∃ R c, lv = .slice R l.length c := by obtain ⟨_, R, c, _, h, _⟩ := hL; exact ⟨R, c, h⟩
 obtain ⟨n, hn⟩ : ∃ n, n = l.length := ⟨_, rfl⟩
 have hn9 : n ≤ 9223372036854775807 := hn ▸ hL.le
 rw [← hn] at hL ⊢
 have HLC := Lib.hid (line_all hC hL hn.symm)
 have HN := Lib.hid hn
 have HM := Lib.hid hm
 clear hn hm hL hC
 go_enter Tryz.func27, Tryz.ntmps27
 go_upto_region 3 with fail
 go_loopg [10, 3] n (fun gk iv sv W => ∃ i : Nat, iv = .int .i64 i ∧ i ≤ n ∧ gk + i = n ∧ sv = .int .i64 (manyR (l.take i) : Int) ∧ Hid (∀ x ∈ l.take i, lineR x) ∧ Hid (Below w.heap.size w W))
 case atStart => exact ⟨0, rfl, Nat.zero_le _, rfl, rfl, Lib.hid (by intro x hx; simp at hx), Lib.hid (Below.refl _ _)⟩
 case round =>
  obtain ⟨i, rfl, hi, hgk, rfl, HALL, HB⟩ := hrel
  have HG := Lib.hid hgk
  clear hgk
  obtain ⟨sm, hsm⟩ : ∃ sm, sm = manyR (l.take i) := ⟨_, rfl⟩
  rw [← hsm]
  have HSM := Lib.hid hsm
  clear hsm
  by_cases hil : i < n
  ·have e1 : decide ((i : Int) < (n : Int)) = true := decide_eq_true (by omega)
   have e2 : decide (i < n) = true := decide_eq_true hil
   have e3 : (i : Int) < (n : Int) := by omega
   have zw : IntKind.i64.wrap ((i : Int) + 1) = (i : Int) + 1 := by rw [IntKind.wrap_i64]; omega
   obtain ⟨b, off, ⟨kd, thr⟩, Q, m, q, rfl, hb, hx, hxl, hm9, _, hc, hj⟩ := HLC.out i hil
   simp only at hxl hc hj
   have hsum : sm + m ≤ 9223372036854775807 := by
    have h1 := many_take l i _ hx
    have h2 := many_le l (i + 1)
    have h3 := HM.out
    have h4 := HSM.out
    simp only at h1
    omega
   have HSUM : Hid (sm + m = manyR (l.take (i + 1))) := Lib.hid (by rw [many_take l i _ hx, HSM.out, ← hxl])
   have zs : IntKind.i64.wrap ((sm : Int) + (m : Int)) = ((sm + m : Nat) : Int) := by rw [IntKind.wrap_i64]; omega
   have c1 := (hc wr HB.out).1
   have c2 := (hc wr HB.out).2
   have hbr : b < wr.heap.size := Nat.lt_of_lt_of_le hb HB.out.size
   have HX := Lib.hid hx
   have HXL := Lib.hid hxl
   have HJ := Lib.hid hj
   obtain ⟨w5, hw5⟩ : ∃ w5, w5 = wr.alloc (.cells #[.int .i64 kd, .slice Q m q] 49) := ⟨_, rfl⟩
   obtain ⟨b5, hb5⟩ : ∃ b5, b5 = wr.heap.size := ⟨_, rfl⟩
   have HK5 : Hid (Blk w5 b5 49 #[.int .i64 kd, .slice Q m q]) := Lib.hid (by rw [hw5, hb5]; exact Blk.new _ _ _)
   have HB5 : Hid (Below w.heap.size w w5) := Lib.hid (HB.out.trans (hw5 ▸ (Below.refl _ _).alloc HB.out.size _))
   clear hc hj hx hxl hsum
   go_upto_region 5 with fail
   rw [← hw5, ← hb5]
   clear hw5 hb5 c1 c2 hbr
   have p0 := (HK5.out.cell 0).trans (show _ = some (Value.int .i64 kd) from rfl)
   have p1 := (HK5.out.cell 1).trans (show _ = some (Value.slice Q m q) from rfl)
   have pl := HK5.out.lt
   have hgood : lineR ⟨kd, thr⟩ ∨ ¬ lineR ⟨kd, thr⟩ := Classical.em _
   by_cases h1 : kd < 1
   ·have d1 : decide (kd < 1) = true := decide_eq_true h1
    have HNO := Lib.hid (lined_no HX.out (fun h => by have := h.1; simp only at this; omega))
    clear hgood
    go_wp2
    go_ret
    exact ⟨by rw [HNO.out]; rfl, HB5.out⟩
   ·have d1 : decide (kd < 1) = false := decide_eq_false h1
    by_cases h2 : 7 < kd
    ·have d2 : decide (7 < kd) = true := decide_eq_true h2
     have d2' : decide (kd > 7) = true := decide_eq_true h2
     have HNO := Lib.hid (lined_no HX.out (fun h => by have := h.2.1; simp only at this; omega))
     clear hgood
     go_wp2
     go_ret
     exact ⟨by rw [HNO.out]; rfl, HB5.out⟩
    ·have d2 : decide (7 < kd) = false := decide_eq_false h2
     have d2' : decide (kd > 7) = false := decide_eq_false h2
     have hthr : (thr ≠ []) ↔ 0 < m := by rw [← HXL.out]; exact List.length_pos_iff.symm
     by_cases h3 : (kd = 1 ↔ 0 < m)
     ·have hcond : ∃ bb : Bool, (kd == 1) = bb ∧ decide (kd = 1) = bb ∧ decide ((0 : Int) < (m : Int)) = bb ∧ decide (0 < m) = bb ∧ decide ((m : Int) > 0) = bb := by
       by_cases hk : kd = 1
       ·have hm0 : 0 < m := h3.1 hk
        exact ⟨true, by simp [hk], by simp [hk], decide_eq_true (by omega), decide_eq_true hm0, decide_eq_true (by omega)⟩
       ·have hm0 : ¬ 0 < m := fun h => hk (h3.2 h)
        exact ⟨false, by simp [hk], by simp [hk], decide_eq_false (by omega), decide_eq_false hm0, decide_eq_false (by omega)⟩
      obtain ⟨bb, k1, k2, k3, k4, k5⟩ := hcond
      have q9 : (bb != bb) = false := by cases bb <;> rfl
      have HOK : Hid (¬ kd < 1 ∧ ¬ 7 < kd ∧ (kd = 1 ↔ thr ≠ [])) := Lib.hid ⟨h1, h2, h3.trans hthr.symm⟩
      clear h1 h2 h3 hthr hgood
      go_upto_region 8 with fail
      clear d1 d2 d2' k1 k2 k3 k4 k5
      go_loopg [35] m (fun gk iv W => ∃ j : Nat, iv = .int .i64 j ∧ j ≤ m ∧ gk + j = m ∧ W = w5 ∧ Hid (∀ t ∈ thr.take j, 0 ≤ t ∧ t ≤ 99))
      case atStart => exact ⟨0, rfl, Nat.zero_le _, rfl, rfl, Lib.hid (by intro x hx; simp at hx)⟩
      case round =>
       obtain ⟨j, rfl, hj, hgj, rfl, HTA⟩ := hrel
       have HGJ := Lib.hid hgj
       clear hgj
       by_cases hjl : j < m
       ·have f1 : decide ((j : Int) < (m : Int)) = true := decide_eq_true (by omega)
        have f2 : decide (j < m) = true := decide_eq_true hjl
        have f3 : (j : Int) < (m : Int) := by omega
        have zj : IntKind.i64.wrap ((j : Int) + 1) = (j : Int) + 1 := by rw [IntKind.wrap_i64]; omega
        obtain ⟨d, o, t, rfl, hd, ht, hcd⟩ := HJ.out j hjl
        have c3 := hcd _ HB5.out
        have hdr : d < wr.heap.size := Nat.lt_of_lt_of_le hd HB5.out.size
        have HT := Lib.hid ht
        clear hcd ht hd
        go_upto_region 10 with fail
        by_cases h4 : t < 0
        ·have d4 : decide (t < 0) = true := decide_eq_true h4
         have HNO := Lib.hid (lined_no HX.out (fun h => by have := h.2.2.2 t (List.mem_of_getElem? HT.out); omega))
         go_wp2
         go_ret
         exact ⟨by rw [HNO.out]; rfl, HB5.out⟩
        ·have d4 : decide (t < 0) = false := decide_eq_false h4
         by_cases h5 : 99 < t
         ·have d5 : decide (99 < t) = true := decide_eq_true h5
          have HNO := Lib.hid (lined_no HX.out (fun h => by have := h.2.2.2 t (List.mem_of_getElem? HT.out); omega))
          go_wp2
          go_ret
          exact ⟨by rw [HNO.out]; rfl, HB5.out⟩
         ·have d5 : decide (99 < t) = false := decide_eq_false h5
          have HTB : Hid (∀ t ∈ thr.take (j + 1), 0 ≤ t ∧ t ≤ 99) := Lib.hid (take_all HTA.out HT.out ⟨by omega, by omega⟩)
          go_wp2
          go_roundg (m - (j + 1))
          case measure => have := HGJ.out; omega
          case rel => exact ⟨j + 1, by simp, by omega, by omega, rfl, HTB⟩
       ·have f1 : decide ((j : Int) < (m : Int)) = false := decide_eq_false (by omega)
        have f2 : decide (j < m) = false := decide_eq_false hjl
        have HLR : Hid (lineR ⟨kd, thr⟩) := Lib.hid ⟨by have := HOK.out.1; simp only; omega, by have := HOK.out.2.1; simp only; omega, HOK.out.2.2, by
         have h := HTA.out
         have e : thr.take j = thr := List.take_of_length_le (by rw [HXL.out]; omega)
         rw [e] at h
         exact h⟩
        have HAL' : Hid (∀ x ∈ l.take (i + 1), lineR x) := Lib.hid (take_all HALL.out HX.out HLR.out)
        go_wp2
        go_roundg (n - (i + 1))
        case measure => have := HG.out; omega
        case rel => exact ⟨i + 1, by simp, by omega, by omega, by rw [← HSUM.out, Int.natCast_add], HAL', HB5⟩
     ·have HNO := Lib.hid (lined_no HX.out (fun h => h3 (h.2.2.1.trans hthr)))
      have hcond : ∃ bb : Bool, (kd == 1) = bb ∧ decide (kd = 1) = bb ∧ decide ((0 : Int) < (m : Int)) = !bb ∧ decide (0 < m) = !bb ∧ decide ((m : Int) > 0) = !bb := by
       by_cases hk : kd = 1
       ·have hm0 : ¬ 0 < m := fun h => h3 ⟨fun _ => h, fun _ => hk⟩
        exact ⟨true, by simp [hk], by simp [hk], decide_eq_false (by omega), decide_eq_false hm0, decide_eq_false (by omega)⟩
       ·have hm0 : 0 < m := Decidable.byContradiction fun h => h3 ⟨fun h' => absurd h' hk, fun h' => absurd h' h⟩
        exact ⟨false, by simp [hk], by simp [hk], decide_eq_true (by omega), decide_eq_true hm0, decide_eq_true (by omega)⟩
      obtain ⟨bb, k1, k2, k3, k4, k5⟩ := hcond
      have q9 : (bb != !bb) = true := by cases bb <;> rfl
      clear h1 h2 h3 hthr hgood
      go_wp2
      go_ret
      exact ⟨by rw [HNO.out]; rfl, HB5.out⟩
  ·have e1 : decide ((i : Int) < (n : Int)) = false := decide_eq_false (by omega)
   have e2 : decide (i < n) = false := decide_eq_false hil
   have HE : Hid (l.take i = l) := Lib.hid (List.take_of_length_le (by rw [← HN.out]; omega))
   have HEQ : Hid (decide ((sm : Int) ≤ 20000) = decide (linedR l)) := Lib.hid (by
    have h := HALL.out
    have h2 := HSM.out
    rw [HE.out] at h h2
    by_cases h20 : sm ≤ 20000
    ·rw [decide_eq_true (show (sm : Int) ≤ 20000 by omega), decide_eq_true (show linedR l from ⟨h, h2 ▸ h20⟩)]
    ·rw [decide_eq_false (show ¬ (sm : Int) ≤ 20000 by omega), decide_eq_false (show ¬ linedR l from fun h' => h20 (h2 ▸ h'.2))])
   obtain ⟨bz, hbz⟩ : ∃ bz, bz = decide (linedR l) := ⟨_, rfl⟩
   have q8 : decide ((sm : Int) ≤ 20000) = bz := HEQ.out.trans hbz.symm
   have HBZ := Lib.hid hbz
   clear hbz
   go_wp2
   go_ret
   exact ⟨by rw [← HBZ.out]; first | rfl | simp [HEQ.out, HBZ.out], HB.out⟩
end Go.Proofs.YtiheggkkgbfndaaGreatDoor
