/- carouselref14: operand. -/
import Derived.Test.YtiheggkkgbfndaaGreatDoorJ24
import Derived.Test.YtiheggkkgbfndaaGreatDoorJ25
import Derived.Test.YtiheggkkgbfndaaGreatDoorJ05
import Derived.Test.YtiheggkkgbfndaaGreatDoorJ21
namespace Go.Proofs.YtiheggkkgbfndaaGreatDoor
open Go.RowKit Go.Joins Go.ChangeShapes Go.WideShapes Go.Deep
set_option linter.unusedVariables false
set_option linter.unusedSimpArgs false
set_option maxRecDepth 100000
def opdL (u : Tok) (k : Nat) : List Tok → Except (Nat × Nat) (Int × Tok)
 | [] => .error (9, u.pos + u.s.length)
 | t :: _ => match oprL k t with
  | .error e => .error (e, t.pos)
  | .ok x => .ok x
def OpdPost (w : World) (x : Except (Nat × Nat) (Int × Tok)) (e : Ending) (w' : World) : Prop := Below w.heap.size w w' ∧ match x with
 | .error y => e = .returned (.tuple #[.int .i64 0, .agg #[.string ⟨#[]⟩, .int .i64 0], .int .i64 y.1, .int .i64 y.2])
 | .ok (o, nm) => e = .returned (.tuple #[.int .i64 o, .agg #[.string ⟨nm.s.toArray⟩, .int .i64 nm.pos], .int .i64 0, .int .i64 0])
theorem oprL_num {k : Nat} {t : Tok} {m : Int} (h : numF t.s = some m) : oprL k t = if fitsF (shapeF k) m then .ok (m, noTok) else .error 12 := by
 unfold oprL
 rw [h]
theorem oprL_nam {k : Nat} {t : Tok} (h : numF t.s = none) : oprL k t = if leadsF k && nameF t.s then .ok (0, t) else .error 9 := by
 unfold oprL
 rw [h]
set_option maxHeartbeats 4000000 in
theorem operand_doc {w : World} (k : Nat) (hk : k < 41) (u : Tok) (rest : List Tok) (A : Option Addr) (n c : Nat) (hT : Reads w w.heap.size 2 A n (rows tkc (u :: rest))) (hu : ∀ t ∈ u :: rest, t.s.length ≤ 4294967296 ∧ t.pos ≤ 4294967296) :
  Calls Tryz.prog 143 #[.int .i64 k, .slice A n c] w (OpdPost w (opdL u k rest)) := by
 have hl := hT.1
 rw [rows_length tkc 2 tkc_len] at hl
 have hn0 : n = rest.length + 1 := by rw [List.length_cons] at hl; omega
 obtain ⟨bt, off, rfl, hbt, hcell⟩ := reads_flat hT (by omega) (by omega)
 cases rest with
 | nil =>
  have hn1 : n = 1 := by simpa using hn0
  subst hn1
  obtain ⟨s, hs⟩ : ∃ s : ByteArray, s = ⟨u.s.toArray⟩ := ⟨_, rfl⟩
  have c0 : w.cell? ⟨bt, off, none⟩ = some (.string s) := hs ▸ hcell 0 _ rfl
  have c1 : w.cell? ⟨bt, off + 1, none⟩ = some (.int .i64 u.pos) := hcell 1 _ rfl
  have hu1 := hu u (List.mem_cons_self ..)
  have hsz : s.size = u.s.length := by
   have e1 : s.size = s.data.toList.length := Array.length_toList.symm
   rw [e1, hs]
  have hw : wrap64 ((u.pos : Int) + (s.size : Int)) = (u.pos : Int) + (s.size : Int) := by unfold wrap64; omega
  have HSZ := Lib.hid hsz
  have hpz : (u.pos : Int) + (s.size : Int) ≤ 9223372036854775807 := by omega
  clear hcell hs hl hn0 hT hsz
  go_enter Tryz.func143, Tryz.ntmps143
  go_wp2_with fail
  go_region
  have HX : Hid (opdL u k [] = .error (9, u.pos + u.s.length)) := Lib.hid rfl
  go_wp2_with fail
  refine bodyPost_ret (v := .tuple #[.int .i64 (0), .agg #[.string ⟨#[]⟩, .int .i64 0], .int .i64 (9), .int .i64 ((u.pos : Int) + (s.size : Int))]) (by simp [results, Tryz.results143, go_sem]) rfl ?_
  refine ⟨by repeat (first | with_reducible exact Below.refl _ _ | with_reducible refine Below.drew ?_ | with_reducible refine below_drewN ?_ _ | ((with_reducible refine Below.alloc ?_ ?_ _); (rotate_left; focus (first | with_reducible exact Nat.le_refl _ | omega | (simp; done) | (simp; omega) | (simp [World.setCell]; done) | (simp [World.setCell]; omega)))) | ((with_reducible refine Below.setCell ?_ ?_ _); (rotate_left; focus (first | with_reducible exact Nat.le_refl _ | omega | (simp; done) | (simp; omega) | (simp [World.setCell]; done) | (simp [World.setCell]; omega))))), ?_⟩
  rw [HX.out]
  show _ = Ending.returned (.tuple #[_, _, _, .int .i64 ((u.pos + u.s.length : Nat) : Int)])
  rw [← HSZ.out, Int.natCast_add]
  rfl
 | cons t rest' =>
  have hn2 : 2 ≤ n := by rw [hn0, List.length_cons]; omega
  have z1 : decide ((n : Int) < 2) = false := decide_eq_false (by omega)
  have z2 : decide (n < 2) = false := decide_eq_false (by omega)
  obtain ⟨s, hs⟩ : ∃ s : ByteArray, s = ⟨t.s.toArray⟩ := ⟨_, rfl⟩
  have c0 : w.cell? ⟨bt, off + 2, none⟩ = some (.string s) := hs ▸ hcell 2 _ rfl
  have c1 : w.cell? ⟨bt, off + 3, none⟩ = some (.int .i64 t.pos) := hcell 3 _ rfl
  have ht1 := hu t (by simp)
  have hsl : s.data.toList = t.s := by rw [hs]
  have hsz : s.size = t.s.length := by
   have e1 : s.size = s.data.toList.length := Array.length_toList.symm
   rw [e1, hsl]
  have HSQ := Lib.hid hs
  have HNA := Lib.hid (fun W => name_any s (by omega) W)
  have HLE := Lib.hid (fun W => rleads_any k W)
  have HRG := Lib.hid (fun W => range_any k hk W)
  have HNP := Lib.hid (fun W => number_any s.size s (Nat.le_refl _) (by omega) W)
  rw [hsl] at HNA
  have hn1 : 1 < n := by omega
  clear hcell hs hl hn0 hT hsz
  cases hnum : numF t.s with
  | none =>
   have HNU : Hid (∀ W, Calls Tryz.prog 164 #[.string s] W fun e w' => w' = W ∧ ∃ mm : Int, e = .returned (.tuple #[.int .i64 mm, .bool false])) := Lib.hid (fun W => (HNP.out W).mono fun e w' h => ⟨h.1, by
    obtain ⟨_, mm, _, h2, _⟩ := h
    rw [hsl, hnum] at h2
    exact ⟨mm, h2⟩⟩)
   cases hlead : leadsF k with
   | false =>
    have HX : Hid (opdL u k (t :: rest') = .error (9, t.pos)) := Lib.hid (by show (match oprL k t with | .error e => _ | .ok x => _) = _; rw [oprL_nam hnum, hlead]; rfl)
    rw [hlead] at HLE
    generalize nameF t.s = bn at HNA
    clear hnum hlead hsl HNP
    go_enter Tryz.func143, Tryz.ntmps143
    go_wp2_with (first | (go_at_call 164; refine (HNU.out _).mono ?_; rintro e w1 ⟨hw, mm, rfl⟩; obtain rfl := hw.symm) | (go_at_call 163; refine (HNA.out _).mono ?_; rintro e w1 ⟨rfl, hw⟩; obtain rfl := hw.symm) | (go_at_call 104; refine (HLE.out _).mono ?_; rintro e w1 ⟨rfl, hw⟩; obtain rfl := hw.symm) | (go_at_call 126; refine (HRG.out _).mono ?_; rintro e w1 ⟨rfl, hw⟩; obtain rfl := hw.symm))
    go_region
    go_wp2_with fail
    refine bodyPost_ret (v := .tuple #[.int .i64 (0), .agg #[.string ⟨#[]⟩, .int .i64 0], .int .i64 (9), .int .i64 ((t.pos : Int))]) (by simp [results, Tryz.results143, go_sem]) rfl ?_
    refine ⟨by repeat (first | with_reducible exact Below.refl _ _ | with_reducible refine Below.drew ?_ | with_reducible refine below_drewN ?_ _ | ((with_reducible refine Below.alloc ?_ ?_ _); (rotate_left; focus (first | with_reducible exact Nat.le_refl _ | omega | (simp; done) | (simp; omega) | (simp [World.setCell]; done) | (simp [World.setCell]; omega)))) | ((with_reducible refine Below.setCell ?_ ?_ _); (rotate_left; focus (first | with_reducible exact Nat.le_refl _ | omega | (simp; done) | (simp; omega) | (simp [World.setCell]; done) | (simp [World.setCell]; omega))))), ?_⟩
    rw [HX.out]
    rfl
   | true =>
    rw [hlead] at HLE
    cases hna : nameF t.s with
    | false =>
     have HX : Hid (opdL u k (t :: rest') = .error (9, t.pos)) := Lib.hid (by show (match oprL k t with | .error e => _ | .ok x => _) = _; rw [oprL_nam hnum, hlead, hna]; rfl)
     rw [hna] at HNA
     clear hnum hlead hna hsl HNP
     go_enter Tryz.func143, Tryz.ntmps143
     go_wp2_with (first | (go_at_call 164; refine (HNU.out _).mono ?_; rintro e w1 ⟨hw, mm, rfl⟩; obtain rfl := hw.symm) | (go_at_call 163; refine (HNA.out _).mono ?_; rintro e w1 ⟨rfl, hw⟩; obtain rfl := hw.symm) | (go_at_call 104; refine (HLE.out _).mono ?_; rintro e w1 ⟨rfl, hw⟩; obtain rfl := hw.symm) | (go_at_call 126; refine (HRG.out _).mono ?_; rintro e w1 ⟨rfl, hw⟩; obtain rfl := hw.symm))
     go_region
     go_wp2_with fail
     refine bodyPost_ret (v := .tuple #[.int .i64 (0), .agg #[.string ⟨#[]⟩, .int .i64 0], .int .i64 (9), .int .i64 ((t.pos : Int))]) (by simp [results, Tryz.results143, go_sem]) rfl ?_
     refine ⟨by repeat (first | with_reducible exact Below.refl _ _ | with_reducible refine Below.drew ?_ | with_reducible refine below_drewN ?_ _ | ((with_reducible refine Below.alloc ?_ ?_ _); (rotate_left; focus (first | with_reducible exact Nat.le_refl _ | omega | (simp; done) | (simp; omega) | (simp [World.setCell]; done) | (simp [World.setCell]; omega)))) | ((with_reducible refine Below.setCell ?_ ?_ _); (rotate_left; focus (first | with_reducible exact Nat.le_refl _ | omega | (simp; done) | (simp; omega) | (simp [World.setCell]; done) | (simp [World.setCell]; omega))))), ?_⟩
     rw [HX.out]
     rfl
    | true =>
     have HX : Hid (opdL u k (t :: rest') = .ok (0, t)) := Lib.hid (by show (match oprL k t with | .error e => _ | .ok x => _) = _; rw [oprL_nam hnum, hlead, hna]; rfl)
     rw [hna] at HNA
     clear hnum hlead hna hsl HNP
     go_enter Tryz.func143, Tryz.ntmps143
     go_wp2_with (first | (go_at_call 164; refine (HNU.out _).mono ?_; rintro e w1 ⟨hw, mm, rfl⟩; obtain rfl := hw.symm) | (go_at_call 163; refine (HNA.out _).mono ?_; rintro e w1 ⟨rfl, hw⟩; obtain rfl := hw.symm) | (go_at_call 104; refine (HLE.out _).mono ?_; rintro e w1 ⟨rfl, hw⟩; obtain rfl := hw.symm) | (go_at_call 126; refine (HRG.out _).mono ?_; rintro e w1 ⟨rfl, hw⟩; obtain rfl := hw.symm))
     go_region
     go_wp2_with fail
     refine bodyPost_ret (v := .tuple #[.int .i64 (0), .agg #[.string s, .int .i64 t.pos], .int .i64 (0), .int .i64 (0)]) (by simp [results, Tryz.results143, go_sem]) rfl ?_
     refine ⟨by repeat (first | with_reducible exact Below.refl _ _ | with_reducible refine Below.drew ?_ | with_reducible refine below_drewN ?_ _ | ((with_reducible refine Below.alloc ?_ ?_ _); (rotate_left; focus (first | with_reducible exact Nat.le_refl _ | omega | (simp; done) | (simp; omega) | (simp [World.setCell]; done) | (simp [World.setCell]; omega)))) | ((with_reducible refine Below.setCell ?_ ?_ _); (rotate_left; focus (first | with_reducible exact Nat.le_refl _ | omega | (simp; done) | (simp; omega) | (simp [World.setCell]; done) | (simp [World.setCell]; omega))))), ?_⟩
     rw [HX.out]
     rw [HSQ.out]
  | some m =>
   have hm64 : i64ok0 m := (numF_some.1 hnum).1
   have HNU : Hid (∀ W, Calls Tryz.prog 164 #[.string s] W fun e w' => w' = W ∧ ∃ mm : Unit, e = .returned (.tuple #[.int .i64 m, .bool true])) := Lib.hid (fun W => (HNP.out W).mono fun e w' h => ⟨h.1, by
    obtain ⟨_, mm, _, h2, h3⟩ := h
    have := h3 m (by rw [hsl]; exact hnum)
    subst this
    rw [hsl, hnum] at h2
    exact ⟨(), h2⟩⟩)
   have hfr := fits_range (shapeF k) (by rcases shape_cases k hk with h | h | h | h | h | h | h <;> omega) m hm64.1 hm64.2
   obtain ⟨lo, hlo⟩ : ∃ lo, lo = loF (shapeF k) := ⟨_, rfl⟩
   obtain ⟨hi, hhi⟩ : ∃ hi, hi = hiF (shapeF k) := ⟨_, rfl⟩
   rw [← hlo, ← hhi] at hfr HRG
   generalize nameF t.s = bn at HNA
   generalize leadsF k = bl at HLE
   by_cases h1 : m < lo
   ·have q1 : decide (m < lo) = true := decide_eq_true h1
    have HX : Hid (opdL u k (t :: rest') = .error (12, t.pos)) := Lib.hid (by show (match oprL k t with | .error e => _ | .ok x => _) = _; rw [oprL_num hnum, hfr, decide_eq_false (by omega)]; rfl)
    clear hnum hsl HNP hfr hlo hhi h1
    go_enter Tryz.func143, Tryz.ntmps143
    go_wp2_with (first | (go_at_call 164; refine (HNU.out _).mono ?_; rintro e w1 ⟨hw, mm, rfl⟩; obtain rfl := hw.symm) | (go_at_call 163; refine (HNA.out _).mono ?_; rintro e w1 ⟨rfl, hw⟩; obtain rfl := hw.symm) | (go_at_call 104; refine (HLE.out _).mono ?_; rintro e w1 ⟨rfl, hw⟩; obtain rfl := hw.symm) | (go_at_call 126; refine (HRG.out _).mono ?_; rintro e w1 ⟨rfl, hw⟩; obtain rfl := hw.symm))
    go_region
    go_wp2_with fail
    refine bodyPost_ret (v := .tuple #[.int .i64 (0), .agg #[.string ⟨#[]⟩, .int .i64 0], .int .i64 (12), .int .i64 ((t.pos : Int))]) (by simp [results, Tryz.results143, go_sem]) rfl ?_
    refine ⟨by repeat (first | with_reducible exact Below.refl _ _ | with_reducible refine Below.drew ?_ | with_reducible refine below_drewN ?_ _ | ((with_reducible refine Below.alloc ?_ ?_ _); (rotate_left; focus (first | with_reducible exact Nat.le_refl _ | omega | (simp; done) | (simp; omega) | (simp [World.setCell]; done) | (simp [World.setCell]; omega)))) | ((with_reducible refine Below.setCell ?_ ?_ _); (rotate_left; focus (first | with_reducible exact Nat.le_refl _ | omega | (simp; done) | (simp; omega) | (simp [World.setCell]; done) | (simp [World.setCell]; omega))))), ?_⟩
    rw [HX.out]
    rfl
   ·have q1 : decide (m < lo) = false := decide_eq_false h1
    by_cases h2 : hi < m
    ·have q2 : decide (hi < m) = true := decide_eq_true h2
     have HX : Hid (opdL u k (t :: rest') = .error (12, t.pos)) := Lib.hid (by show (match oprL k t with | .error e => _ | .ok x => _) = _; rw [oprL_num hnum, hfr, decide_eq_false (by omega)]; rfl)
     clear hnum hsl HNP hfr hlo hhi h1 h2
     go_enter Tryz.func143, Tryz.ntmps143
     go_wp2_with (first | (go_at_call 164; refine (HNU.out _).mono ?_; rintro e w1 ⟨hw, mm, rfl⟩; obtain rfl := hw.symm) | (go_at_call 163; refine (HNA.out _).mono ?_; rintro e w1 ⟨rfl, hw⟩; obtain rfl := hw.symm) | (go_at_call 104; refine (HLE.out _).mono ?_; rintro e w1 ⟨rfl, hw⟩; obtain rfl := hw.symm) | (go_at_call 126; refine (HRG.out _).mono ?_; rintro e w1 ⟨rfl, hw⟩; obtain rfl := hw.symm))
     go_region
     go_wp2_with fail
     refine bodyPost_ret (v := .tuple #[.int .i64 (0), .agg #[.string ⟨#[]⟩, .int .i64 0], .int .i64 (12), .int .i64 ((t.pos : Int))]) (by simp [results, Tryz.results143, go_sem]) rfl ?_
     refine ⟨by repeat (first | with_reducible exact Below.refl _ _ | with_reducible refine Below.drew ?_ | with_reducible refine below_drewN ?_ _ | ((with_reducible refine Below.alloc ?_ ?_ _); (rotate_left; focus (first | with_reducible exact Nat.le_refl _ | omega | (simp; done) | (simp; omega) | (simp [World.setCell]; done) | (simp [World.setCell]; omega)))) | ((with_reducible refine Below.setCell ?_ ?_ _); (rotate_left; focus (first | with_reducible exact Nat.le_refl _ | omega | (simp; done) | (simp; omega) | (simp [World.setCell]; done) | (simp [World.setCell]; omega))))), ?_⟩
     rw [HX.out]
     rfl
    ·have q2 : decide (hi < m) = false := decide_eq_false h2
     have HX : Hid (opdL u k (t :: rest') = .ok (m, noTok)) := Lib.hid (by show (match oprL k t with | .error e => _ | .ok x => _) = _; rw [oprL_num hnum, hfr, decide_eq_true (by omega)]; rfl)
     clear hnum hsl HNP hfr hlo hhi h1 h2
     go_enter Tryz.func143, Tryz.ntmps143
     go_wp2_with (first | (go_at_call 164; refine (HNU.out _).mono ?_; rintro e w1 ⟨hw, mm, rfl⟩; obtain rfl := hw.symm) | (go_at_call 163; refine (HNA.out _).mono ?_; rintro e w1 ⟨rfl, hw⟩; obtain rfl := hw.symm) | (go_at_call 104; refine (HLE.out _).mono ?_; rintro e w1 ⟨rfl, hw⟩; obtain rfl := hw.symm) | (go_at_call 126; refine (HRG.out _).mono ?_; rintro e w1 ⟨rfl, hw⟩; obtain rfl := hw.symm))
     go_wp2_with fail
     refine bodyPost_ret (v := .tuple #[.int .i64 (m), .agg #[.string ⟨#[]⟩, .int .i64 0], .int .i64 (0), .int .i64 (0)]) (by simp [results, Tryz.results143, go_sem]) rfl ?_
     refine ⟨by repeat (first | with_reducible exact Below.refl _ _ | with_reducible refine Below.drew ?_ | with_reducible refine below_drewN ?_ _ | ((with_reducible refine Below.alloc ?_ ?_ _); (rotate_left; focus (first | with_reducible exact Nat.le_refl _ | omega | (simp; done) | (simp; omega) | (simp [World.setCell]; done) | (simp [World.setCell]; omega)))) | ((with_reducible refine Below.setCell ?_ ?_ _); (rotate_left; focus (first | with_reducible exact Nat.le_refl _ | omega | (simp; done) | (simp; omega) | (simp [World.setCell]; done) | (simp [World.setCell]; omega))))), ?_⟩
     rw [HX.out]
     rfl
def LinPost (B : Nat) (w : World) (ab : Nat) (x : Except (Nat × Nat) RSt) (e : Ending) (w' : World) : Prop := match x with
 | .error y => e = .returned (.tuple #[.int .i64 y.1, .int .i64 y.2]) ∧ Frm w w' (RaS ab B)
 | .ok r' => ∃ ov av nv lv : Value, e = .returned (.tuple #[.int .i64 0, .int .i64 0]) ∧ RaIs B w' ab ov av nv lv r' ∧ Frm w w' (RaS ab B)
theorem labL_err {r : RSt} {l : List Tok} {y : Nat × Nat} (h : labL r l = .error y) : y.1 = 9 ∨ y.1 = 11 := by
 unfold labL at h
 split at h
 ·cases h
 ·split at h
  ·split at h
   ·injection h with h; subst h; exact .inl rfl
   ·split at h
    ·injection h with h; subst h; exact .inr rfl
    ·cases h
  ·cases h
theorem labL_mem {r r' : RSt} {l l' : List Tok} (h : labL r l = .ok (l', r')) : ∀ t ∈ l', t ∈ l := by
 unfold labL at h
 split at h
 ·injection h with h; injection h with h1 h2; subst h1; intro t ht; exact ht
 ·split at h
  ·split at h
   ·cases h
   ·split at h
    ·cases h
    ·injection h with h; injection h with h1 h2; subst h1; intro t ht; exact List.mem_cons_of_mem _ ht
  ·injection h with h; injection h with h1 h2; subst h1; intro t ht; exact ht
theorem opdL_err {u : Tok} {k : Nat} {rest : List Tok} {y : Nat × Nat} (h : opdL u k rest = .error y) : y.1 = 9 ∨ y.1 = 12 := by
 unfold opdL at h
 split at h
 ·injection h with h; subst h; exact .inl rfl
 ·split at h
  ·rename_i e he
   injection h with h
   subst h
   unfold oprL at he
   split at he
   ·split at he
    ·cases he
    ·injection he with he; subst he; exact .inr rfl
   ·split at he
    ·cases he
    ·injection he with he; subst he; exact .inl rfl
  ·cases h
theorem insL_opd {r : RSt} {u : Tok} {rest : List Tok} {k wd : Nat} (h : codeF u.s = some k) (hw : wd = widthF (shapeF k)) : insL r u rest = if 0 < wd then (match opdL u k rest with | .error e => .error e | .ok (o, nm) => endL r u k o nm rest.tail) else endL r u k 0 noTok rest := by
 rw [insL_code h hw]
 split
 ·cases rest with
  | nil => rfl
  | cons t rest' =>
   unfold operL opdL
   simp only
   cases oprL k t with
   | error e => rfl
   | ok x => rfl
 ·rfl
theorem insL_nocode {r : RSt} {u : Tok} {rest : List Tok} (h : codeF u.s = none) : insL r u rest = .error (9, u.pos) := by
 unfold insL
 rw [h]
theorem RaIs.added {B : Nat} {w : World} {ab : Nat} {ov av nv lv : Value} {r : RSt} {x : Ins} {z : Int} (h : RaRaw B w ab ov av nv lv z (r.ins.map Ins.op ++ [x.op]) (r.ins.map Ins.pos ++ [x.pos]) (r.ins.map Ins.name ++ [x.name]) (r.labels.map labTok)) (hl : r.ins.length ≤ r.size)
  (hz : z = ((r.size + (1 + widthF (shapeF x.code)) : Nat) : Int)) (h512 : r.size + (1 + widthF (shapeF x.code)) ≤ 512) : RaIs B w ab ov av nv lv ⟨r.labels, r.ins ++ [x]⟩ := by
 refine ⟨?_, ?_, ?_⟩
 ·rw [rsize_snoc, ← hz, List.map_append, List.map_append, List.map_append]
  exact h
 ·rw [rsize_snoc]; exact h512
 ·rw [rsize_snoc, List.length_append, List.length_singleton]; omega
theorem Blk.newAt {w : World} {t : TypeId} {cs : Array Value} {n : Nat} (h : w.heap.size = n) : Blk (w.alloc (.cells cs t)) n t cs := h ▸ Blk.new w t cs
def restL (r : RSt) : List Tok → Except (Nat × Nat) RSt
 | [] => .ok r
 | t :: rest => insL r t rest
theorem lineL_ok {r r' : RSt} {l l' : List Tok} (h : labL r l = .ok (l', r')) : lineL r l = restL r' l' := by
 rw [lineL_labL, h]
 cases l' <;> rfl
set_option maxHeartbeats 4000000 in
theorem line_doc {B : Nat} {w : World} {ab : Nat} {ov av nv lv : Value} {r : RSt} (hR : RaIs B w ab ov av nv lv r) (hB : B ≤ w.heap.size) (l : List Tok) (A : Option Addr) (n c : Nat)
  (hT : Reads w B 2 A n (rows tkc l)) (hc : n ≤ c) (hA : ∀ ad, A = some ad → ad.block ≠ ab) (hu : ∀ t ∈ l, t.s ≠ [] ∧ t.s.length ≤ 4294967296 ∧ t.pos ≤ 4294967296) (hn : n ≤ 4294967296) (hlab : r.labels.length ≤ 4294967295) :
  Calls Tryz.prog 113 #[.pointer (some ⟨ab, 0, none⟩), .slice A n c] w (LinPost B w ab (lineL r l)) := by
 have HLA := Lib.hid (labels_any hR hB l A n c hT hc hA (fun t ht => ⟨(hu t ht).1, (hu t ht).2.1⟩) hn hlab)
 cases hx : labL r l with
 | error y =>
  rw [hx] at HLA
  have HL1 : Hid (Calls Tryz.prog 141 #[.pointer (some ⟨ab, 0, none⟩), .slice A n c] w fun e w' => e = .returned (.tuple #[.slice none 0 0, .int .i64 y.1, .int .i64 y.2]) ∧ Frm w w' (RaS ab B)) := Lib.hid HLA.out
  have HX : Hid (lineL r l = .error y) := Lib.hid (by rw [lineL_labL, hx])
  have q1 : ((y.1 : Int) != 0) = true := by
   rcases labL_err hx with h | h <;> rw [h] <;> rfl
  clear hx HLA hT hR
  go_enter Tryz.func113, Tryz.ntmps113
  go_wp2_with (go_at_call 141; refine HL1.out.mono ?_; rintro e w1 ⟨rfl, hf1⟩)
  go_ret2
  rw [HX.out]
  exact ⟨rfl, hf1⟩
 | ok x =>
  obtain ⟨l', r'⟩ := x
  rw [hx] at HLA
  have HL1 : Hid (Calls Tryz.prog 141 #[.pointer (some ⟨ab, 0, none⟩), .slice A n c] w fun e w' => ∃ (A' : Option Addr) (n' c' : Nat) (ov av nv lv : Value), e = .returned (.tuple #[.slice A' n' c', .int .i64 0, .int .i64 0]) ∧ n' ≤ c' ∧ RaIs B w' ab ov av nv lv r' ∧ Reads w' B 2 A' n' (rows tkc l') ∧ (∀ ad, A' = some ad → ad.block ≠ ab) ∧ Frm w w' (RaS ab B)) := Lib.hid HLA.out
  have hmem := labL_mem hx
  have hu' : ∀ t ∈ l', t.s ≠ [] ∧ t.s.length ≤ 4294967296 ∧ t.pos ≤ 4294967296 := fun t ht => hu t (hmem t ht)
  have hll := lineL_ok hx
  clear hx HLA hT hR hmem hu
  go_enter Tryz.func113, Tryz.ntmps113
  go_upto_region 2 with (go_at_call 141; refine HL1.out.mono ?_; rintro e w1 ⟨A1, n1, cc, ov1, av1, nv1, lv1, rfl, hc1, hR1, hT1, hA1, hf1⟩)
  have hl1 := hT1.1
  rw [rows_length tkc 2 tkc_len] at hl1
  cases l' with
  | nil =>
   have hn0 : n1 = 0 := by simp at hl1; omega
   subst hn0
   have HX := Lib.hid hll
   have HR1 := Lib.hid hR1
   clear hll hl1 hT1 hR1
   go_wp2_with fail
   go_ret2
   rw [HX.out]
   exact ⟨ov1, av1, nv1, lv1, rfl, HR1.out, hf1⟩
  | cons t rest =>
   have hn1 : n1 = rest.length + 1 := by rw [List.length_cons] at hl1; omega
   have z1 : ((n1 : Int) == 0) = false := by simp; omega
   replace hll : lineL r l = insL r' t rest := hll
   obtain ⟨bt, off, rfl, hbt, hcell⟩ := reads_flat hT1 (by omega) (by omega)
   obtain ⟨s, hs⟩ : ∃ s : ByteArray, s = ⟨t.s.toArray⟩ := ⟨_, rfl⟩
   have c0 : w1.cell? ⟨bt, off, none⟩ = some (.string s) := hs ▸ hcell 0 _ rfl
   have c1 : w1.cell? ⟨bt, off + 1, none⟩ = some (.int .i64 t.pos) := hcell 1 _ rfl
   have hsl : s.data.toList = t.s := by rw [hs]
   have hbw : bt < w1.heap.size := by have := hf1.size; omega
   have HCD := Lib.hid (fun W => rcode_any s W)
   rw [hsl] at HCD
   have hn1p : 0 < n1 := by omega
   have HF1 := Lib.hid hf1
   have hwz := hf1.size
   have hut := hu' t (List.mem_cons_self ..)
   clear hs hsl hf1 hl1
   cases hcode : codeF t.s with
   | none =>
    have HX : Hid (lineL r l = .error (9, t.pos)) := Lib.hid (by rw [hll, insL_nocode hcode])
    rw [hcode] at HCD
    have HC : Hid (∀ W, Calls Tryz.prog 142 #[.string s] W fun e w' => e = .returned (.int .i64 (-1)) ∧ Below W.heap.size W w') := Lib.hid HCD.out
    clear hcode HCD hll hcell hT1 hR1
    go_upto_region 6 with (go_at_call 142; refine (HC.out _).mono ?_; rintro e w2 ⟨rfl, hb2⟩; have c1 : w2.cell? ⟨bt, off + 1, none⟩ = some (.int .i64 t.pos) := (hb2.cell (p := ⟨bt, off + 1, none⟩) hbw).trans c1; have hbw2 : bt < w2.heap.size := Nat.lt_of_lt_of_le hbw hb2.size)
    go_quiet (fail)
    go_wp2_with fail
    go_ret2
    rw [HX.out]
    exact ⟨rfl, HF1.out.trans (Frm.of_below (S := fun _ => False) (below_drewN hb2 _)) fun _ h => h.elim⟩
   | some k =>
    have hk := codeF_lt hcode
    rw [hcode] at HCD
    have HC : Hid (∀ W, Calls Tryz.prog 142 #[.string s] W fun e w' => e = .returned (.int .i64 (k : Int)) ∧ Below W.heap.size W w') := Lib.hid HCD.out
    have HWD := Lib.hid (fun W => rwidth_any k hk W)
    have HIN0 := Lib.hid (fun wd (h : wd = widthF (shapeF k)) => insL_opd (r := r') (u := t) (rest := rest) hcode h)
    obtain ⟨wd, hwd⟩ : ∃ wd, wd = widthF (shapeF k) := ⟨_, rfl⟩
    rw [← hwd] at HWD
    have hw8 : wd ≤ 8 := by rw [hwd]; unfold widthF; split <;> (try split) <;> (try split) <;> omega
    have HIN := Lib.hid (HIN0.out wd hwd)
    have HWE := Lib.hid hwd
    have HLL := Lib.hid hll
    have hk0 : decide ((k : Int) < 0) = false := decide_eq_false (by omega)
    have HR1 := Lib.hid hR1
    have HT1 := Lib.hid hT1
    have HN1 := Lib.hid hn1
    have HHU := Lib.hid hu'
    clear hcode hwd hll hcell hT1 hR1 HCD HIN0 hn1 hu' c1
    go_upto_region 11 with (first | (go_at_call 142; refine (HC.out _).mono ?_; rintro e w2 ⟨rfl, hb2⟩) | (go_at_call 73; refine (HWD.out _).mono ?_; rintro e w3 ⟨rfl, hw⟩; obtain rfl := hw.symm))
    obtain ⟨ob, hob⟩ : ∃ ob, ob = w2.heap.size := ⟨_, rfl⟩
    obtain ⟨nb, hnb⟩ : ∃ nb, nb = w2.heap.size + 1 := ⟨_, rfl⟩
    obtain ⟨W, hW⟩ : ∃ W, W = (w2.alloc (.cells #[.int .i64 k, .int .i64 0] 113)).alloc (.cells #[.string ⟨#[]⟩, .int .i64 0] 159) := ⟨_, rfl⟩
    rw [← hW, ← hnb, ← hob]
    have hOB0 : Blk W ob 113 #[.int .i64 k, .int .i64 0] := by rw [hW, hob]; exact (Blk.new w2 _ _).alloc _
    have hNB0 : Blk W nb 159 #[.string ⟨#[]⟩, .int .i64 0] := by rw [hW, hnb]; exact Blk.newAt (by simp)
    have HOW : Hid (w1.heap.size ≤ ob ∧ w1.heap.size ≤ nb) := Lib.hid (by have := hb2.size; omega)
    have hBw1 : B ≤ w1.heap.size := Nat.le_trans hB hwz
    have hBW0 : Below w1.heap.size w1 W := by rw [hW]; exact (hb2.alloc hb2.size _).alloc (by have := hb2.size; simp; omega) _
    clear hW hob hnb hb2
    by_cases hwd0 : 0 < wd
    ·have e1 : decide ((0 : Int) < (wd : Int)) = true := decide_eq_true (by omega)
     have e2 : decide (0 < wd) = true := decide_eq_true hwd0
     have HIN2 : Hid (lineL r l = match opdL t k rest with | .error e => .error e | .ok (o, nm) => endL r' t k o nm rest.tail) := Lib.hid (by rw [HLL.out, HIN.out, if_pos hwd0])
     have hwW := hBW0.size
     have hOPD := operand_doc (w := W) k hk t rest _ n1 cc ((HT1.out.below (hBW0.mono hBw1)).more (Nat.le_trans hBw1 hwW)) (fun x hx => (HHU.out x hx).2)
     have HBW1 := Lib.hid hBW0
     have HOBa := Lib.hid hOB0
     have HNBa := Lib.hid hNB0
     clear hwd0 hBW0 hOB0 hNB0 HIN HLL
     cases hx2 : opdL t k rest with
     | error y =>
      have HX : Hid (lineL r l = .error y) := Lib.hid (by rw [HIN2.out, hx2])
      rw [hx2] at hOPD
      have HOPD := Lib.hid hOPD
      have q1 : ((y.1 : Int) != 0) = true := by
       rcases opdL_err hx2 with h | h <;> rw [h] <;> rfl
      clear hx2 hOPD
      go_wp2_with (go_at_call 143; refine HOPD.out.mono ?_; rintro e w3 ⟨hb3, rfl⟩; have P3 := HOBa.out.below hb3 HOBa.out.lt; have N3 := HNBa.out.below hb3 HNBa.out.lt; have y1 : w3.cell? ⟨ob, 1, none⟩ = some (.int .i64 0) := (P3.cell 1).trans rfl; have y2 : w3.cell? ⟨nb, 0, none⟩ = some (.string ⟨#[]⟩) := (N3.cell 0).trans rfl; have y3 : w3.cell? ⟨nb, 1, none⟩ = some (.int .i64 0) := (N3.cell 1).trans rfl; have y4 := P3.frozen 1; have y5 := N3.frozen 0; have y6 := N3.frozen 1; have y7 := P3.lt; have y8 := N3.lt; have y9 : ob ≠ nb := P3.ne_ N3 (by decide); have y10 : nb ≠ ob := Ne.symm y9)
      go_ret2
      rw [HX.out]
      refine ⟨rfl, ?_⟩
      have hF3 : Frm w w3 (RaS ab B) := HF1.out.trans (Frm.of_below (S := fun _ => False) (HBW1.out.trans (hb3.mono HBW1.out.size))) fun _ h => h.elim
      have hq := HOW.out
      repeat (first | exact hF3 | refine Frm.set ?_ _ _ _ (.inl (.inr (by omega))))
     | ok x =>
      obtain ⟨o, nm⟩ := x
      rw [hx2] at hOPD
      have HOPD0 := Lib.hid hOPD
      obtain ⟨u2, rest2, rfl⟩ : ∃ u2 rest2, rest = u2 :: rest2 := by
       cases rest with
       | nil => cases hx2
       | cons a b => exact ⟨a, b, rfl⟩
      have HEND : Hid (lineL r l = endL r' t k o nm rest2) := Lib.hid (by rw [HIN2.out, hx2]; rfl)
      obtain ⟨qv, hqv⟩ : ∃ qv : ByteArray, qv = ⟨nm.s.toArray⟩ := ⟨_, rfl⟩
      have HOPD : Hid (Calls Tryz.prog 143 #[.int .i64 k, .slice (some ⟨bt, off, none⟩) n1 cc] W fun e w' => Below W.heap.size W w' ∧ e = .returned (.tuple #[.int .i64 o, .agg #[.string qv, .int .i64 nm.pos], .int .i64 0, .int .i64 0])) := Lib.hid (by rw [hqv]; exact HOPD0.out)
      have HQV := Lib.hid hqv
      clear hx2 hOPD HOPD0 hqv
      go_upto_region 16 with (go_at_call 143; refine HOPD.out.mono ?_; rintro e w3 ⟨hb3, rfl⟩; have P3 := HOBa.out.below hb3 HOBa.out.lt; have N3 := HNBa.out.below hb3 HNBa.out.lt; have y1 : w3.cell? ⟨ob, 1, none⟩ = some (.int .i64 0) := (P3.cell 1).trans rfl; have y2 : w3.cell? ⟨nb, 0, none⟩ = some (.string ⟨#[]⟩) := (N3.cell 0).trans rfl; have y3 : w3.cell? ⟨nb, 1, none⟩ = some (.int .i64 0) := (N3.cell 1).trans rfl; have y4 := P3.frozen 1; have y5 := N3.frozen 0; have y6 := N3.frozen 1; have y7 := P3.lt; have y8 := N3.lt; have y9 : ob ≠ nb := P3.ne_ N3 (by decide); have y10 : nb ≠ ob := Ne.symm y9)
      obtain ⟨W4, hW4⟩ : ∃ W4, W4 = ((w3.setCell ⟨ob, 1, none⟩ (.int .i64 o)).setCell ⟨nb, 0, none⟩ (.string qv)).setCell ⟨nb, 1, none⟩ (.int .i64 nm.pos) := ⟨_, rfl⟩
      rw [← hW4]
      have HOB : Hid (Blk W4 ob 113 #[.int .i64 k, .int .i64 o]) := Lib.hid (by rw [hW4]; exact ((P3.set_ 1 _).far y9 _).far y9 _)
      have HNB : Hid (Blk W4 nb 159 #[.string ⟨nm.s.toArray⟩, .int .i64 nm.pos]) := Lib.hid (by rw [hW4, ← HQV.out]; exact ((N3.far y10 _).set_ 0 _).set_ 1 _)
      have HBW : Hid (Below w1.heap.size w1 W4) := Lib.hid (by
       rw [hW4]
       have hq := HOW.out
       exact (((HBW1.out.trans (hb3.mono HBW1.out.size)).setCell (show w1.heap.size ≤ ob from hq.1) _).setCell (show w1.heap.size ≤ nb from hq.2) _).setCell (show w1.heap.size ≤ nb from hq.2) _)
      clear hW4 P3 N3 y1 y2 y3 y4 y5 y6 y7 y8 y9 y10 hb3
      have HRW := Lib.hid (HR1.out.keep HBW.out)
      have HTW := Lib.hid (HT1.out.below (HBW.out.mono hBw1))
      cases rest2 with
      | cons x rx =>
       have HX : Hid (lineL r l = .error (9, x.pos)) := Lib.hid (HEND.out.trans rfl)
       obtain ⟨bt2, off2, he2, hb2, hcell2⟩ := reads_flat HTW.out (by omega) (by omega)
       cases he2
       have x1 : (W4).cell? ⟨bt, off + 5, none⟩ = some (.int .i64 x.pos) := hcell2 5 _ rfl
       have hbw2 : bt < (W4).heap.size := by have := HBW.out.size; omega
       have hlk : 2 < n1 := by have := HN1.out; simp only [List.length_cons] at this; omega
       have g1 : decide ((2 : Int) < (n1 : Int)) = true := decide_eq_true (by omega)
       have g2 : decide (2 < n1) = true := decide_eq_true hlk
       clear hcell2 hb2
       go_upto_region 17 with fail
       go_quiet (fail)
       go_wp2_with fail
       go_ret2
       rw [HX.out]
       exact ⟨rfl, (HF1.out.trans (Frm.of_below (S := fun _ => False) HBW.out) fun _ h => h.elim).drewN _⟩
      | nil =>
       have hlk : n1 ≤ 2 := by have := HN1.out; simp only [List.length_cons, List.length_nil] at this; omega
       have g1 : decide ((2 : Int) < (n1 : Int)) = false := decide_eq_false (by omega)
       have g2 : decide (2 < n1) = false := decide_eq_false (by omega)
       have hrs := HRW.out.size
       have hblk := HRW.out.raw.blk
       have r3 : (W4).cell? ⟨ab, 3, none⟩ = some (.int .i64 (r'.size : Int)) := (hblk.cell 3).trans rfl
       have hal := hblk.lt
       have HBLK := Lib.hid hblk
       clear hblk
       by_cases hfull : 512 < r'.size + (1 + wd)
       ·have HX : Hid (lineL r l = .error (2, t.pos)) := Lib.hid (HEND.out.trans (by show endL r' t k (o) nm [] = _; unfold endL; rw [← HWE.out, if_pos hfull]))
        obtain ⟨bt2, off2, he2, hb2, hcell2⟩ := reads_flat HTW.out (by omega) (by omega)
        cases he2
        have x1 : (W4).cell? ⟨bt, off + 1, none⟩ = some (.int .i64 t.pos) := hcell2 1 _ rfl
        have hbw2 : bt < (W4).heap.size := by have := HBW.out.size; omega
        have q1 : decide ((512 : Int) < (r'.size : Int) + 1 + (wd : Int)) = true := decide_eq_true (by omega)
        clear hcell2 hb2 hfull
        go_upto_region 19 with fail
        go_quiet (fail)
        go_wp2_with fail
        go_ret2
        rw [HX.out]
        exact ⟨rfl, (HF1.out.trans (Frm.of_below (S := fun _ => False) HBW.out) fun _ h => h.elim).drewN _⟩
       ·have HX : Hid (lineL r l = .ok ⟨r'.labels, r'.ins ++ [⟨k, o, r'.size, nm⟩]⟩) := Lib.hid (HEND.out.trans (by show endL r' t k (o) nm [] = _; unfold endL; rw [← HWE.out, if_neg hfull]))
        have q1 : decide ((512 : Int) < (r'.size : Int) + 1 + (wd : Int)) = false := decide_eq_false (by omega)
        have HFU := Lib.hid hfull
        have HFW : Hid (Frm w W4 (RaS ab B)) := Lib.hid (HF1.out.trans (Frm.of_below (S := fun _ => False) HBW.out) fun _ h => h.elim)
        have hBW : B ≤ (W4).heap.size := Nat.le_trans hBw1 HBW.out.size
        obtain ⟨oo, hoo⟩ : ∃ oo : Int, oo = o := ⟨_, rfl⟩
        obtain ⟨qq, hqq⟩ : ∃ qq : ByteArray, qq = ⟨(nm).s.toArray⟩ := ⟨_, rfl⟩
        obtain ⟨pp, hpp⟩ : ∃ pp : Int, pp = (nm).pos := ⟨_, rfl⟩
        have HOB1 : Hid (Blk W4 ob 113 #[.int .i64 k, .int .i64 oo]) := Lib.hid (by rw [hoo]; exact HOB.out)
        have HNB1 : Hid (Blk W4 nb 159 #[.string qq, .int .i64 pp]) := Lib.hid (by rw [hqq, hpp]; exact HNB.out)
        have HTK : Hid (tkc nm = [.string qq, .int .i64 pp]) := Lib.hid (by rw [hqq, hpp]; rfl)
        have HOO := Lib.hid hoo
        obtain ⟨m, hm⟩ : ∃ m, m = r'.ins.length := ⟨_, rfl⟩
        have HM := Lib.hid hm
        have hm5 : m ≤ 512 := by have := HRW.out.len; omega
        have hc63 : m + 1 ≤ maxLen := by unfold maxLen; omega
        have hcb16 : (m + 1) * 16 ≤ 140737488355328 := by omega
        have hcb8 : (m + 1) * 8 ≤ 140737488355328 := by omega
        have hcb24 : (m + 1) * 24 ≤ 140737488355328 := by omega
        have HRR := HRW.out.raw
        have HLO : Hid ((r'.ins.map Ins.op).length = m) := Lib.hid (by rw [List.length_map, hm])
        have HLA2 : Hid ((r'.ins.map Ins.pos).length = m) := Lib.hid (by rw [List.length_map, hm])
        have HLN : Hid ((r'.ins.map Ins.name).length = m) := Lib.hid (by rw [List.length_map, hm])
        have HRAW := Lib.hid HRR
        have hov2 : ov1.ownBlock ≠ some ob := fun e => by have := (HR1.out.raw.ops.lt ob e).2; have := HOW.out; omega
        have hnv2 : nv1.ownBlock ≠ some nb := fun e => by have := (HR1.out.raw.nms.lt nb e).2; have := HOW.out; omega
        have HOV := Lib.hid hov2
        have HNV := Lib.hid hnv2
        clear hfull hoo hqq hpp hm HRR hov2 hnv2
        rw [HOO.out.symm] at HX
        go_upto_region 20 with fail
        go_cut [80] from 80 (fun _ wc => ∃ ov2 : Value, RaRaw B wc ab ov2 av1 nv1 lv1 (r'.size : Int) (r'.ins.map Ins.op ++ [⟨k, oo⟩]) (r'.ins.map Ins.pos) (r'.ins.map Ins.name) (r'.labels.map labTok) ∧ Frm w wc (RaS ab B) ∧ B ≤ wc.heap.size ∧ Blk wc nb 159 #[.string qq, .int .i64 pp])
        case first =>
         have hown := HRAW.out.ops
         rw [HLO.out] at hown
         have hblk := HRAW.out.blk
         have hnb := own_ne_blk hown hblk (by decide)
         have m0 : (W4).cell? ⟨ab, 0, none⟩ = some ov1 := (hblk.cell 0).trans rfl
         have o0 : (W4).cell? ⟨ob, 0, none⟩ = some (.int .i64 k) := (HOB1.out.cell 0).trans rfl
         have o1 : (W4).cell? ⟨ob, 1, none⟩ = some (.int .i64 oo) := (HOB1.out.cell 1).trans rfl
         have hol := HOB1.out.lt
         have h1c : ∀ v ∈ [Value.int .i64 k, .int .i64 oo], v.oneCell' = true := by intro v hv; simp at hv; rcases hv with rfl | rfl <;> rfl
         obtain ⟨i0, hi, hz0, hz1, hz2⟩ := info_parts info_op
         go_region_law
          (refine step_append_lies _ (by rfl) _ _ _ (by rfl) B 113 i0 _ 2 16 Tryz.underlying108 hi hz0 hz1 hz2 rfl (by omega) ov1 m (rows opc (r'.ins.map Ins.op)) (by rfl) (show _ from hown.alloc _)
            ⟨(W4).heap.size, 0, none⟩ 1 1 [.int .i64 k, .int .i64 oo] (by rfl) (by rfl) (World.news_of_block (cs := #[.int .i64 k, .int .i64 oo]) (t := 113) (fr := (0, 0)) (heap_alloc_new W4 _)) h1c
            (by omega) hc63 hcb16 (by simp; omega) ((W4).heap.size + 1) (by simp) ?_; intro gg cap w3 hown3 hgrow hat hlt3; have hR3 : Blk w3 ab 151 #[ov1, av1, nv1, .int .i64 (r'.size : Int), lv1] := (hgrow.block ab (by simp; omega) (fun hh => hnb hh.symm)).trans ((Below.heap_alloc W4 _ ab hal).trans hblk); have m4 : w3.cell? ⟨ab, 0, none⟩ = some ov1 := (hR3.cell 0).trans rfl; have f4 : w3.frozen? ⟨ab, 0, none⟩ = false := hR3.frozen 0; have hrl3 : ab < w3.heap.size := hR3.lt)
         all_goals (have hfin := HRAW.out.put_ops (o := ⟨k, oo⟩) hBW (by first | exact ((Below.refl _ _).alloc (Nat.le_refl _) _).drew | exact ((Below.refl _ _).drew.alloc (Nat.le_refl _) _) | exact ((Below.refl _ _).alloc (Nat.le_refl _) _)) hgrow (congrArg (· + 1) HLO.out.symm) hown3)
         all_goals (have hnbk : Blk (w3.setCell ⟨ab, 0, none⟩ (.slice (some ⟨gg, 0, none⟩) (m + 1) cap)) nb 159 #[.string qq, .int .i64 pp] := Blk.far (((hgrow.block nb (by have := HNB1.out.lt; simp; omega) (fun hh => own_ne_blk hown HNB1.out (by decide) hh.symm)).trans ((Below.heap_alloc W4 _ nb HNB1.out.lt).trans HNB1.out))) (HNB1.out.ne_ hblk (by decide)) _)
         all_goals go_wp2_with fail
         all_goals go_meet
         all_goals exact ⟨_, hfin.1, HFW.out.trans hfin.2 (fun _ h => .inl h), Nat.le_trans hBW hfin.2.size, hnbk⟩
        case rest =>
         obtain ⟨ov2, hraw2, hF2, hBW2, hNB2⟩ := hcut
         have hal := hraw2.blk.lt
         obtain ⟨W2, hW2⟩ : ∃ W2, W2 = wc := ⟨_, rfl⟩
         rw [← hW2] at hraw2 hF2 hBW2 hNB2 hal ⊢
         have HRA2 := Lib.hid hraw2
         have HF2 := Lib.hid hF2
         have HNB2 := Lib.hid hNB2
         clear hW2 hraw2 hF2 hNB2
         go_upto_region 21 with fail
         go_cut [90] from 90 (fun _ wc => ∃ av2 : Value, RaRaw B wc ab ov2 av2 nv1 lv1 (r'.size : Int) (r'.ins.map Ins.op ++ [⟨k, oo⟩]) (r'.ins.map Ins.pos ++ [r'.size]) (r'.ins.map Ins.name) (r'.labels.map labTok) ∧ Frm w wc (RaS ab B) ∧ B ≤ wc.heap.size ∧ Blk wc nb 159 #[.string qq, .int .i64 pp])
         case first =>
          have hown := HRA2.out.ats
          rw [HLA2.out] at hown
          have hblk := HRA2.out.blk
          have hnb := own_ne_blk hown hblk (by decide)
          have m0 : W2.cell? ⟨ab, 1, none⟩ = some av1 := (hblk.cell 1).trans rfl
          have m3 : W2.cell? ⟨ab, 3, none⟩ = some (.int .i64 (r'.size : Int)) := (hblk.cell 3).trans rfl
          have h1c : ∀ v ∈ [Value.int .i64 (r'.size : Int)], v.oneCell' = true := by intro v hv; simp at hv; rcases hv with rfl; rfl
          obtain ⟨i0, hi, hz0, hz1, hz2⟩ := info_parts info_int
          go_region_law
           (refine step_append_lies _ (by rfl) _ _ _ (by rfl) B 3 i0 _ 1 8 Tryz.underlying47 hi hz0 hz1 hz2 rfl (by omega) av1 m (plc (r'.ins.map Ins.pos)) (by rfl) (show _ from hown.alloc _)
             ⟨W2.heap.size, 0, none⟩ 1 1 [.int .i64 (r'.size : Int)] (by rfl) (by rfl) (World.news_of_block (cs := #[.int .i64 (r'.size : Int)]) (t := 3) (fr := (0, 0)) (heap_alloc_new W2 _)) h1c
             (by omega) hc63 hcb8 (by simp; omega) (W2.heap.size + 1) (by simp) ?_; intro gg cap w3 hown3 hgrow hat hlt3; have hR3 : Blk w3 ab 151 #[ov2, av1, nv1, .int .i64 (r'.size : Int), lv1] := (hgrow.block ab (by simp; omega) (fun hh => hnb hh.symm)).trans ((Below.heap_alloc W2 _ ab hal).trans hblk); have m4 : w3.cell? ⟨ab, 1, none⟩ = some av1 := (hR3.cell 1).trans rfl; have m5 : w3.cell? ⟨ab, 3, none⟩ = some (.int .i64 (r'.size : Int)) := (hR3.cell 3).trans rfl; have f4 : w3.frozen? ⟨ab, 1, none⟩ = false := hR3.frozen 1; have hrl3 : ab < w3.heap.size := hR3.lt)
          all_goals (have hfin := HRA2.out.put_ats (p := r'.size) hBW2 (by first | exact ((Below.refl _ _).alloc (Nat.le_refl _) _).drew | exact ((Below.refl _ _).drew.alloc (Nat.le_refl _) _) | exact ((Below.refl _ _).alloc (Nat.le_refl _) _)) hgrow (congrArg (· + 1) HLA2.out.symm) hown3)
          all_goals (have hnbk : Blk (w3.setCell ⟨ab, 1, none⟩ (.slice (some ⟨gg, 0, none⟩) (m + 1) cap)) nb 159 #[.string qq, .int .i64 pp] := Blk.far (((hgrow.block nb (by have := HNB2.out.lt; simp; omega) (fun hh => own_ne_blk hown HNB2.out (by decide) hh.symm)).trans ((Below.heap_alloc W2 _ nb HNB2.out.lt).trans HNB2.out))) (HNB2.out.ne_ hblk (by decide)) _)
          all_goals go_wp2_with fail
          all_goals go_meet
          all_goals exact ⟨_, hfin.1, HF2.out.trans hfin.2 (fun _ h => .inl h), Nat.le_trans hBW2 hfin.2.size, hnbk⟩
         case rest =>
          obtain ⟨av2, hraw3, hF3, hBW3, hNB3⟩ := hcut
          have hal := hraw3.blk.lt
          obtain ⟨W3, hW3⟩ : ∃ W3, W3 = wc := ⟨_, rfl⟩
          rw [← hW3] at hraw3 hF3 hBW3 hNB3 hal ⊢
          have HRA3 := Lib.hid hraw3
          have HF3 := Lib.hid hF3
          have HNB3 := Lib.hid hNB3
          clear hW3 hraw3 hF3 hNB3
          go_upto_region 22 with fail
          go_cut [103] from 103 (fun _ wc => ∃ nv2 : Value, RaRaw B wc ab ov2 av2 nv2 lv1 (r'.size : Int) (r'.ins.map Ins.op ++ [⟨k, oo⟩]) (r'.ins.map Ins.pos ++ [r'.size]) (r'.ins.map Ins.name ++ [nm]) (r'.labels.map labTok) ∧ Frm w wc (RaS ab B))
          case first =>
           have hown := HRA3.out.nms
           rw [HLN.out] at hown
           have hblk := HRA3.out.blk
           have hnb := own_ne_blk hown hblk (by decide)
           have m0 : W3.cell? ⟨ab, 2, none⟩ = some nv1 := (hblk.cell 2).trans rfl
           have n0 : W3.cell? ⟨nb, 0, none⟩ = some (.string qq) := (HNB3.out.cell 0).trans rfl
           have n1' : W3.cell? ⟨nb, 1, none⟩ = some (.int .i64 pp) := (HNB3.out.cell 1).trans rfl
           have hnl := HNB3.out.lt
           have h1c : ∀ v ∈ [Value.string qq, .int .i64 pp], v.oneCell' = true := by intro v hv; simp at hv; rcases hv with rfl | rfl <;> rfl
           obtain ⟨i0, hi, hz0, hz1, hz2⟩ := info_parts info_rtok
           go_region_law
            (refine step_append_lies _ (by rfl) _ _ _ (by rfl) B 159 i0 _ 2 24 Tryz.underlying149 hi hz0 hz1 hz2 rfl (by omega) nv1 m (rows tkc (r'.ins.map Ins.name)) (by rfl) (show _ from hown.alloc _)
              ⟨W3.heap.size, 0, none⟩ 1 1 [.string qq, .int .i64 pp] (by rfl) (by rfl) (World.news_of_block (cs := #[.string qq, .int .i64 pp]) (t := 159) (fr := (0, 0)) (heap_alloc_new W3 _)) h1c
              (by omega) hc63 hcb24 (by simp; omega) (W3.heap.size + 1) (by simp) ?_; intro gg cap w3 hown3 hgrow hat hlt3; have hR3 : Blk w3 ab 151 #[ov2, av2, nv1, .int .i64 (r'.size : Int), lv1] := (hgrow.block ab (by simp; omega) (fun hh => hnb hh.symm)).trans ((Below.heap_alloc W3 _ ab hal).trans hblk); have m4 : w3.cell? ⟨ab, 2, none⟩ = some nv1 := (hR3.cell 2).trans rfl; have f4 : w3.frozen? ⟨ab, 2, none⟩ = false := hR3.frozen 2; have hrl3 : ab < w3.heap.size := hR3.lt)
           all_goals (have hfin := HRA3.out.put_nms (t := nm) hBW3 (by first | exact ((Below.refl _ _).alloc (Nat.le_refl _) _).drew | exact ((Below.refl _ _).drew.alloc (Nat.le_refl _) _) | exact ((Below.refl _ _).alloc (Nat.le_refl _) _)) hgrow (hat.imp id fun h => by omega) (congrArg (· + 1) HLN.out.symm) (by rw [HTK.out]; exact hown3))
           all_goals go_wp2_with fail
           all_goals go_meet
           all_goals exact ⟨_, hfin.1, HF3.out.trans hfin.2 (fun _ h => .inl h)⟩
          case rest =>
           obtain ⟨nv2, hraw4, hF4⟩ := hcut
           have hal := hraw4.blk.lt
           have m3 : wc.cell? ⟨ab, 3, none⟩ = some (.int .i64 (r'.size : Int)) := (hraw4.blk.cell 3).trans rfl
           have f3 : wc.frozen? ⟨ab, 3, none⟩ = false := hraw4.blk.frozen 3
           have HRA4 := Lib.hid hraw4
           have HF4 := Lib.hid hF4
           clear hraw4 hF4
           go_wp2_with fail
           go_ret2
           rw [HX.out]
           have hps := HRA4.out.put_size ((r'.size : Int) + 1 + (wd : Int))
           refine ⟨ov2, av2, nv2, lv1, rfl, RaIs.added (x := ⟨k, oo, r'.size, nm⟩) hps.1 HRW.out.len (by rw [← HWE.out]; omega) (by have := HFU.out; rw [← HWE.out]; omega), HF4.out.trans hps.2 fun _ h => .inl h⟩
    ·have e1 : decide ((0 : Int) < (wd : Int)) = false := decide_eq_false (by omega)
     have e2 : decide (0 < wd) = false := decide_eq_false hwd0
     have HEND : Hid (lineL r l = endL r' t k 0 noTok rest) := Lib.hid (by rw [HLL.out, HIN.out, if_neg hwd0])
     have HBW := Lib.hid hBW0
     have HOB : Hid (Blk W ob 113 #[.int .i64 k, .int .i64 0]) := Lib.hid hOB0
     have HNB : Hid (Blk W nb 159 #[.string ⟨noTok.s.toArray⟩, .int .i64 noTok.pos]) := Lib.hid hNB0
     clear hwd0 hBW0 hOB0 hNB0 HIN HLL
     have HRW := Lib.hid (HR1.out.keep HBW.out)
     have HTW := Lib.hid (HT1.out.below (HBW.out.mono hBw1))
     cases rest with
     | cons x rx =>
      have HX : Hid (lineL r l = .error (9, x.pos)) := Lib.hid (HEND.out.trans rfl)
      obtain ⟨bt2, off2, he2, hb2, hcell2⟩ := reads_flat HTW.out (by omega) (by omega)
      cases he2
      have x1 : (W).cell? ⟨bt, off + 3, none⟩ = some (.int .i64 x.pos) := hcell2 3 _ rfl
      have hbw2 : bt < (W).heap.size := by have := HBW.out.size; omega
      have hlk : 1 < n1 := by have := HN1.out; simp only [List.length_cons] at this; omega
      have g1 : decide ((1 : Int) < (n1 : Int)) = true := decide_eq_true (by omega)
      have g2 : decide (1 < n1) = true := decide_eq_true hlk
      clear hcell2 hb2
      go_upto_region 17 with fail
      go_quiet (fail)
      go_wp2_with fail
      go_ret2
      rw [HX.out]
      exact ⟨rfl, (HF1.out.trans (Frm.of_below (S := fun _ => False) HBW.out) fun _ h => h.elim).drewN _⟩
     | nil =>
      have hlk : n1 ≤ 1 := by have := HN1.out; simp only [List.length_cons, List.length_nil] at this; omega
      have g1 : decide ((1 : Int) < (n1 : Int)) = false := decide_eq_false (by omega)
      have g2 : decide (1 < n1) = false := decide_eq_false (by omega)
      have hrs := HRW.out.size
      have hblk := HRW.out.raw.blk
      have r3 : (W).cell? ⟨ab, 3, none⟩ = some (.int .i64 (r'.size : Int)) := (hblk.cell 3).trans rfl
      have hal := hblk.lt
      have HBLK := Lib.hid hblk
      clear hblk
      by_cases hfull : 512 < r'.size + (1 + wd)
      ·have HX : Hid (lineL r l = .error (2, t.pos)) := Lib.hid (HEND.out.trans (by show endL r' t k ((0 : Int)) noTok [] = _; unfold endL; rw [← HWE.out, if_pos hfull]))
       obtain ⟨bt2, off2, he2, hb2, hcell2⟩ := reads_flat HTW.out (by omega) (by omega)
       cases he2
       have x1 : (W).cell? ⟨bt, off + 1, none⟩ = some (.int .i64 t.pos) := hcell2 1 _ rfl
       have hbw2 : bt < (W).heap.size := by have := HBW.out.size; omega
       have q1 : decide ((512 : Int) < (r'.size : Int) + 1 + (wd : Int)) = true := decide_eq_true (by omega)
       clear hcell2 hb2 hfull
       go_upto_region 19 with fail
       go_quiet (fail)
       go_wp2_with fail
       go_ret2
       rw [HX.out]
       exact ⟨rfl, (HF1.out.trans (Frm.of_below (S := fun _ => False) HBW.out) fun _ h => h.elim).drewN _⟩
      ·have HX : Hid (lineL r l = .ok ⟨r'.labels, r'.ins ++ [⟨k, (0 : Int), r'.size, noTok⟩]⟩) := Lib.hid (HEND.out.trans (by show endL r' t k ((0 : Int)) noTok [] = _; unfold endL; rw [← HWE.out, if_neg hfull]))
       have q1 : decide ((512 : Int) < (r'.size : Int) + 1 + (wd : Int)) = false := decide_eq_false (by omega)
       have HFU := Lib.hid hfull
       have HFW : Hid (Frm w W (RaS ab B)) := Lib.hid (HF1.out.trans (Frm.of_below (S := fun _ => False) HBW.out) fun _ h => h.elim)
       have hBW : B ≤ (W).heap.size := Nat.le_trans hBw1 HBW.out.size
       obtain ⟨oo, hoo⟩ : ∃ oo : Int, oo = (0 : Int) := ⟨_, rfl⟩
       obtain ⟨qq, hqq⟩ : ∃ qq : ByteArray, qq = ⟨(noTok).s.toArray⟩ := ⟨_, rfl⟩
       obtain ⟨pp, hpp⟩ : ∃ pp : Int, pp = (noTok).pos := ⟨_, rfl⟩
       have HOB1 : Hid (Blk W ob 113 #[.int .i64 k, .int .i64 oo]) := Lib.hid (by rw [hoo]; exact HOB.out)
       have HNB1 : Hid (Blk W nb 159 #[.string qq, .int .i64 pp]) := Lib.hid (by rw [hqq, hpp]; exact HNB.out)
       have HTK : Hid (tkc noTok = [.string qq, .int .i64 pp]) := Lib.hid (by rw [hqq, hpp]; rfl)
       have HOO := Lib.hid hoo
       obtain ⟨m, hm⟩ : ∃ m, m = r'.ins.length := ⟨_, rfl⟩
       have HM := Lib.hid hm
       have hm5 : m ≤ 512 := by have := HRW.out.len; omega
       have hc63 : m + 1 ≤ maxLen := by unfold maxLen; omega
       have hcb16 : (m + 1) * 16 ≤ 140737488355328 := by omega
       have hcb8 : (m + 1) * 8 ≤ 140737488355328 := by omega
       have hcb24 : (m + 1) * 24 ≤ 140737488355328 := by omega
       have HRR := HRW.out.raw
       have HLO : Hid ((r'.ins.map Ins.op).length = m) := Lib.hid (by rw [List.length_map, hm])
       have HLA2 : Hid ((r'.ins.map Ins.pos).length = m) := Lib.hid (by rw [List.length_map, hm])
       have HLN : Hid ((r'.ins.map Ins.name).length = m) := Lib.hid (by rw [List.length_map, hm])
       have HRAW := Lib.hid HRR
       have hov2 : ov1.ownBlock ≠ some ob := fun e => by have := (HR1.out.raw.ops.lt ob e).2; have := HOW.out; omega
       have hnv2 : nv1.ownBlock ≠ some nb := fun e => by have := (HR1.out.raw.nms.lt nb e).2; have := HOW.out; omega
       have HOV := Lib.hid hov2
       have HNV := Lib.hid hnv2
       clear hfull hoo hqq hpp hm HRR hov2 hnv2
       rw [HOO.out.symm] at HX
       go_upto_region 20 with fail
       go_cut [80] from 80 (fun _ wc => ∃ ov2 : Value, RaRaw B wc ab ov2 av1 nv1 lv1 (r'.size : Int) (r'.ins.map Ins.op ++ [⟨k, oo⟩]) (r'.ins.map Ins.pos) (r'.ins.map Ins.name) (r'.labels.map labTok) ∧ Frm w wc (RaS ab B) ∧ B ≤ wc.heap.size ∧ Blk wc nb 159 #[.string qq, .int .i64 pp])
       case first =>
        have hown := HRAW.out.ops
        rw [HLO.out] at hown
        have hblk := HRAW.out.blk
        have hnb := own_ne_blk hown hblk (by decide)
        have m0 : (W).cell? ⟨ab, 0, none⟩ = some ov1 := (hblk.cell 0).trans rfl
        have o0 : (W).cell? ⟨ob, 0, none⟩ = some (.int .i64 k) := (HOB1.out.cell 0).trans rfl
        have o1 : (W).cell? ⟨ob, 1, none⟩ = some (.int .i64 oo) := (HOB1.out.cell 1).trans rfl
        have hol := HOB1.out.lt
        have h1c : ∀ v ∈ [Value.int .i64 k, .int .i64 oo], v.oneCell' = true := by intro v hv; simp at hv; rcases hv with rfl | rfl <;> rfl
        obtain ⟨i0, hi, hz0, hz1, hz2⟩ := info_parts info_op
        go_region_law
         (refine step_append_lies _ (by rfl) _ _ _ (by rfl) B 113 i0 _ 2 16 Tryz.underlying108 hi hz0 hz1 hz2 rfl (by omega) ov1 m (rows opc (r'.ins.map Ins.op)) (by rfl) (show _ from hown.alloc _)
           ⟨(W).heap.size, 0, none⟩ 1 1 [.int .i64 k, .int .i64 oo] (by rfl) (by rfl) (World.news_of_block (cs := #[.int .i64 k, .int .i64 oo]) (t := 113) (fr := (0, 0)) (heap_alloc_new W _)) h1c
           (by omega) hc63 hcb16 (by simp; omega) ((W).heap.size + 1) (by simp) ?_; intro gg cap w3 hown3 hgrow hat hlt3; have hR3 : Blk w3 ab 151 #[ov1, av1, nv1, .int .i64 (r'.size : Int), lv1] := (hgrow.block ab (by simp; omega) (fun hh => hnb hh.symm)).trans ((Below.heap_alloc W _ ab hal).trans hblk); have m4 : w3.cell? ⟨ab, 0, none⟩ = some ov1 := (hR3.cell 0).trans rfl; have f4 : w3.frozen? ⟨ab, 0, none⟩ = false := hR3.frozen 0; have hrl3 : ab < w3.heap.size := hR3.lt)
        all_goals (have hfin := HRAW.out.put_ops (o := ⟨k, oo⟩) hBW (by first | exact ((Below.refl _ _).alloc (Nat.le_refl _) _).drew | exact ((Below.refl _ _).drew.alloc (Nat.le_refl _) _) | exact ((Below.refl _ _).alloc (Nat.le_refl _) _)) hgrow (congrArg (· + 1) HLO.out.symm) hown3)
        all_goals (have hnbk : Blk (w3.setCell ⟨ab, 0, none⟩ (.slice (some ⟨gg, 0, none⟩) (m + 1) cap)) nb 159 #[.string qq, .int .i64 pp] := Blk.far (((hgrow.block nb (by have := HNB1.out.lt; simp; omega) (fun hh => own_ne_blk hown HNB1.out (by decide) hh.symm)).trans ((Below.heap_alloc W _ nb HNB1.out.lt).trans HNB1.out))) (HNB1.out.ne_ hblk (by decide)) _)
        all_goals go_wp2_with fail
        all_goals go_meet
        all_goals exact ⟨_, hfin.1, HFW.out.trans hfin.2 (fun _ h => .inl h), Nat.le_trans hBW hfin.2.size, hnbk⟩
       case rest =>
        obtain ⟨ov2, hraw2, hF2, hBW2, hNB2⟩ := hcut
        have hal := hraw2.blk.lt
        obtain ⟨W2, hW2⟩ : ∃ W2, W2 = wc := ⟨_, rfl⟩
        rw [← hW2] at hraw2 hF2 hBW2 hNB2 hal ⊢
        have HRA2 := Lib.hid hraw2
        have HF2 := Lib.hid hF2
        have HNB2 := Lib.hid hNB2
        clear hW2 hraw2 hF2 hNB2
        go_upto_region 21 with fail
        go_cut [90] from 90 (fun _ wc => ∃ av2 : Value, RaRaw B wc ab ov2 av2 nv1 lv1 (r'.size : Int) (r'.ins.map Ins.op ++ [⟨k, oo⟩]) (r'.ins.map Ins.pos ++ [r'.size]) (r'.ins.map Ins.name) (r'.labels.map labTok) ∧ Frm w wc (RaS ab B) ∧ B ≤ wc.heap.size ∧ Blk wc nb 159 #[.string qq, .int .i64 pp])
        case first =>
         have hown := HRA2.out.ats
         rw [HLA2.out] at hown
         have hblk := HRA2.out.blk
         have hnb := own_ne_blk hown hblk (by decide)
         have m0 : W2.cell? ⟨ab, 1, none⟩ = some av1 := (hblk.cell 1).trans rfl
         have m3 : W2.cell? ⟨ab, 3, none⟩ = some (.int .i64 (r'.size : Int)) := (hblk.cell 3).trans rfl
         have h1c : ∀ v ∈ [Value.int .i64 (r'.size : Int)], v.oneCell' = true := by intro v hv; simp at hv; rcases hv with rfl; rfl
         obtain ⟨i0, hi, hz0, hz1, hz2⟩ := info_parts info_int
         go_region_law
          (refine step_append_lies _ (by rfl) _ _ _ (by rfl) B 3 i0 _ 1 8 Tryz.underlying47 hi hz0 hz1 hz2 rfl (by omega) av1 m (plc (r'.ins.map Ins.pos)) (by rfl) (show _ from hown.alloc _)
            ⟨W2.heap.size, 0, none⟩ 1 1 [.int .i64 (r'.size : Int)] (by rfl) (by rfl) (World.news_of_block (cs := #[.int .i64 (r'.size : Int)]) (t := 3) (fr := (0, 0)) (heap_alloc_new W2 _)) h1c
            (by omega) hc63 hcb8 (by simp; omega) (W2.heap.size + 1) (by simp) ?_; intro gg cap w3 hown3 hgrow hat hlt3; have hR3 : Blk w3 ab 151 #[ov2, av1, nv1, .int .i64 (r'.size : Int), lv1] := (hgrow.block ab (by simp; omega) (fun hh => hnb hh.symm)).trans ((Below.heap_alloc W2 _ ab hal).trans hblk); have m4 : w3.cell? ⟨ab, 1, none⟩ = some av1 := (hR3.cell 1).trans rfl; have m5 : w3.cell? ⟨ab, 3, none⟩ = some (.int .i64 (r'.size : Int)) := (hR3.cell 3).trans rfl; have f4 : w3.frozen? ⟨ab, 1, none⟩ = false := hR3.frozen 1; have hrl3 : ab < w3.heap.size := hR3.lt)
         all_goals (have hfin := HRA2.out.put_ats (p := r'.size) hBW2 (by first | exact ((Below.refl _ _).alloc (Nat.le_refl _) _).drew | exact ((Below.refl _ _).drew.alloc (Nat.le_refl _) _) | exact ((Below.refl _ _).alloc (Nat.le_refl _) _)) hgrow (congrArg (· + 1) HLA2.out.symm) hown3)
         all_goals (have hnbk : Blk (w3.setCell ⟨ab, 1, none⟩ (.slice (some ⟨gg, 0, none⟩) (m + 1) cap)) nb 159 #[.string qq, .int .i64 pp] := Blk.far (((hgrow.block nb (by have := HNB2.out.lt; simp; omega) (fun hh => own_ne_blk hown HNB2.out (by decide) hh.symm)).trans ((Below.heap_alloc W2 _ nb HNB2.out.lt).trans HNB2.out))) (HNB2.out.ne_ hblk (by decide)) _)
         all_goals go_wp2_with fail
         all_goals go_meet
         all_goals exact ⟨_, hfin.1, HF2.out.trans hfin.2 (fun _ h => .inl h), Nat.le_trans hBW2 hfin.2.size, hnbk⟩
        case rest =>
         obtain ⟨av2, hraw3, hF3, hBW3, hNB3⟩ := hcut
         have hal := hraw3.blk.lt
         obtain ⟨W3, hW3⟩ : ∃ W3, W3 = wc := ⟨_, rfl⟩
         rw [← hW3] at hraw3 hF3 hBW3 hNB3 hal ⊢
         have HRA3 := Lib.hid hraw3
         have HF3 := Lib.hid hF3
         have HNB3 := Lib.hid hNB3
         clear hW3 hraw3 hF3 hNB3
         go_upto_region 22 with fail
         go_cut [103] from 103 (fun _ wc => ∃ nv2 : Value, RaRaw B wc ab ov2 av2 nv2 lv1 (r'.size : Int) (r'.ins.map Ins.op ++ [⟨k, oo⟩]) (r'.ins.map Ins.pos ++ [r'.size]) (r'.ins.map Ins.name ++ [noTok]) (r'.labels.map labTok) ∧ Frm w wc (RaS ab B))
         case first =>
          have hown := HRA3.out.nms
          rw [HLN.out] at hown
          have hblk := HRA3.out.blk
          have hnb := own_ne_blk hown hblk (by decide)
          have m0 : W3.cell? ⟨ab, 2, none⟩ = some nv1 := (hblk.cell 2).trans rfl
          have n0 : W3.cell? ⟨nb, 0, none⟩ = some (.string qq) := (HNB3.out.cell 0).trans rfl
          have n1' : W3.cell? ⟨nb, 1, none⟩ = some (.int .i64 pp) := (HNB3.out.cell 1).trans rfl
          have hnl := HNB3.out.lt
          have h1c : ∀ v ∈ [Value.string qq, .int .i64 pp], v.oneCell' = true := by intro v hv; simp at hv; rcases hv with rfl | rfl <;> rfl
          obtain ⟨i0, hi, hz0, hz1, hz2⟩ := info_parts info_rtok
          go_region_law
           (refine step_append_lies _ (by rfl) _ _ _ (by rfl) B 159 i0 _ 2 24 Tryz.underlying149 hi hz0 hz1 hz2 rfl (by omega) nv1 m (rows tkc (r'.ins.map Ins.name)) (by rfl) (show _ from hown.alloc _)
             ⟨W3.heap.size, 0, none⟩ 1 1 [.string qq, .int .i64 pp] (by rfl) (by rfl) (World.news_of_block (cs := #[.string qq, .int .i64 pp]) (t := 159) (fr := (0, 0)) (heap_alloc_new W3 _)) h1c
             (by omega) hc63 hcb24 (by simp; omega) (W3.heap.size + 1) (by simp) ?_; intro gg cap w3 hown3 hgrow hat hlt3; have hR3 : Blk w3 ab 151 #[ov2, av2, nv1, .int .i64 (r'.size : Int), lv1] := (hgrow.block ab (by simp; omega) (fun hh => hnb hh.symm)).trans ((Below.heap_alloc W3 _ ab hal).trans hblk); have m4 : w3.cell? ⟨ab, 2, none⟩ = some nv1 := (hR3.cell 2).trans rfl; have f4 : w3.frozen? ⟨ab, 2, none⟩ = false := hR3.frozen 2; have hrl3 : ab < w3.heap.size := hR3.lt)
          all_goals (have hfin := HRA3.out.put_nms (t := noTok) hBW3 (by first | exact ((Below.refl _ _).alloc (Nat.le_refl _) _).drew | exact ((Below.refl _ _).drew.alloc (Nat.le_refl _) _) | exact ((Below.refl _ _).alloc (Nat.le_refl _) _)) hgrow (hat.imp id fun h => by omega) (congrArg (· + 1) HLN.out.symm) (by rw [HTK.out]; exact hown3))
          all_goals go_wp2_with fail
          all_goals go_meet
          all_goals exact ⟨_, hfin.1, HF3.out.trans hfin.2 (fun _ h => .inl h)⟩
         case rest =>
          obtain ⟨nv2, hraw4, hF4⟩ := hcut
          have hal := hraw4.blk.lt
          have m3 : wc.cell? ⟨ab, 3, none⟩ = some (.int .i64 (r'.size : Int)) := (hraw4.blk.cell 3).trans rfl
          have f3 : wc.frozen? ⟨ab, 3, none⟩ = false := hraw4.blk.frozen 3
          have HRA4 := Lib.hid hraw4
          have HF4 := Lib.hid hF4
          clear hraw4 hF4
          go_wp2_with fail
          go_ret2
          rw [HX.out]
          have hps := HRA4.out.put_size ((r'.size : Int) + 1 + (wd : Int))
          refine ⟨ov2, av2, nv2, lv1, rfl, RaIs.added (x := ⟨k, oo, r'.size, noTok⟩) hps.1 HRW.out.len (by rw [← HWE.out]; omega) (by have := HFU.out; rw [← HWE.out]; omega), HF4.out.trans hps.2 fun _ h => .inl h⟩
def lnc (v : Value) : List Value := [v, .string ⟨#[]⟩]
theorem lnc_len (v : Value) : (lnc v).length = 2 := rfl
theorem info_line : (Tryz.prog.info? 157).map (fun i => (i.zero, i.size, i.bytes)) = some (some (.agg #[.slice none 0 0, .string ⟨#[]⟩]), 2, 40) := by kernel_rfl
theorem rows_set_last {α : Type} (enc : α → List Value) (k : Nat) (hk : ∀ x, (enc x).length = k) (l : List α) (x y : α) (j : Nat) (u : Value) (h : enc y = (enc x).set j u) : (rows enc (l ++ [x])).set (l.length * k + j) u = rows enc (l ++ [y]) := by
 rw [rows_snoc, rows_snoc, List.set_append_right _ _ (by rw [rows_length enc k hk]; omega), rows_length enc k hk, h]
 congr 2
 omega
structure LnIs (B : Nat) (w : World) (ov : Value) (vs : List Value) (ls : List (List Tok)) : Prop where
 len : vs.length = ls.length
 out : w.ownsRow B 157 2 ov ls.length (rows lnc vs)
 own : ∀ (j : Nat) (v : Value) (l : List Tok), vs[j]? = some v → ls[j]? = some l → w.ownsRow B 159 2 v l.length (rows tkc l)
 ne : ∀ (i j : Nat) (vi vj : Value) (q : Nat), i ≠ j → vs[i]? = some vi → vs[j]? = some vj → vi.ownBlock = some q → vj.ownBlock ≠ some q
theorem LnIs.keep {B : Nat} {w w' : World} {ov : Value} {vs : List Value} {ls : List (List Tok)} (h : LnIs B w ov vs ls) (hb : Below w.heap.size w w') : LnIs B w' ov vs ls :=
 ⟨h.len, own_beb h.out hb, fun j v l h1 h2 => own_beb (h.own j v l h1 h2) hb, h.ne⟩
theorem snoc_get {α : Type} {l : List α} {x y : α} {j : Nat} (h : (l ++ [x])[j]? = some y) : (j < l.length ∧ l[j]? = some y) ∨ (j = l.length ∧ y = x) := by
 rcases Nat.lt_or_ge j l.length with hj | hj
 ·rw [List.getElem?_append_left hj] at h
  exact .inl ⟨hj, h⟩
 ·rw [List.getElem?_append_right hj] at h
  have : j - l.length = 0 := by
   rcases Nat.eq_zero_or_pos (j - l.length) with h0 | h0
   ·exact h0
   ·rw [List.getElem?_eq_none (by rw [List.length_singleton]; omega)] at h; cases h
  rw [this] at h
  exact .inr ⟨by omega, by simpa using h.symm⟩
theorem LnIs.newline {B : Nat} {w WA w3 : World} {ov ov' : Value} {vs : List Value} {ls : List (List Tok)} (h : LnIs B w ov vs ls) (hA : Below w.heap.size w WA) (hg : WA.grownBy w3 ov.ownBlock)
  (hown3 : w3.ownsRow B 157 2 ov' (ls.length + 1) (rows lnc vs ++ lnc (.slice none 0 0))) : LnIs B w3 ov' (vs ++ [.slice none 0 0]) (ls ++ [[]]) := by
 refine ⟨by simp [h.len], by rw [List.length_append, List.length_singleton, rows_snoc]; exact hown3, ?_, ?_⟩
 ·intro j v l h1 h2
  rcases snoc_get h1 with ⟨hj, h1⟩ | ⟨hj, rfl⟩
  ·rcases snoc_get h2 with ⟨_, h2⟩ | ⟨hj2, _⟩
   ·have ho := h.own j v l h1 h2
    exact own_keep ho fun b hb => (hg.block b (Nat.lt_of_lt_of_le (ho.lt b hb).2 hA.size) (fun e => own_ne ho h.out (by decide) hb e.symm)).trans (hA.block b (ho.lt b hb).2)
   ·have := h.len; omega
  ·rcases snoc_get h2 with ⟨hj2, _⟩ | ⟨_, rfl⟩
   ·have := h.len; omega
   ·exact World.ownsRow_nil _ _ _ _
 ·intro i j vi vj q hij h1 h2 hq
  rcases snoc_get h1 with ⟨hi, h1⟩ | ⟨hi, rfl⟩
  ·rcases snoc_get h2 with ⟨hj, h2⟩ | ⟨hj, rfl⟩
   ·exact h.ne i j vi vj q hij h1 h2 hq
   ·simp [Value.ownBlock]
  ·simp [Value.ownBlock] at hq
theorem LnIs.start (w : World) (cap : Nat) (h1 : (w.alloc (.cells #[.slice none 0 0, .string ⟨#[]⟩] 157)).ownsRow w.heap.size 157 2 (.slice (some ⟨w.heap.size, 0, none⟩) 1 cap) 1 [.slice none 0 0, .string ⟨#[]⟩]) :
  LnIs w.heap.size (w.alloc (.cells #[.slice none 0 0, .string ⟨#[]⟩] 157)) (.slice (some ⟨w.heap.size, 0, none⟩) 1 cap) ([] ++ [.slice none 0 0]) ([] ++ [[]]) := by
 refine ⟨rfl, h1, ?_, ?_⟩
 ·intro j v l h1 h2
  rcases snoc_get h1 with ⟨hj, _⟩ | ⟨_, rfl⟩
  ·exact absurd hj (by simp)
  ·rcases snoc_get h2 with ⟨hj, _⟩ | ⟨_, rfl⟩
   ·exact absurd hj (by simp)
   ·exact World.ownsRow_nil _ _ _ _
 ·intro i j vi vj q hij h1 h2 hq
  rcases snoc_get h1 with ⟨hi, _⟩ | ⟨_, rfl⟩
  ·exact absurd hi (by simp)
  ·simp [Value.ownBlock] at hq
theorem LnIs.put_last {B : Nat} {w WA w3 : World} {g n cap gg m c' : Nat} {v : Value} {vs0 : List Value} {ls0 : List (List Tok)} {l : List Tok} {t : Tok} (h : LnIs B w (.slice (some ⟨g, 0, none⟩) n cap) (vs0 ++ [v]) (ls0 ++ [l])) (hn : n = ls0.length + 1) (hA : Below w.heap.size w WA) (hg : WA.grownBy w3 v.ownBlock)
  (hown3 : w3.ownsRow B 159 2 (.slice (some ⟨gg, 0, none⟩) m c') m (rows tkc l ++ tkc t)) (hm : m = l.length + 1) (hat : v.ownBlock = some gg ∨ w.heap.size ≤ gg) :
  LnIs B (w3.setCell ⟨g, ls0.length * 2, none⟩ (.slice (some ⟨gg, 0, none⟩) m c')) (.slice (some ⟨g, 0, none⟩) n cap) (vs0 ++ [.slice (some ⟨gg, 0, none⟩) m c']) (ls0 ++ [l ++ [t]]) := by
 have hlen : vs0.length = ls0.length := by have := h.len; simp at this; exact this
 have hv : w.ownsRow B 159 2 v l.length (rows tkc l) := h.own ls0.length v l (by rw [← hlen]; simp) (by simp)
 have ho3 : w3.ownsRow B 157 2 (.slice (some ⟨g, 0, none⟩) n cap) n (rows lnc (vs0 ++ [v])) := by
  have h0 := h.out
  rw [List.length_append, List.length_singleton, ← hn] at h0
  exact own_keep h0 fun b hb => (hg.block b (Nat.lt_of_lt_of_le (h0.lt b hb).2 hA.size) (fun e => own_ne h0 hv (by decide) hb e.symm)).trans (hA.block b (h0.lt b hb).2)
 have hgl : g < w.heap.size ∧ B ≤ g := ⟨(h.out.lt g rfl).2, (h.out.lt g rfl).1⟩
 have hst := (ho3.stored (ls0.length * 2) (.slice (some ⟨gg, 0, none⟩) m c')).1
 have e2 : (rows lnc (vs0 ++ [v])).set (ls0.length * 2) (.slice (some ⟨gg, 0, none⟩) m c') = rows lnc (vs0 ++ [.slice (some ⟨gg, 0, none⟩) m c']) := by
  have := rows_set_last lnc 2 lnc_len vs0 v (.slice (some ⟨gg, 0, none⟩) m c') 0 (.slice (some ⟨gg, 0, none⟩) m c') rfl
  rw [hlen] at this
  exact this
 rw [e2] at hst
 have hgt : gg ≠ g := by
  obtain ⟨c3, hc3⟩ := own_blk hown3 (b := gg) rfl
  obtain ⟨c4, hc4⟩ := own_blk ho3 (b := g) rfl
  exact Blk.ne_ hc3 hc4 (by decide)
 refine ⟨by simp [hlen], by rw [List.length_append, List.length_singleton, ← hn]; exact hst, ?_, ?_⟩
 ·intro j x y h1 h2
  rcases snoc_get h1 with ⟨hj, h1⟩ | ⟨hj, rfl⟩
  ·rcases snoc_get h2 with ⟨_, h2⟩ | ⟨hj2, _⟩
   ·have h1' : (vs0 ++ [v])[j]? = some x := by rw [List.getElem?_append_left hj]; exact h1
    have ho := h.own j x y h1' (by rw [List.getElem?_append_left (by omega)]; exact h2)
    have hne : x.ownBlock ≠ some g := fun e => own_ne ho h.out (by decide) e rfl
    exact own_keep ho fun b hb => (Below.heap_setCell w3 ⟨g, ls0.length * 2, none⟩ _ b (fun e => hne (by rw [hb]; exact congrArg some e))).trans ((hg.block b (Nat.lt_of_lt_of_le (ho.lt b hb).2 hA.size) (fun e => h.ne j vs0.length x v b (by omega) h1' (by simp) hb e.symm)).trans (hA.block b (ho.lt b hb).2))
   ·omega
  ·rcases snoc_get h2 with ⟨hj2, _⟩ | ⟨_, rfl⟩
   ·omega
   ·rw [List.length_append, List.length_singleton, ← hm, rows_snoc]
    exact own_keep hown3 fun b hb => Below.heap_setCell w3 ⟨g, ls0.length * 2, none⟩ _ b (fun e => hgt ((show gg = b from (by simpa [Value.ownBlock] using hb)).trans e))
 ·intro i j vi vj q hij h1 h2 hq he
  rcases snoc_get h1 with ⟨hi, h1⟩ | ⟨hi, rfl⟩
  ·have h1' : (vs0 ++ [v])[i]? = some vi := by rw [List.getElem?_append_left hi]; exact h1
   rcases snoc_get h2 with ⟨hj, h2⟩ | ⟨hj, rfl⟩
   ·exact h.ne i j vi vj q hij h1' (by rw [List.getElem?_append_left hj]; exact h2) hq he
   ·have : gg = q := by simpa [Value.ownBlock] using he
    subst this
    rcases hat with h3 | h3
    ·exact h.ne i vs0.length vi v gg (by omega) h1' (by simp) hq h3
    ·have ho := h.own i vi (ls0[i]'(by omega)) h1' (by rw [List.getElem?_append_left (by omega)]; exact List.getElem?_eq_getElem _)
     exact absurd (ho.lt gg hq).2 (by omega)
  ·rcases snoc_get h2 with ⟨hj, h2⟩ | ⟨hj, rfl⟩
   ·have h2' : (vs0 ++ [v])[j]? = some vj := by rw [List.getElem?_append_left hj]; exact h2
    have : gg = q := by simpa [Value.ownBlock] using hq
    subst this
    rcases hat with h3 | h3
    ·exact h.ne vs0.length j v vj gg (by omega) (by simp) h2' h3 he
    ·have ho := h.own j vj (ls0[j]'(by omega)) h2' (by rw [List.getElem?_append_left (by omega)]; exact List.getElem?_eq_getElem _)
     exact absurd (ho.lt gg he).2 (by omega)
   ·omega
theorem LnIs.put_text {B : Nat} {w : World} {gg m c' : Nat} {ov : Value} {vs0 : List Value} {ls0 : List (List Tok)} {l : List Tok} {t : Tok} (h : LnIs B w ov (vs0 ++ [.slice (some ⟨gg, 0, none⟩) m c']) (ls0 ++ [l ++ [t]])) (u : List UInt8) :
  LnIs B (w.setCell ⟨gg, l.length * 2, none⟩ (.string ⟨u.toArray⟩)) ov (vs0 ++ [.slice (some ⟨gg, 0, none⟩) m c']) (ls0 ++ [l ++ [⟨u, t.pos⟩]]) := by
 have hlen : vs0.length = ls0.length := by have := h.len; simp at this; exact this
 have hv := h.own ls0.length (.slice (some ⟨gg, 0, none⟩) m c') (l ++ [t]) (by rw [← hlen]; simp) (by simp)
 have hm : m = (l ++ [t]).length := by
  obtain ⟨g', cap', he, _⟩ := hv.form (by simp)
  injection he
 subst hm
 have hst := (hv.stored (l.length * 2) (.string ⟨u.toArray⟩)).1
 have e2 : (rows tkc (l ++ [t])).set (l.length * 2) (.string ⟨u.toArray⟩) = rows tkc (l ++ [⟨u, t.pos⟩]) := rows_set_last tkc 2 tkc_len l t ⟨u, t.pos⟩ 0 (.string ⟨u.toArray⟩) rfl
 rw [e2] at hst
 refine ⟨by simp [hlen], ?_, ?_, h.ne⟩
 ·have h0 := h.out
  rw [List.length_append, List.length_singleton] at h0 ⊢
  exact own_keep h0 fun b hb => Below.heap_setCell w ⟨gg, l.length * 2, none⟩ _ b (fun e => own_ne h0 hv (by decide) hb (congrArg some e.symm))
 ·intro j x y h1 h2
  rcases snoc_get h1 with ⟨hj, h1⟩ | ⟨hj, rfl⟩
  ·rcases snoc_get h2 with ⟨_, h2⟩ | ⟨hj2, _⟩
   ·have h1' : (vs0 ++ [.slice (some ⟨gg, 0, none⟩) (l ++ [t]).length c'])[j]? = some x := by rw [List.getElem?_append_left hj]; exact h1
    have ho := h.own j x y h1' (by rw [List.getElem?_append_left (by omega)]; exact h2)
    exact own_keep ho fun b hb => Below.heap_setCell w ⟨gg, l.length * 2, none⟩ _ b (fun e => h.ne j vs0.length x (.slice (some ⟨gg, 0, none⟩) (l ++ [t]).length c') b (by omega) h1' (by simp) hb (congrArg some e.symm))
   ·omega
  ·rcases snoc_get h2 with ⟨hj2, _⟩ | ⟨_, rfl⟩
   ·omega
   ·have : (l ++ [(⟨u, t.pos⟩ : Tok)]).length = (l ++ [t]).length := by simp
    rw [this]
    exact hst
theorem docD_inn (t : List UInt8) (h : (docD t).inn = true) : ∃ l x, (docD t).line = l ++ [x] := by
 unfold docD at h ⊢
 simp only [Bool.and_eq_true, Bool.not_eq_true', List.isEmpty_eq_false_iff] at h ⊢
 obtain ⟨h1, h2⟩ := h
 have h3 : (35 : UInt8) ∉ (tx t).2.2 := by simpa using h1
 unfold lineTok
 rw [cutR_clean _ h3]
 unfold flushT
 rw [if_neg h2]
 exact ⟨_, _, rfl⟩
theorem grow1_snoc (l : List Tok) (x : Tok) (c : UInt8) : grow1 (l ++ [x]) c = l ++ [⟨x.s ++ [c], x.pos⟩] := by
 unfold grow1
 simp
end Go.Proofs.YtiheggkkgbfndaaGreatDoor
