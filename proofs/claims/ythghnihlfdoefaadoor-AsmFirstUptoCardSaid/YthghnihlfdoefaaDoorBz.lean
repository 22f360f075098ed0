/- carouselref14: operand. -/
import Derived.Test.YthghnihlfdoefaaDoorBx
import Derived.Test.YthghnihlfdoefaaDoorBu
import Derived.Test.YthghnihlfdoefaaDoorPa
namespace Go.Proofs.YthghnihlfdoefaaDoor
open Go.RowKit Go.Joins Go.ChangeShapes Go.WideShapes Go.Deep
set_option linter.unusedVariables false
set_option linter.unusedSimpArgs false
set_option maxRecDepth 100000

/-- What operand of the document tells: the number, the name; what is wrong, where. -/
def opdL (u : Tok) (k : Nat) : List Tok → Except (Nat × Nat) (Int × Tok)
  | [] => .error (9, u.pos + u.s.length)
  | t :: _ => match oprL k t with
    | .error e => .error (e, t.pos)
    | .ok x => .ok x
def OpdPost (w : World) (x : Except (Nat × Nat) (Int × Tok)) (e : Ending) (w' : World) : Prop := Below w.heap.size w w' ∧ match x with
  | .error y => e = .returned (.tuple #[.int .i64 0, .agg #[.string ⟨#[]⟩, .int .i64 0], .int .i64 y.1, .int .i64 y.2])
  | .ok (o, nm) => e = .returned (.tuple #[.int .i64 o, .agg #[.string ⟨nm.s.toArray⟩, .int .i64 nm.pos], .int .i64 0, .int .i64 0])
theorem oprL_num {k : Nat} {t : Tok} {m : Int} (h : numF t.s = some m) : oprL k t = if fitsF (shapeF k) m then .ok (m, noTok) else .error 12 := by
  unfold oprL
  rw [h]
theorem oprL_nam {k : Nat} {t : Tok} (h : numF t.s = none) : oprL k t = if leadsF k && nameF t.s then .ok (0, t) else .error 9 := by
  unfold oprL
  rw [h]
set_option maxHeartbeats 4000000 in
theorem operand_doc {w : World} (k : Nat) (hk : k < 41) (u : Tok) (rest : List Tok) (A : Option Addr) (n c : Nat) (hT : Reads w w.heap.size 2 A n (rows tkc (u :: rest))) (hu : ∀ t ∈ u :: rest, t.s.length ≤ 4294967296 ∧ t.pos ≤ 4294967296) :
    Calls Tryd.prog 55 #[.int .i64 k, .slice A n c] w (OpdPost w (opdL u k rest)) := by
  have hl := hT.1
  rw [rows_length tkc 2 tkc_len] at hl
  have hn0 : n = rest.length + 1 := by rw [List.length_cons] at hl; omega
  obtain ⟨bt, off, rfl, hbt, hcell⟩ := reads_flat hT (by omega) (by omega)
  cases rest with
  | nil =>
    have hn1 : n = 1 := by simpa using hn0
    subst hn1
    obtain ⟨s, hs⟩ : ∃ s : ByteArray, s = ⟨u.s.toArray⟩ := ⟨_, rfl⟩
    have c0 : w.cell? ⟨bt, off, none⟩ = some (.string s) := hs ▸ hcell 0 _ rfl
    have c1 : w.cell? ⟨bt, off + 1, none⟩ = some (.int .i64 u.pos) := hcell 1 _ rfl
    have hu1 := hu u (List.mem_cons_self ..)
    have hsz : s.size = u.s.length := by
      have e1 : s.size = s.data.toList.length := Array.length_toList.symm
      rw [e1, hs]
    have hw : wrap64 ((u.pos : Int) + (s.size : Int)) = (u.pos : Int) + (s.size : Int) := by unfold wrap64; omega
    have HSZ := Lib.hid hsz
    have hpz : (u.pos : Int) + (s.size : Int) ≤ 9223372036854775807 := by omega
    clear hcell hs hl hn0 hT hsz
    go_enter Tryd.func55, Tryd.ntmps55
    go_wp2_with fail
    go_region
    have HX : Hid (opdL u k [] = .error (9, u.pos + u.s.length)) := Lib.hid rfl
    go_wp2_with fail
    refine bodyPost_ret (v := .tuple #[.int .i64 (0), .agg #[.string ⟨#[]⟩, .int .i64 0], .int .i64 (9), .int .i64 ((u.pos : Int) + (s.size : Int))]) (by simp [results, Tryd.results55, go_sem]) rfl ?_
    refine ⟨by repeat (first | with_reducible exact Below.refl _ _ | with_reducible refine Below.drew ?_ | with_reducible refine below_drewN ?_ _ | ((with_reducible refine Below.alloc ?_ ?_ _); (rotate_left; focus (first | with_reducible exact Nat.le_refl _ | omega | (simp; done) | (simp; omega) | (simp [World.setCell]; done) | (simp [World.setCell]; omega)))) | ((with_reducible refine Below.setCell ?_ ?_ _); (rotate_left; focus (first | with_reducible exact Nat.le_refl _ | omega | (simp; done) | (simp; omega) | (simp [World.setCell]; done) | (simp [World.setCell]; omega))))), ?_⟩
    rw [HX.out]
    show _ = Ending.returned (.tuple #[_, _, _, .int .i64 ((u.pos + u.s.length : Nat) : Int)])
    rw [← HSZ.out, Int.natCast_add]
    rfl
  | cons t rest' =>
    have hn2 : 2 ≤ n := by rw [hn0, List.length_cons]; omega
    have z1 : decide ((n : Int) < 2) = false := decide_eq_false (by omega)
    have z2 : decide (n < 2) = false := decide_eq_false (by omega)
    obtain ⟨s, hs⟩ : ∃ s : ByteArray, s = ⟨t.s.toArray⟩ := ⟨_, rfl⟩
    have c0 : w.cell? ⟨bt, off + 2, none⟩ = some (.string s) := hs ▸ hcell 2 _ rfl
    have c1 : w.cell? ⟨bt, off + 3, none⟩ = some (.int .i64 t.pos) := hcell 3 _ rfl
    have ht1 := hu t (by simp)
    have hsl : s.data.toList = t.s := by rw [hs]
    have hsz : s.size = t.s.length := by
      have e1 : s.size = s.data.toList.length := Array.length_toList.symm
      rw [e1, hsl]
    have HSQ := Lib.hid hs
    have HNA := Lib.hid (fun W => name_any s (by omega) W)
    have HLE := Lib.hid (fun W => rleads_any k W)
    have HRG := Lib.hid (fun W => range_any k hk W)
    have HNP := Lib.hid (fun W => number_any s.size s (Nat.le_refl _) (by omega) W)
    rw [hsl] at HNA
    have hn1 : 1 < n := by omega
    clear hcell hs hl hn0 hT hsz
    cases hnum : numF t.s with
    | none =>
      have HNU : Hid (∀ W, Calls Tryd.prog 73 #[.string s] W fun e w' => w' = W ∧ ∃ mm : Int, e = .returned (.tuple #[.int .i64 mm, .bool false])) := Lib.hid (fun W => (HNP.out W).mono fun e w' h => ⟨h.1, by
        obtain ⟨_, mm, _, h2, _⟩ := h
        rw [hsl, hnum] at h2
        exact ⟨mm, h2⟩⟩)
      cases hlead : leadsF k with
      | false =>
        have HX : Hid (opdL u k (t :: rest') = .error (9, t.pos)) := Lib.hid (by show (match oprL k t with | .error e => _ | .ok x => _) = _; rw [oprL_nam hnum, hlead]; rfl)
        rw [hlead] at HLE
        generalize nameF t.s = bn at HNA
        clear hnum hlead hsl HNP
        go_enter Tryd.func55, Tryd.ntmps55
        go_wp2_with (first | (go_at_call 73; refine (HNU.out _).mono ?_; rintro e w1 ⟨hw, mm, rfl⟩; obtain rfl := hw.symm) | (go_at_call 72; refine (HNA.out _).mono ?_; rintro e w1 ⟨rfl, hw⟩; obtain rfl := hw.symm) | (go_at_call 45; refine (HLE.out _).mono ?_; rintro e w1 ⟨rfl, hw⟩; obtain rfl := hw.symm) | (go_at_call 57; refine (HRG.out _).mono ?_; rintro e w1 ⟨rfl, hw⟩; obtain rfl := hw.symm))
        go_region
        go_wp2_with fail
        refine bodyPost_ret (v := .tuple #[.int .i64 (0), .agg #[.string ⟨#[]⟩, .int .i64 0], .int .i64 (9), .int .i64 ((t.pos : Int))]) (by simp [results, Tryd.results55, go_sem]) rfl ?_
        refine ⟨by repeat (first | with_reducible exact Below.refl _ _ | with_reducible refine Below.drew ?_ | with_reducible refine below_drewN ?_ _ | ((with_reducible refine Below.alloc ?_ ?_ _); (rotate_left; focus (first | with_reducible exact Nat.le_refl _ | omega | (simp; done) | (simp; omega) | (simp [World.setCell]; done) | (simp [World.setCell]; omega)))) | ((with_reducible refine Below.setCell ?_ ?_ _); (rotate_left; focus (first | with_reducible exact Nat.le_refl _ | omega | (simp; done) | (simp; omega) | (simp [World.setCell]; done) | (simp [World.setCell]; omega))))), ?_⟩
        rw [HX.out]
        rfl
      | true =>
        rw [hlead] at HLE
        cases hna : nameF t.s with
        | false =>
          have HX : Hid (opdL u k (t :: rest') = .error (9, t.pos)) := Lib.hid (by show (match oprL k t with | .error e => _ | .ok x => _) = _; rw [oprL_nam hnum, hlead, hna]; rfl)
          rw [hna] at HNA
          clear hnum hlead hna hsl HNP
          go_enter Tryd.func55, Tryd.ntmps55
          go_wp2_with (first | (go_at_call 73; refine (HNU.out _).mono ?_; rintro e w1 ⟨hw, mm, rfl⟩; obtain rfl := hw.symm) | (go_at_call 72; refine (HNA.out _).mono ?_; rintro e w1 ⟨rfl, hw⟩; obtain rfl := hw.symm) | (go_at_call 45; refine (HLE.out _).mono ?_; rintro e w1 ⟨rfl, hw⟩; obtain rfl := hw.symm) | (go_at_call 57; refine (HRG.out _).mono ?_; rintro e w1 ⟨rfl, hw⟩; obtain rfl := hw.symm))
          go_region
          go_wp2_with fail
          refine bodyPost_ret (v := .tuple #[.int .i64 (0), .agg #[.string ⟨#[]⟩, .int .i64 0], .int .i64 (9), .int .i64 ((t.pos : Int))]) (by simp [results, Tryd.results55, go_sem]) rfl ?_
          refine ⟨by repeat (first | with_reducible exact Below.refl _ _ | with_reducible refine Below.drew ?_ | with_reducible refine below_drewN ?_ _ | ((with_reducible refine Below.alloc ?_ ?_ _); (rotate_left; focus (first | with_reducible exact Nat.le_refl _ | omega | (simp; done) | (simp; omega) | (simp [World.setCell]; done) | (simp [World.setCell]; omega)))) | ((with_reducible refine Below.setCell ?_ ?_ _); (rotate_left; focus (first | with_reducible exact Nat.le_refl _ | omega | (simp; done) | (simp; omega) | (simp [World.setCell]; done) | (simp [World.setCell]; omega))))), ?_⟩
          rw [HX.out]
          rfl
        | true =>
          have HX : Hid (opdL u k (t :: rest') = .ok (0, t)) := Lib.hid (by show (match oprL k t with | .error e => _ | .ok x => _) = _; rw [oprL_nam hnum, hlead, hna]; rfl)
          rw [hna] at HNA
          clear hnum hlead hna hsl HNP
          go_enter Tryd.func55, Tryd.ntmps55
          go_wp2_with (first | (go_at_call 73; refine (HNU.out _).mono ?_; rintro e w1 ⟨hw, mm, rfl⟩; obtain rfl := hw.symm) | (go_at_call 72; refine (HNA.out _).mono ?_; rintro e w1 ⟨rfl, hw⟩; obtain rfl := hw.symm) | (go_at_call 45; refine (HLE.out _).mono ?_; rintro e w1 ⟨rfl, hw⟩; obtain rfl := hw.symm) | (go_at_call 57; refine (HRG.out _).mono ?_; rintro e w1 ⟨rfl, hw⟩; obtain rfl := hw.symm))
          go_region
          go_wp2_with fail
          refine bodyPost_ret (v := .tuple #[.int .i64 (0), .agg #[.string s, .int .i64 t.pos], .int .i64 (0), .int .i64 (0)]) (by simp [results, Tryd.results55, go_sem]) rfl ?_
          refine ⟨by repeat (first | with_reducible exact Below.refl _ _ | with_reducible refine Below.drew ?_ | with_reducible refine below_drewN ?_ _ | ((with_reducible refine Below.alloc ?_ ?_ _); (rotate_left; focus (first | with_reducible exact Nat.le_refl _ | omega | (simp; done) | (simp; omega) | (simp [World.setCell]; done) | (simp [World.setCell]; omega)))) | ((with_reducible refine Below.setCell ?_ ?_ _); (rotate_left; focus (first | with_reducible exact Nat.le_refl _ | omega | (simp; done) | (simp; omega) | (simp [World.setCell]; done) | (simp [World.setCell]; omega))))), ?_⟩
          rw [HX.out]
          rw [HSQ.out]
    | some m =>
      have hm64 : i64ok0 m := (numF_some.1 hnum).1
      have HNU : Hid (∀ W, Calls Tryd.prog 73 #[.string s] W fun e w' => w' = W ∧ ∃ mm : Unit, e = .returned (.tuple #[.int .i64 m, .bool true])) := Lib.hid (fun W => (HNP.out W).mono fun e w' h => ⟨h.1, by
        obtain ⟨_, mm, _, h2, h3⟩ := h
        have := h3 m (by rw [hsl]; exact hnum)
        subst this
        rw [hsl, hnum] at h2
        exact ⟨(), h2⟩⟩)
      have hfr := fits_range (shapeF k) (by rcases shape_cases k hk with h | h | h | h | h | h | h <;> omega) m hm64.1 hm64.2
      obtain ⟨lo, hlo⟩ : ∃ lo, lo = loF (shapeF k) := ⟨_, rfl⟩
      obtain ⟨hi, hhi⟩ : ∃ hi, hi = hiF (shapeF k) := ⟨_, rfl⟩
      rw [← hlo, ← hhi] at hfr HRG
      generalize nameF t.s = bn at HNA
      generalize leadsF k = bl at HLE
      by_cases h1 : m < lo
      · have q1 : decide (m < lo) = true := decide_eq_true h1
        have HX : Hid (opdL u k (t :: rest') = .error (12, t.pos)) := Lib.hid (by show (match oprL k t with | .error e => _ | .ok x => _) = _; rw [oprL_num hnum, hfr, decide_eq_false (by omega)]; rfl)
        clear hnum hsl HNP hfr hlo hhi h1
        go_enter Tryd.func55, Tryd.ntmps55
        go_wp2_with (first | (go_at_call 73; refine (HNU.out _).mono ?_; rintro e w1 ⟨hw, mm, rfl⟩; obtain rfl := hw.symm) | (go_at_call 72; refine (HNA.out _).mono ?_; rintro e w1 ⟨rfl, hw⟩; obtain rfl := hw.symm) | (go_at_call 45; refine (HLE.out _).mono ?_; rintro e w1 ⟨rfl, hw⟩; obtain rfl := hw.symm) | (go_at_call 57; refine (HRG.out _).mono ?_; rintro e w1 ⟨rfl, hw⟩; obtain rfl := hw.symm))
        go_region
        go_wp2_with fail
        refine bodyPost_ret (v := .tuple #[.int .i64 (0), .agg #[.string ⟨#[]⟩, .int .i64 0], .int .i64 (12), .int .i64 ((t.pos : Int))]) (by simp [results, Tryd.results55, go_sem]) rfl ?_
        refine ⟨by repeat (first | with_reducible exact Below.refl _ _ | with_reducible refine Below.drew ?_ | with_reducible refine below_drewN ?_ _ | ((with_reducible refine Below.alloc ?_ ?_ _); (rotate_left; focus (first | with_reducible exact Nat.le_refl _ | omega | (simp; done) | (simp; omega) | (simp [World.setCell]; done) | (simp [World.setCell]; omega)))) | ((with_reducible refine Below.setCell ?_ ?_ _); (rotate_left; focus (first | with_reducible exact Nat.le_refl _ | omega | (simp; done) | (simp; omega) | (simp [World.setCell]; done) | (simp [World.setCell]; omega))))), ?_⟩
        rw [HX.out]
        rfl
      · have q1 : decide (m < lo) = false := decide_eq_false h1
        by_cases h2 : hi < m
        · have q2 : decide (hi < m) = true := decide_eq_true h2
          have HX : Hid (opdL u k (t :: rest') = .error (12, t.pos)) := Lib.hid (by show (match oprL k t with | .error e => _ | .ok x => _) = _; rw [oprL_num hnum, hfr, decide_eq_false (by omega)]; rfl)
          clear hnum hsl HNP hfr hlo hhi h1 h2
          go_enter Tryd.func55, Tryd.ntmps55
          go_wp2_with (first | (go_at_call 73; refine (HNU.out _).mono ?_; rintro e w1 ⟨hw, mm, rfl⟩; obtain rfl := hw.symm) | (go_at_call 72; refine (HNA.out _).mono ?_; rintro e w1 ⟨rfl, hw⟩; obtain rfl := hw.symm) | (go_at_call 45; refine (HLE.out _).mono ?_; rintro e w1 ⟨rfl, hw⟩; obtain rfl := hw.symm) | (go_at_call 57; refine (HRG.out _).mono ?_; rintro e w1 ⟨rfl, hw⟩; obtain rfl := hw.symm))
          go_region
          go_wp2_with fail
          refine bodyPost_ret (v := .tuple #[.int .i64 (0), .agg #[.string ⟨#[]⟩, .int .i64 0], .int .i64 (12), .int .i64 ((t.pos : Int))]) (by simp [results, Tryd.results55, go_sem]) rfl ?_
          refine ⟨by repeat (first | with_reducible exact Below.refl _ _ | with_reducible refine Below.drew ?_ | with_reducible refine below_drewN ?_ _ | ((with_reducible refine Below.alloc ?_ ?_ _); (rotate_left; focus (first | with_reducible exact Nat.le_refl _ | omega | (simp; done) | (simp; omega) | (simp [World.setCell]; done) | (simp [World.setCell]; omega)))) | ((with_reducible refine Below.setCell ?_ ?_ _); (rotate_left; focus (first | with_reducible exact Nat.le_refl _ | omega | (simp; done) | (simp; omega) | (simp [World.setCell]; done) | (simp [World.setCell]; omega))))), ?_⟩
          rw [HX.out]
          rfl
        · have q2 : decide (hi < m) = false := decide_eq_false h2
          have HX : Hid (opdL u k (t :: rest') = .ok (m, noTok)) := Lib.hid (by show (match oprL k t with | .error e => _ | .ok x => _) = _; rw [oprL_num hnum, hfr, decide_eq_true (by omega)]; rfl)
          clear hnum hsl HNP hfr hlo hhi h1 h2
          go_enter Tryd.func55, Tryd.ntmps55
          go_wp2_with (first | (go_at_call 73; refine (HNU.out _).mono ?_; rintro e w1 ⟨hw, mm, rfl⟩; obtain rfl := hw.symm) | (go_at_call 72; refine (HNA.out _).mono ?_; rintro e w1 ⟨rfl, hw⟩; obtain rfl := hw.symm) | (go_at_call 45; refine (HLE.out _).mono ?_; rintro e w1 ⟨rfl, hw⟩; obtain rfl := hw.symm) | (go_at_call 57; refine (HRG.out _).mono ?_; rintro e w1 ⟨rfl, hw⟩; obtain rfl := hw.symm))
          go_wp2_with fail
          refine bodyPost_ret (v := .tuple #[.int .i64 (m), .agg #[.string ⟨#[]⟩, .int .i64 0], .int .i64 (0), .int .i64 (0)]) (by simp [results, Tryd.results55, go_sem]) rfl ?_
          refine ⟨by repeat (first | with_reducible exact Below.refl _ _ | with_reducible refine Below.drew ?_ | with_reducible refine below_drewN ?_ _ | ((with_reducible refine Below.alloc ?_ ?_ _); (rotate_left; focus (first | with_reducible exact Nat.le_refl _ | omega | (simp; done) | (simp; omega) | (simp [World.setCell]; done) | (simp [World.setCell]; omega)))) | ((with_reducible refine Below.setCell ?_ ?_ _); (rotate_left; focus (first | with_reducible exact Nat.le_refl _ | omega | (simp; done) | (simp; omega) | (simp [World.setCell]; done) | (simp [World.setCell]; omega))))), ?_⟩
          rw [HX.out]
          rfl
end Go.Proofs.YthghnihlfdoefaaDoor
