/- code.Encode of one bad operand; strconv.ParseInt; the library's variables for Parse. -/
import Derived.Test.YthghnihlfdoefaaDoorBg
import Derived.Test.YthghnihlfdoefaaDoorAr
import Derived.Test.YthghnihlfdoefaaDoorPl
namespace Go.Proofs.YthghnihlfdoefaaDoor
open Go.RowKit Go.Joins Go.ChangeShapes Go.WideShapes Go.Deep
set_option linter.unusedVariables false
set_option linter.unusedSimpArgs false
set_option maxRecDepth 100000

structure EnvP (B : Nat) (w : World) : Prop where
  env : EnvIn B w
  lt : 12 ≤ B
  m : ∃ m, w.cell? ⟨4, 0, none⟩ = some (.int .i64 m)
  es : ∃ tp p, w.cell? ⟨9, 0, none⟩ = some (.iface tp p)
  er : ∃ tp p, w.cell? ⟨10, 0, none⟩ = some (.iface tp p)
theorem EnvP.below {B : Nat} {w w' : World} (h : EnvP B w) (hb : Below B w w') : EnvP B w' :=
  ⟨h.env.below hb (Nat.le_refl _), h.lt,
   h.m.imp fun m hm => (hb.cell (p := ⟨4, 0, none⟩) (Nat.lt_of_lt_of_le (by decide) h.lt)).trans hm,
   h.es.imp fun tp hp => hp.imp fun p hm => (hb.cell (p := ⟨9, 0, none⟩) (Nat.lt_of_lt_of_le (by decide) h.lt)).trans hm,
   h.er.imp fun tp hp => hp.imp fun p hm => (hb.cell (p := ⟨10, 0, none⟩) (Nat.lt_of_lt_of_le (by decide) h.lt)).trans hm⟩
theorem EnvP.size {B : Nat} {w : World} (h : EnvP B w) : B ≤ w.heap.size := h.env.1
def PintPost (s : ByteArray) (w : World) (e : Ending) (w' : World) : Prop :=
  Below w.heap.size w w' ∧
  ((∃ v, i64ok v ∧ Go.Lib.parseIntB 64 s.data.toList = .ok v ∧ e = .returned (.tuple #[.int .i64 v, .nilIface])) ∨
   ((∀ v, Go.Lib.parseIntB 64 s.data.toList ≠ .ok v) ∧ ∃ v N, e = .returned (.tuple #[.int .i64 v, .iface 171 (.pointer (some ⟨N, 0, none⟩))])))
theorem pint_any {B : Nat} {w : World} (hE : EnvP B w) (s : ByteArray) (hs : s.size ≤ 281474976710656) :
    Calls Tryd.prog 86 #[.string s, .int .i64 10, .int .i64 64] w (PintPost s w) := by
  cases h : Go.Lib.parseIntB 64 s.data.toList with
  | ok v =>
    refine (Tryd.strconv_ParseInt_10_at64_ok s (by omega) v h w).mono ?_
    rintro e w' ⟨he, hw⟩
    have hv := Go.Lib.parseIntB_bounds h
    refine ⟨?_, .inl ⟨v, by unfold i64ok; omega, h, he⟩⟩
    rcases hw with rfl | ⟨t, rfl⟩
    · exact Below.refl _ _
    · exact below_bytesWorld _ _ _ _ (Nat.le_refl _)
  | range =>
    obtain ⟨tp, p, hp⟩ := hE.er
    refine (Tryd.strconv_ParseInt_10_at64_range s hs h _ w hp (.inr ⟨tp, p, rfl⟩)).mono ?_
    rintro e w' ⟨N, he, _, _, hb⟩
    exact ⟨hb, .inr ⟨fun v hv => (by rw [h] at hv; cases hv), _, N, he⟩⟩
  | _ =>
    obtain ⟨tp, p, hp⟩ := hE.es
    refine (Tryd.strconv_ParseInt_10_at64_syntax s hs (h.trans rfl) _ w hp (.inr ⟨tp, p, rfl⟩)).mono ?_
    rintro e w' ⟨N, he, _, _, hb⟩
    exact ⟨hb, .inr ⟨fun v hv => (by rw [h] at hv; cases hv), _, N, he⟩⟩
set_option maxHeartbeats 2000000 in
theorem enc_no (c : Nat) (v : Int) (A n cc : Nat) (w : World) (hS : ShapesAt w) (hA : Reads w w.heap.size 2 (some ⟨A, 0, none⟩) 1 (rows opc [⟨c, v⟩])) (hc : c < 41) (hf : fitsF (shapeF c) v = false) :
    Calls Tryd.prog 33 #[.slice (some ⟨A, 0, none⟩) 1 cc] w fun e w' => e = .returned (.tuple #[.string ⟨#[]⟩, .int .i64 12, .int .i64 0]) ∧ Below w.heap.size w w' := by
  have hlt := hS.lt
  go_enter Tryd.func33, Tryd.ntmps33
  go_wp2_with fail
  go_loopg [12] 1 (fun gk iv wr => iv = .int .i64 0 ∧ wr = w)
  case atStart => exact ⟨rfl, rfl⟩
  case round =>
    obtain ⟨rfl, rfl⟩ := hrel
    obtain ⟨b, off, hbo, hb, hcx⟩ := reads_flat hA (by omega) (by omega)
    cases hbo
    have cx0 : wr.cell? ⟨A, 0, none⟩ = some (.int .i64 c) := hcx 0 _ rfl
    have cx1 : wr.cell? ⟨A, 1, none⟩ = some (.int .i64 v) := hcx 1 _ rfl
    have hsh := hS.cell c hc
    have h7 : shapeF c < 7 := by rcases shape_cases c hc with h | h | h | h | h | h | h <;> omega
    obtain ⟨sh, hshh⟩ : ∃ sh, sh = shapeF c := ⟨_, rfl⟩
    rw [← hshh] at hsh h7 hf
    have HF0 : ∀ W, Calls Tryd.prog 51 #[.int .u8 sh, .int .i64 v] W fun r w' => r = .returned (.bool false) ∧ w' = W := fun W => (fits_any sh h7 v W).mono fun r w' h => ⟨by rw [h.1, hf], h.2⟩
    have HF := Lib.hid HF0
    have d0 : decide ((c : Int) < 0) = false := decide_eq_false (by omega)
    have d1 : decide ((41 : Int) ≤ (c : Int)) = false := decide_eq_false (by omega)
    have d2 : decide (41 ≤ c) = false := decide_eq_false (by omega)
    clear hcx hshh HF0 hA
    go_wp2_with (go_at_call 51; refine (HF.out _).mono ?_; rintro r w1 ⟨hr, hw⟩; subst hr; subst hw)
    go_ret3
    exact ⟨rfl, by repeat (first | with_reducible exact Below.refl _ _ | with_reducible refine Below.drew ?_ | with_reducible refine below_drewN ?_ _ | ((with_reducible refine Below.alloc ?_ ?_ _); (rotate_left; focus (first | with_reducible exact Nat.le_refl _ | omega | (simp; done) | (simp; omega) | (simp [World.setCell]; done) | (simp [World.setCell]; omega)))) | ((with_reducible refine Below.setCell ?_ ?_ _); (rotate_left; focus (first | with_reducible exact Nat.le_refl _ | omega | (simp; done) | (simp; omega) | (simp [World.setCell]; done) | (simp [World.setCell]; omega)))))⟩
end Go.Proofs.YthghnihlfdoefaaDoor
