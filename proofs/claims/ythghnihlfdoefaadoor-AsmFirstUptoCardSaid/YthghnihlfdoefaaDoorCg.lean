/- carousellaw14: what Parse tells, for the laws; AsmParses. -/
import Derived.Test.YthghnihlfdoefaaDoorBp
import Derived.Test.YthghnihlfdoefaaDoorPg
namespace Go.Proofs.YthghnihlfdoefaaDoor
open Go.RowKit Go.Joins Go.ChangeShapes Go.WideShapes Go.Deep
set_option linter.unusedVariables false
set_option linter.unusedSimpArgs false
set_option maxRecDepth 100000

abbrev PRes := Except (Nat × Nat) (List AOp)
def pOut : PRes → ByteArray
  | .error _ => ⟨#[]⟩
  | .ok L => ⟨(bytesOf L).toArray⟩
def pErr : PRes → Int
  | .error y => y.1
  | .ok _ => 0
def pPos : PRes → Int
  | .error y => y.2
  | .ok _ => 0
theorem parseV_eq (x : PRes) : parseV x = .tuple #[.string (pOut x), .int .i64 (pErr x), .int .i64 (pPos x)] := by cases x <;> rfl
theorem parseV'_eq (x : PRes) : parseV' x = .tuple #[.string (pOut x), .int .i64 (pErr x), .int .i64 (pPos x)] := by cases x <;> rfl
theorem parse_at {B : Nat} {w : World} (hE : EnvP B w) (s : ByteArray) (hs : s.size ≤ 67108864) :
    Calls Tryd.prog 11 #[.string s] w fun e w' => e = .returned (.tuple #[.string (pOut (parseF s.data.toList)), .int .i64 (pErr (parseF s.data.toList)), .int .i64 (pPos (parseF s.data.toList))]) ∧ Below w.heap.size w w' := by
  have := parse_asm (hE.raise hE.size (Nat.le_refl _)) s hs
  rwa [parseV_eq] at this
theorem rparse_at (s : ByteArray) (hs : s.size ≤ 67108864) (w : World) :
    Calls Tryd.prog 12 #[.string s] w fun e w' => e = .returned (.tuple #[.string (pOut (parseF s.data.toList)), .int .i64 (pErr (parseF s.data.toList)), .int .i64 (pPos (parseF s.data.toList))]) ∧ Below w.heap.size w w' := by
  have := parse_doc s (by omega) w
  rwa [parseV'_eq] at this
set_option maxHeartbeats 1000000 in
theorem law_parses {B : Nat} (s : ByteArray) (w : World) (hE : EnvP B w) (hs : s.size ≤ 67108864) : Calls Tryd.prog 4 #[.string s] w fun e w' => e = .returned (.bool true) ∧ Below w.heap.size w w' := by
  have HP := Lib.hid (parse_at hE s hs)
  have HR := Lib.hid (fun W => rparse_at s hs W)
  generalize pOut (parseF s.data.toList) = o at HP HR
  generalize pErr (parseF s.data.toList) = n at HP HR
  generalize pPos (parseF s.data.toList) = a at HP HR
  have e1 : (n == n) = true := by simp
  have e2 : (a == a) = true := by simp
  clear hE
  go_enter Tryd.func4, Tryd.ntmps4
  go_wp2_with (first | (go_at_call 11; refine HP.out.mono ?_; rintro e w1 ⟨rfl, hb1⟩) | (go_at_call 12; refine (HR.out _).mono ?_; rintro e w2 ⟨rfl, hb2⟩))
  go_ret
  exact ⟨rfl, hb1.trans (hb2.mono hb1.size)⟩
end Go.Proofs.YthghnihlfdoefaaDoor
