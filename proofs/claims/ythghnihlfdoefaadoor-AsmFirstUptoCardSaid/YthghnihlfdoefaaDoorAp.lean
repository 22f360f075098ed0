/- A program's text, plain. -/
import Derived.Test.YthghnihlfdoefaaDoorAg
import Derived.Test.YthghnihlfdoefaaDoorPa
import Derived.Shelf.Strings.FieldsAny
import Derived.Shelf.Strconv.Itoa3
namespace Go.Proofs.YthghnihlfdoefaaDoor
open Go.RowKit Go.Joins Go.ChangeShapes Go.WideShapes Go.Deep
set_option linter.unusedVariables false
set_option linter.unusedSimpArgs false
set_option maxRecDepth 100000

def sizeF (L : List AOp) : Nat := (L.map fun o => 1 + widthF (shapeF o.code)).sum
theorem sizeF_snoc (L : List AOp) (o : AOp) : sizeF (L ++ [o]) = sizeF L + (1 + widthF (shapeF o.code)) := by simp [sizeF]
theorem sizeF_take (L : List AOp) (i : Nat) (h : i < L.length) : sizeF (L.take (i + 1)) = sizeF (L.take i) + (1 + widthF (shapeF L[i].code)) := by
  rw [List.take_succ_eq_append_getElem h, sizeF_snoc]
theorem sizeF_le (L : List AOp) (i : Nat) : sizeF (L.take i) ≤ sizeF L := by
  have h : sizeF L = sizeF (L.take i) + sizeF (L.drop i) := by
    have := List.sum_append (l₁ := (L.take i).map fun o => 1 + widthF (shapeF o.code)) (l₂ := (L.drop i).map fun o => 1 + widthF (shapeF o.code))
    rw [← List.map_append, List.take_append_drop] at this
    exact this
  omega
theorem Dec.size {s : List Nat} {L : List AOp} {p : Nat} (h : Dec s L p) : p = sizeF L := by
  induction h with
  | nil => rfl
  | snoc h1 h2 h3 ih => rw [sizeF_snoc, (atF_bound h3).2.2.1, ← ih]
theorem Dec.good {s : List Nat} {L : List AOp} {p : Nat} (h : Dec s L p) : ∀ o ∈ L, o.code < 41 ∧ fitsF (shapeF o.code) o.operand = true := by
  induction h with
  | nil => intro o ho; cases ho
  | snoc h1 h2 h3 ih =>
    intro o ho
    rcases List.mem_append.1 ho with ho | ho
    · exact ih o ho
    · obtain rfl := List.mem_singleton.1 ho
      exact ⟨(atF_bound h3).2.1, (atF_bound h3).2.2.2.2⟩

def leadsF (c : Nat) : Bool := c == 24 || c == 25 || c == 26
/-- The places where instructions begin, and the end. -/
def begF (L : List AOp) (m : Nat) (n : Int) : Bool := n == (sizeF L : Int) || (List.range m).any fun i => n == (sizeF (L.take i) : Int)
theorem begF_succ (L : List AOp) (m : Nat) (n : Int) : begF L (m + 1) n = (begF L m n || n == (sizeF (L.take m) : Int)) := by
  unfold begF
  rw [List.range_succ, List.any_append, List.any_cons, List.any_nil, Bool.or_false, Bool.or_assoc]
def toF (o : AOp) (p : Nat) : Int := if o.code = 26 then o.operand else o.operand + p + 3
/-- Where an instruction leads. -/
def tgtF (L : List AOp) (o : AOp) (p : Nat) : Option Int := if leadsF o.code && begF L L.length (toF o p) then some (toF o p) else none
def tgtAt (L : List AOp) (i : Nat) : Option Int := tgtF L (L.getD i ⟨0, 0⟩) (sizeF (L.take i))
def markF (L : List AOp) (m : Nat) (n : Int) : Bool := (List.range m).any fun i => tgtAt L i == some n
theorem markF_some (L : List AOp) (m : Nat) {t : Int} (h : tgtAt L m = some t) (n : Int) : markF L (m + 1) n = (markF L m n || n == t) := by
  unfold markF
  rw [List.range_succ, List.any_append, List.any_cons, List.any_nil, Bool.or_false, h]
  congr 1
  rw [Bool.eq_iff_iff]
  simp
  exact eq_comm
theorem markF_none (L : List AOp) (m : Nat) (h : tgtAt L m = none) (n : Int) : markF L (m + 1) n = markF L m n := by
  unfold markF
  rw [List.range_succ, List.any_append, List.any_cons, List.any_nil, Bool.or_false, h]
  simp
def labelB (n : Int) : List UInt8 := 76 :: (Lib.itoa n ++ [58, 10])
def labF (L : List AOp) (p : Nat) : List UInt8 := if markF L L.length p then labelB p else []
def wordsText : List UInt8 := [99, 111, 109, 109, 105, 116, 32, 112, 117, 115, 104, 56, 32, 112, 117, 115, 104, 49, 54, 32, 112, 117, 115, 104, 54, 52, 32, 100, 117, 112, 32, 100, 114, 111, 112, 32, 115, 119, 97, 112, 32, 111, 118, 101, 114, 32, 97, 100, 100, 32, 115, 117, 98, 32, 109, 117, 108, 32, 100, 105, 118, 32, 114, 101, 109, 32, 97, 110, 100, 32, 111, 114, 32, 120, 111, 114, 32, 110, 111, 116, 32, 115, 104, 108, 32, 115, 104, 114, 32, 117, 115, 104, 114, 32, 101, 113, 32, 108, 116, 32, 117, 108, 116, 32, 99, 111, 110, 118, 32, 106, 117, 109, 112, 32, 106, 117, 109, 112, 122, 32, 99, 97, 108, 108, 32, 114, 101, 116, 32, 97, 114, 103, 32, 116, 101, 108, 108, 32, 97, 98, 111, 114, 116, 32, 108, 111, 97, 100, 32, 115, 116, 111, 114, 101, 32, 99, 97, 100, 100, 32, 99, 103, 101, 116, 32, 99, 112, 117, 116, 32, 99, 100, 101, 108, 32, 99, 108, 101, 110, 32, 99, 104, 97, 115, 32, 99, 108, 101, 97, 115, 116, 32, 99, 110, 101, 120, 116]
/-- The words of the opcodes. -/
def wordsB : List (List UInt8) := [[99, 111, 109, 109, 105, 116], [112, 117, 115, 104, 56], [112, 117, 115, 104, 49, 54], [112, 117, 115, 104, 54, 52], [100, 117, 112], [100, 114, 111, 112], [115, 119, 97, 112], [111, 118, 101, 114], [97, 100, 100], [115, 117, 98], [109, 117, 108], [100, 105, 118], [114, 101, 109], [97, 110, 100], [111, 114], [120, 111, 114], [110, 111, 116], [115, 104, 108], [115, 104, 114], [117, 115, 104, 114], [101, 113], [108, 116], [117, 108, 116], [99, 111, 110, 118], [106, 117, 109, 112], [106, 117, 109, 112, 122], [99, 97, 108, 108], [114, 101, 116], [97, 114, 103], [116, 101, 108, 108], [97, 98, 111, 114, 116], [108, 111, 97, 100], [115, 116, 111, 114, 101], [99, 97, 100, 100], [99, 103, 101, 116], [99, 112, 117, 116], [99, 100, 101, 108], [99, 108, 101, 110], [99, 104, 97, 115], [99, 108, 101, 97, 115, 116], [99, 110, 101, 120, 116]]
theorem words_fields : Lib.fieldsD wordsText = wordsB := by decide +kernel
theorem words_len : wordsB.length = 41 := by decide
/-- An instruction's operand, as text. -/
def oprF (L : List AOp) (i : Nat) : List UInt8 := match tgtAt L i with
  | some t => 32 :: 76 :: Lib.itoa t
  | none => if 0 < widthF (shapeF (L.getD i ⟨0, 0⟩).code) then 32 :: Lib.itoa (L.getD i ⟨0, 0⟩).operand else []
def lineF (L : List AOp) (i : Nat) : List UInt8 := labF L (sizeF (L.take i)) ++ wordsB.getD (L.getD i ⟨0, 0⟩).code [] ++ oprF L i ++ [10]
def linesF (L : List AOp) (m : Nat) : List UInt8 := (List.range m).flatMap (lineF L)
theorem linesF_succ (L : List AOp) (m : Nat) : linesF L (m + 1) = linesF L m ++ lineF L m := by
  unfold linesF
  rw [List.range_succ, List.flatMap_append, List.flatMap_cons, List.flatMap_nil, List.append_nil]
def printF (L : List AOp) : List UInt8 := linesF L L.length ++ labF L (sizeF L)
theorem word_len (c : Nat) : (wordsB.getD c []).length ≤ 6 := by
  have h : ∀ x ∈ wordsB, x.length ≤ 6 := by decide
  rw [List.getD_eq_getElem?_getD]
  cases hx : wordsB[c]? with
  | none => simp
  | some x => exact h x (List.mem_of_getElem? hx)
end Go.Proofs.YthghnihlfdoefaaDoor
