/-
  No cell of these rows narrows 'for every input' (looked for: loops, veiled, ifaces, maps, wideKeys, modest, calm, conditions, laid).
  DERIVED. THE GIVEN ROWS OF THIS SEAT. 9 by the template 'for every input the law returns true; each argument reads behind the call as it read before'; 0 by the template 'total and deterministic' (their statements: YtjggcidaolnmbaaTotals.lean).
  GIVEN WITH THE SEED: the statements are not yours to turn. If you find one false, say at which input.
  Laid BY PROGRAM, IN A SANDBOX (cutbox-rows.mjs): the forced cells as the released guide's own fill.sh prints them over the translation 2bd5c214cbc45715… (all of the seat's roots in one cut). By AI agents, Wed Nov 11 2026. No macro, syntax, notation, axiom, sorry.
-/
import Derived.Test.YtjggcidaolnmbaaChecked
import GoSem.Claim
import GoSem.ClaimJoined
import GoSem.ClaimMapViews
import Derived.JoinedTies
import Derived.KernelRfl
namespace Go.Proofs.Ytjggcidaolnmbaa
/- THE CELL 'sum', in the pinned program and in every row, IS THE sha256 OF THE DUMP (.gsa) THAT YtjggcidaolnmbaaProg.lean LOADS. Nothing in Lean hashes anything: it is a label: what it is worth is what the hold of that sum in a sandbox is worth. -/
noncomputable def Try.pinned : Pinned := { name := "ytjggcidaolnmbaa", sum := "2bd5c214cbc4571549d652beda54b7e25be38bbc03b8dbbf63cea03bbc78561a", checked := Try.checked }
namespace Rows
def none {H : Type} : Left H := { results := [], args := [] }

/-- 'carousellaw17.DictSizes': WHATEVER THE INPUT: true; the input reads as it did. -/
def dictSizesSpec : ChangeSpec := { name := "dictSizes", fn := fun _ => fun
  | [d] => { results := [.lit (.bool true)], args := [d] }
  | _ => none }
def dictSizesRow : OpenClaim := { program := "ytjggcidaolnmbaa", sum := "2bd5c214cbc4571549d652beda54b7e25be38bbc03b8dbbf63cea03bbc78561a", func := "carousel/carousellaw17.DictSizes", spec := "dictSizes", apart := false }
def DictSizesSaid : Prop := dictSizesRow.holds Try.pinned (OpenSpec.ofChange dictSizesSpec)

/-- ITS FALSE NEIGHBOUR: 'it returns false'. Refute it at one input. -/
def dictSizesWrong : ChangeSpec := { name := "dictSizes", fn := fun _ => fun
  | [d] => { results := [.lit (.bool false)], args := [d] }
  | _ => none }
def DictSizesWrongFalsely : Prop := dictSizesRow.holds Try.pinned (OpenSpec.ofChange dictSizesWrong)

/-- 'carousellaw17.DictPlays': WHATEVER THE INPUT: true; the input reads as it did. -/
def dictPlaysSpec : ChangeSpec := { name := "dictPlays", fn := fun _ => fun
  | [d] => { results := [.lit (.bool true)], args := [d] }
  | _ => none }
def dictPlaysRow : OpenClaim := { program := "ytjggcidaolnmbaa", sum := "2bd5c214cbc4571549d652beda54b7e25be38bbc03b8dbbf63cea03bbc78561a", func := "carousel/carousellaw17.DictPlays", spec := "dictPlays", unfollowed := true, recurses := true, apart := false }
def DictPlaysSaid : Prop := dictPlaysRow.holds Try.pinned (OpenSpec.ofChange dictPlaysSpec)

/-- ITS FALSE NEIGHBOUR: 'it returns false'. Refute it at one input. -/
def dictPlaysWrong : ChangeSpec := { name := "dictPlays", fn := fun _ => fun
  | [d] => { results := [.lit (.bool false)], args := [d] }
  | _ => none }
def DictPlaysWrongFalsely : Prop := dictPlaysRow.holds Try.pinned (OpenSpec.ofChange dictPlaysWrong)

/-- 'carousellaw17.DictOwns': WHATEVER THE INPUT: true; the input reads as it did. -/
def dictOwnsSpec : ChangeSpec := { name := "dictOwns", fn := fun _ => fun
  | [d] => { results := [.lit (.bool true)], args := [d] }
  | _ => none }
def dictOwnsRow : OpenClaim := { program := "ytjggcidaolnmbaa", sum := "2bd5c214cbc4571549d652beda54b7e25be38bbc03b8dbbf63cea03bbc78561a", func := "carousel/carousellaw17.DictOwns", spec := "dictOwns", unfollowed := true, recurses := true, apart := false }
def DictOwnsSaid : Prop := dictOwnsRow.holds Try.pinned (OpenSpec.ofChange dictOwnsSpec)

/-- ITS FALSE NEIGHBOUR: 'it returns false'. Refute it at one input. -/
def dictOwnsWrong : ChangeSpec := { name := "dictOwns", fn := fun _ => fun
  | [d] => { results := [.lit (.bool false)], args := [d] }
  | _ => none }
def DictOwnsWrongFalsely : Prop := dictOwnsRow.holds Try.pinned (OpenSpec.ofChange dictOwnsWrong)

/-- 'carousellaw17.DictApart': WHATEVER THE INPUT: true; the input reads as it did. -/
def dictApartSpec : ChangeSpec := { name := "dictApart", fn := fun _ => fun
  | [d1, d2] => { results := [.lit (.bool true)], args := [d1, d2] }
  | _ => none }
def dictApartRow : OpenClaim := { program := "ytjggcidaolnmbaa", sum := "2bd5c214cbc4571549d652beda54b7e25be38bbc03b8dbbf63cea03bbc78561a", func := "carousel/carousellaw17.DictApart", spec := "dictApart", unfollowed := true, recurses := true, apart := false }
def DictApartSaid : Prop := dictApartRow.holds Try.pinned (OpenSpec.ofChange dictApartSpec)

/-- ITS FALSE NEIGHBOUR: 'it returns false'. Refute it at one input. -/
def dictApartWrong : ChangeSpec := { name := "dictApart", fn := fun _ => fun
  | [d1, d2] => { results := [.lit (.bool false)], args := [d1, d2] }
  | _ => none }
def DictApartWrongFalsely : Prop := dictApartRow.holds Try.pinned (OpenSpec.ofChange dictApartWrong)

/-- 'carousellaw17.DictNil': WHATEVER THE INPUT: true; the input reads as it did. -/
def dictNilSpec : ChangeSpec := { name := "dictNil", fn := fun _ => fun
  | [d1, d2, d3] => { results := [.lit (.bool true)], args := [d1, d2, d3] }
  | _ => none }
def dictNilRow : OpenClaim := { program := "ytjggcidaolnmbaa", sum := "2bd5c214cbc4571549d652beda54b7e25be38bbc03b8dbbf63cea03bbc78561a", func := "carousel/carousellaw17.DictNil", spec := "dictNil", unfollowed := true, recurses := true, apart := false }
def DictNilSaid : Prop := dictNilRow.holds Try.pinned (OpenSpec.ofChange dictNilSpec)

/-- ITS FALSE NEIGHBOUR: 'it returns false'. Refute it at one input. -/
def dictNilWrong : ChangeSpec := { name := "dictNil", fn := fun _ => fun
  | [d1, d2, d3] => { results := [.lit (.bool false)], args := [d1, d2, d3] }
  | _ => none }
def DictNilWrongFalsely : Prop := dictNilRow.holds Try.pinned (OpenSpec.ofChange dictNilWrong)

/-- 'carousellaw17.DictAgain': WHATEVER THE INPUT: true; the input reads as it did. -/
def dictAgainSpec : ChangeSpec := { name := "dictAgain", fn := fun _ => fun
  | [d1, d2, d3] => { results := [.lit (.bool true)], args := [d1, d2, d3] }
  | _ => none }
def dictAgainRow : OpenClaim := { program := "ytjggcidaolnmbaa", sum := "2bd5c214cbc4571549d652beda54b7e25be38bbc03b8dbbf63cea03bbc78561a", func := "carousel/carousellaw17.DictAgain", spec := "dictAgain", unfollowed := true, recurses := true, apart := false }
def DictAgainSaid : Prop := dictAgainRow.holds Try.pinned (OpenSpec.ofChange dictAgainSpec)

/-- ITS FALSE NEIGHBOUR: 'it returns false'. Refute it at one input. -/
def dictAgainWrong : ChangeSpec := { name := "dictAgain", fn := fun _ => fun
  | [d1, d2, d3] => { results := [.lit (.bool false)], args := [d1, d2, d3] }
  | _ => none }
def DictAgainWrongFalsely : Prop := dictAgainRow.holds Try.pinned (OpenSpec.ofChange dictAgainWrong)

/-- 'carousellaw17.DictEnds': WHATEVER THE INPUT: true; the input reads as it did. -/
def dictEndsSpec : ChangeSpec := { name := "dictEnds", fn := fun _ => fun
  | [d] => { results := [.lit (.bool true)], args := [d] }
  | _ => none }
def dictEndsRow : OpenClaim := { program := "ytjggcidaolnmbaa", sum := "2bd5c214cbc4571549d652beda54b7e25be38bbc03b8dbbf63cea03bbc78561a", func := "carousel/carousellaw17.DictEnds", spec := "dictEnds", unfollowed := true, recurses := true, apart := false }
def DictEndsSaid : Prop := dictEndsRow.holds Try.pinned (OpenSpec.ofChange dictEndsSpec)

/-- ITS FALSE NEIGHBOUR: 'it returns false'. Refute it at one input. -/
def dictEndsWrong : ChangeSpec := { name := "dictEnds", fn := fun _ => fun
  | [d] => { results := [.lit (.bool false)], args := [d] }
  | _ => none }
def DictEndsWrongFalsely : Prop := dictEndsRow.holds Try.pinned (OpenSpec.ofChange dictEndsWrong)

/-- 'carousellaw17.DictShapes': WHATEVER THE INPUT: true; the input reads as it did. -/
def dictShapesSpec : ChangeSpec := { name := "dictShapes", fn := fun _ => fun
  | [d1, d2] => { results := [.lit (.bool true)], args := [d1, d2] }
  | _ => none }
def dictShapesRow : OpenClaim := { program := "ytjggcidaolnmbaa", sum := "2bd5c214cbc4571549d652beda54b7e25be38bbc03b8dbbf63cea03bbc78561a", func := "carousel/carousellaw17.DictShapes", spec := "dictShapes", unfollowed := true, recurses := true, apart := false }
def DictShapesSaid : Prop := dictShapesRow.holds Try.pinned (OpenSpec.ofChange dictShapesSpec)

/-- ITS FALSE NEIGHBOUR: 'it returns false'. Refute it at one input. -/
def dictShapesWrong : ChangeSpec := { name := "dictShapes", fn := fun _ => fun
  | [d1, d2] => { results := [.lit (.bool false)], args := [d1, d2] }
  | _ => none }
def DictShapesWrongFalsely : Prop := dictShapesRow.holds Try.pinned (OpenSpec.ofChange dictShapesWrong)

/-- 'carousellaw17.DictMeans': WHATEVER THE INPUT: true; the input reads as it did. -/
def dictMeansSpec : ChangeSpec := { name := "dictMeans", fn := fun _ => fun
  | [d1, d2, d3] => { results := [.lit (.bool true)], args := [d1, d2, d3] }
  | _ => none }
def dictMeansRow : OpenClaim := { program := "ytjggcidaolnmbaa", sum := "2bd5c214cbc4571549d652beda54b7e25be38bbc03b8dbbf63cea03bbc78561a", func := "carousel/carousellaw17.DictMeans", spec := "dictMeans", unfollowed := true, recurses := true, apart := false }
def DictMeansSaid : Prop := dictMeansRow.holds Try.pinned (OpenSpec.ofChange dictMeansSpec)

/-- ITS FALSE NEIGHBOUR: 'it returns false'. Refute it at one input. -/
def dictMeansWrong : ChangeSpec := { name := "dictMeans", fn := fun _ => fun
  | [d1, d2, d3] => { results := [.lit (.bool false)], args := [d1, d2, d3] }
  | _ => none }
def DictMeansWrongFalsely : Prop := dictMeansRow.holds Try.pinned (OpenSpec.ofChange dictMeansWrong)

/- THE SECOND FORM. 'bulk': how many values and letters a reading holds, each counted each time it is reached (what is shared counts as often as it is met; a slice's spare places count too). A statement '..UptoSaid' is the law's where the arguments, and the package variables that the reading takes, are together of bulk at most 1048576: NARROWER than '..Said'. Prove '..Said' where nothing that the law and all that it calls make is longer than what came in: it says more and counts as full. Else prove '..UptoSaid'. A law counts once. -/
mutual
def uptoBulk {H : Type} : DataW H → Nat
  | .lit (.string bytes) => bytes.length + 1
  | .lit _ => 1
  | .nil => 1
  | .ptr d => uptoBulk d + 1
  | .slice elems spare => uptoBulkAll elems + uptoBulkAll spare + 1
  | .agg parts => uptoBulkAll parts + 1
  | .iface _ d => uptoBulk d + 1
  | .map entries => uptoBulkEntries entries + 1
  | .held _ => 1
def uptoBulkAll {H : Type} : List (DataW H) → Nat
  | [] => 0
  | d :: r => uptoBulk d + uptoBulkAll r
def uptoBulkEntries {H : Type} : List (Lit × DataW H) → Nat
  | [] => 0
  | x :: r => uptoBulkEntry x + uptoBulkEntries r
def uptoBulkEntry {H : Type} : Lit × DataW H → Nat
  | (.string bytes, d) => bytes.length + uptoBulk d + 1
  | (_, d) => uptoBulk d + 1
 end
def uptoSmall : (H : Type) → List (DataW H) → Bool := fun _ ds => decide (uptoBulkAll ds ≤ 1048576)
def OpenSpec.upto (s : _root_.Go.ChangeSpec) : _root_.Go.OpenSpec := { _root_.Go.OpenSpec.ofChange s with cond := some uptoSmall }

/-- 'carousellaw17.DictSizes', WHERE WHAT IT READS IS OF BULK AT MOST 1048576: true; the input reads as it did. -/
def dictSizesUptoRow : OpenClaim := { program := "ytjggcidaolnmbaa", sum := "2bd5c214cbc4571549d652beda54b7e25be38bbc03b8dbbf63cea03bbc78561a", func := "carousel/carousellaw17.DictSizes", spec := "dictSizes", apart := false, narrowed := true }
def DictSizesUptoSaid : Prop := dictSizesUptoRow.holds Try.pinned (OpenSpec.upto dictSizesSpec)

/-- 'carousellaw17.DictPlays', WHERE WHAT IT READS IS OF BULK AT MOST 1048576: true; the input reads as it did. -/
def dictPlaysUptoRow : OpenClaim := { program := "ytjggcidaolnmbaa", sum := "2bd5c214cbc4571549d652beda54b7e25be38bbc03b8dbbf63cea03bbc78561a", func := "carousel/carousellaw17.DictPlays", spec := "dictPlays", unfollowed := true, recurses := true, apart := false, narrowed := true }
def DictPlaysUptoSaid : Prop := dictPlaysUptoRow.holds Try.pinned (OpenSpec.upto dictPlaysSpec)

/-- 'carousellaw17.DictOwns', WHERE WHAT IT READS IS OF BULK AT MOST 1048576: true; the input reads as it did. -/
def dictOwnsUptoRow : OpenClaim := { program := "ytjggcidaolnmbaa", sum := "2bd5c214cbc4571549d652beda54b7e25be38bbc03b8dbbf63cea03bbc78561a", func := "carousel/carousellaw17.DictOwns", spec := "dictOwns", unfollowed := true, recurses := true, apart := false, narrowed := true }
def DictOwnsUptoSaid : Prop := dictOwnsUptoRow.holds Try.pinned (OpenSpec.upto dictOwnsSpec)

/-- 'carousellaw17.DictApart', WHERE WHAT IT READS IS OF BULK AT MOST 1048576: true; the input reads as it did. -/
def dictApartUptoRow : OpenClaim := { program := "ytjggcidaolnmbaa", sum := "2bd5c214cbc4571549d652beda54b7e25be38bbc03b8dbbf63cea03bbc78561a", func := "carousel/carousellaw17.DictApart", spec := "dictApart", unfollowed := true, recurses := true, apart := false, narrowed := true }
def DictApartUptoSaid : Prop := dictApartUptoRow.holds Try.pinned (OpenSpec.upto dictApartSpec)

/-- 'carousellaw17.DictNil', WHERE WHAT IT READS IS OF BULK AT MOST 1048576: true; the input reads as it did. -/
def dictNilUptoRow : OpenClaim := { program := "ytjggcidaolnmbaa", sum := "2bd5c214cbc4571549d652beda54b7e25be38bbc03b8dbbf63cea03bbc78561a", func := "carousel/carousellaw17.DictNil", spec := "dictNil", unfollowed := true, recurses := true, apart := false, narrowed := true }
def DictNilUptoSaid : Prop := dictNilUptoRow.holds Try.pinned (OpenSpec.upto dictNilSpec)

/-- 'carousellaw17.DictAgain', WHERE WHAT IT READS IS OF BULK AT MOST 1048576: true; the input reads as it did. -/
def dictAgainUptoRow : OpenClaim := { program := "ytjggcidaolnmbaa", sum := "2bd5c214cbc4571549d652beda54b7e25be38bbc03b8dbbf63cea03bbc78561a", func := "carousel/carousellaw17.DictAgain", spec := "dictAgain", unfollowed := true, recurses := true, apart := false, narrowed := true }
def DictAgainUptoSaid : Prop := dictAgainUptoRow.holds Try.pinned (OpenSpec.upto dictAgainSpec)

/-- 'carousellaw17.DictEnds', WHERE WHAT IT READS IS OF BULK AT MOST 1048576: true; the input reads as it did. -/
def dictEndsUptoRow : OpenClaim := { program := "ytjggcidaolnmbaa", sum := "2bd5c214cbc4571549d652beda54b7e25be38bbc03b8dbbf63cea03bbc78561a", func := "carousel/carousellaw17.DictEnds", spec := "dictEnds", unfollowed := true, recurses := true, apart := false, narrowed := true }
def DictEndsUptoSaid : Prop := dictEndsUptoRow.holds Try.pinned (OpenSpec.upto dictEndsSpec)

/-- 'carousellaw17.DictShapes', WHERE WHAT IT READS IS OF BULK AT MOST 1048576: true; the input reads as it did. -/
def dictShapesUptoRow : OpenClaim := { program := "ytjggcidaolnmbaa", sum := "2bd5c214cbc4571549d652beda54b7e25be38bbc03b8dbbf63cea03bbc78561a", func := "carousel/carousellaw17.DictShapes", spec := "dictShapes", unfollowed := true, recurses := true, apart := false, narrowed := true }
def DictShapesUptoSaid : Prop := dictShapesUptoRow.holds Try.pinned (OpenSpec.upto dictShapesSpec)

/-- 'carousellaw17.DictMeans', WHERE WHAT IT READS IS OF BULK AT MOST 1048576: true; the input reads as it did. -/
def dictMeansUptoRow : OpenClaim := { program := "ytjggcidaolnmbaa", sum := "2bd5c214cbc4571549d652beda54b7e25be38bbc03b8dbbf63cea03bbc78561a", func := "carousel/carousellaw17.DictMeans", spec := "dictMeans", unfollowed := true, recurses := true, apart := false, narrowed := true }
def DictMeansUptoSaid : Prop := dictMeansUptoRow.holds Try.pinned (OpenSpec.upto dictMeansSpec)

end Rows
end Go.Proofs.Ytjggcidaolnmbaa
