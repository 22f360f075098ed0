/-
  No cell of these rows narrows 'for every input' (looked for: loops, veiled, ifaces, maps, wideKeys, modest, calm, conditions, laid).
  DERIVED. THE GIVEN ROWS OF THIS SEAT. 5 by the template 'for every input the law returns true; each argument reads behind the call as it read before'; 0 by the template 'total and deterministic' (their statements: YtpmpgnhbpneloaaTotals.lean).
  GIVEN WITH THE SEED: the statements are not yours to turn. If you find one false, say at which input.
  Laid BY PROGRAM, IN A SANDBOX (cutbox-rows.mjs): the forced cells as the released guide's own fill.sh prints them over the translation 5d8c2d2bb5c36646… (all of the seat's roots in one cut). By AI agents, Wed Nov 11 2026. No macro, syntax, notation, axiom, sorry.
-/
import Derived.Test.YtpmpgnhbpneloaaChecked
import GoSem.Claim
import GoSem.ClaimJoined
import GoSem.ClaimMapViews
import Derived.JoinedTies
import Derived.KernelRfl
namespace Go.Proofs.Ytpmpgnhbpneloaa
/- THE CELL 'sum', in the pinned program and in every row, IS THE sha256 OF THE DUMP (.gsa) THAT YtpmpgnhbpneloaaProg.lean LOADS. Nothing in Lean hashes anything: it is a label: what it is worth is what the hold of that sum in a sandbox is worth. -/
noncomputable def Try.pinned : Pinned := { name := "ytpmpgnhbpneloaa", sum := "5d8c2d2bb5c366469d98d63710dc7dfe87f675b312c62ecf0d827241581605a7", checked := Try.checked }
namespace Rows
def none {H : Type} : Left H := { results := [], args := [] }

/-- 'carousellaw20.PlainPlaces': WHATEVER THE INPUT: true; the input reads as it did. -/
def plainPlacesSpec : ChangeSpec := { name := "plainPlaces", fn := fun _ => fun
  | [d] => { results := [.lit (.bool true)], args := [d] }
  | _ => none }
def plainPlacesRow : OpenClaim := { program := "ytpmpgnhbpneloaa", sum := "5d8c2d2bb5c366469d98d63710dc7dfe87f675b312c62ecf0d827241581605a7", func := "carousel/carousellaw20.PlainPlaces", spec := "plainPlaces", unfollowed := true, recurses := true, apart := false }
def PlainPlacesSaid : Prop := plainPlacesRow.holds Try.pinned (OpenSpec.ofChange plainPlacesSpec)

/-- ITS FALSE NEIGHBOUR: 'it returns false'. Refute it at one input. -/
def plainPlacesWrong : ChangeSpec := { name := "plainPlaces", fn := fun _ => fun
  | [d] => { results := [.lit (.bool false)], args := [d] }
  | _ => none }
def PlainPlacesWrongFalsely : Prop := plainPlacesRow.holds Try.pinned (OpenSpec.ofChange plainPlacesWrong)

/-- 'carousellaw20.PlainNil': WHATEVER THE INPUT: true; the input reads as it did. -/
def plainNilSpec : ChangeSpec := { name := "plainNil", fn := fun _ => fun
  | [d1, d2, d3] => { results := [.lit (.bool true)], args := [d1, d2, d3] }
  | _ => none }
def plainNilRow : OpenClaim := { program := "ytpmpgnhbpneloaa", sum := "5d8c2d2bb5c366469d98d63710dc7dfe87f675b312c62ecf0d827241581605a7", func := "carousel/carousellaw20.PlainNil", spec := "plainNil", inPlace := ["slices.overlaps[carousel/api.Pair]", "slices.overlaps[int64]"], unfollowed := true, recurses := true, apart := false }
def PlainNilSaid : Prop := plainNilRow.holds Try.pinned (OpenSpec.ofChange plainNilSpec)

/-- ITS FALSE NEIGHBOUR: 'it returns false'. Refute it at one input. -/
def plainNilWrong : ChangeSpec := { name := "plainNil", fn := fun _ => fun
  | [d1, d2, d3] => { results := [.lit (.bool false)], args := [d1, d2, d3] }
  | _ => none }
def PlainNilWrongFalsely : Prop := plainNilRow.holds Try.pinned (OpenSpec.ofChange plainNilWrong)

/-- 'carousellaw20.PlainOwns': WHATEVER THE INPUT: true; the input reads as it did. -/
def plainOwnsSpec : ChangeSpec := { name := "plainOwns", fn := fun _ => fun
  | [d1, d2] => { results := [.lit (.bool true)], args := [d1, d2] }
  | _ => none }
def plainOwnsRow : OpenClaim := { program := "ytpmpgnhbpneloaa", sum := "5d8c2d2bb5c366469d98d63710dc7dfe87f675b312c62ecf0d827241581605a7", func := "carousel/carousellaw20.PlainOwns", spec := "plainOwns", inPlace := ["slices.overlaps[carousel/api.Pair]", "slices.overlaps[int64]"], unfollowed := true, recurses := true, apart := false }
def PlainOwnsSaid : Prop := plainOwnsRow.holds Try.pinned (OpenSpec.ofChange plainOwnsSpec)

/-- ITS FALSE NEIGHBOUR: 'it returns false'. Refute it at one input. -/
def plainOwnsWrong : ChangeSpec := { name := "plainOwns", fn := fun _ => fun
  | [d1, d2] => { results := [.lit (.bool false)], args := [d1, d2] }
  | _ => none }
def PlainOwnsWrongFalsely : Prop := plainOwnsRow.holds Try.pinned (OpenSpec.ofChange plainOwnsWrong)

/-- 'carousellaw20.PlainPlays': WHATEVER THE INPUT: true; the input reads as it did. -/
def plainPlaysSpec : ChangeSpec := { name := "plainPlays", fn := fun _ => fun
  | [d1, d2] => { results := [.lit (.bool true)], args := [d1, d2] }
  | _ => none }
def plainPlaysRow : OpenClaim := { program := "ytpmpgnhbpneloaa", sum := "5d8c2d2bb5c366469d98d63710dc7dfe87f675b312c62ecf0d827241581605a7", func := "carousel/carousellaw20.PlainPlays", spec := "plainPlays", inPlace := ["slices.overlaps[carousel/api.Pair]", "slices.overlaps[int64]"], unfollowed := true, recurses := true, apart := false }
def PlainPlaysSaid : Prop := plainPlaysRow.holds Try.pinned (OpenSpec.ofChange plainPlaysSpec)

/-- ITS FALSE NEIGHBOUR: 'it returns false'. Refute it at one input. -/
def plainPlaysWrong : ChangeSpec := { name := "plainPlays", fn := fun _ => fun
  | [d1, d2] => { results := [.lit (.bool false)], args := [d1, d2] }
  | _ => none }
def PlainPlaysWrongFalsely : Prop := plainPlaysRow.holds Try.pinned (OpenSpec.ofChange plainPlaysWrong)

/-- 'carousellaw20.PlainCopies': WHATEVER THE INPUT: true; the input reads as it did. -/
def plainCopiesSpec : ChangeSpec := { name := "plainCopies", fn := fun _ => fun
  | [d1, d2, d3] => { results := [.lit (.bool true)], args := [d1, d2, d3] }
  | _ => none }
def plainCopiesRow : OpenClaim := { program := "ytpmpgnhbpneloaa", sum := "5d8c2d2bb5c366469d98d63710dc7dfe87f675b312c62ecf0d827241581605a7", func := "carousel/carousellaw20.PlainCopies", spec := "plainCopies", inPlace := ["slices.overlaps[carousel/api.Pair]", "slices.overlaps[int64]"], unfollowed := true, recurses := true, apart := false }
def PlainCopiesSaid : Prop := plainCopiesRow.holds Try.pinned (OpenSpec.ofChange plainCopiesSpec)

/-- ITS FALSE NEIGHBOUR: 'it returns false'. Refute it at one input. -/
def plainCopiesWrong : ChangeSpec := { name := "plainCopies", fn := fun _ => fun
  | [d1, d2, d3] => { results := [.lit (.bool false)], args := [d1, d2, d3] }
  | _ => none }
def PlainCopiesWrongFalsely : Prop := plainCopiesRow.holds Try.pinned (OpenSpec.ofChange plainCopiesWrong)

/- THE SECOND FORM. 'bulk': how many values and letters a reading holds, each counted each time it is reached (what is shared counts as often as it is met; a slice's spare places count too). A statement '..UptoSaid' is the law's where the arguments, and the package variables that the reading takes, are together of bulk at most 1048576: NARROWER than '..Said'. Prove '..Said' where nothing that the law and all that it calls make is longer than what came in: it says more and counts as full. Else prove '..UptoSaid'. A law counts once. -/
mutual
def uptoBulk {H : Type} : DataW H → Nat
  | .lit (.string bytes) => bytes.length + 1
  | .lit _ => 1
  | .nil => 1
  | .ptr d => uptoBulk d + 1
  | .slice elems spare => uptoBulkAll elems + uptoBulkAll spare + 1
  | .agg parts => uptoBulkAll parts + 1
  | .iface _ d => uptoBulk d + 1
  | .map entries => uptoBulkEntries entries + 1
  | .held _ => 1
def uptoBulkAll {H : Type} : List (DataW H) → Nat
  | [] => 0
  | d :: r => uptoBulk d + uptoBulkAll r
def uptoBulkEntries {H : Type} : List (Lit × DataW H) → Nat
  | [] => 0
  | x :: r => uptoBulkEntry x + uptoBulkEntries r
def uptoBulkEntry {H : Type} : Lit × DataW H → Nat
  | (.string bytes, d) => bytes.length + uptoBulk d + 1
  | (_, d) => uptoBulk d + 1
 end
def uptoSmall : (H : Type) → List (DataW H) → Bool := fun _ ds => decide (uptoBulkAll ds ≤ 1048576)
def OpenSpec.upto (s : _root_.Go.ChangeSpec) : _root_.Go.OpenSpec := { _root_.Go.OpenSpec.ofChange s with cond := some uptoSmall }

/-- 'carousellaw20.PlainPlaces', WHERE WHAT IT READS IS OF BULK AT MOST 1048576: true; the input reads as it did. -/
def plainPlacesUptoRow : OpenClaim := { program := "ytpmpgnhbpneloaa", sum := "5d8c2d2bb5c366469d98d63710dc7dfe87f675b312c62ecf0d827241581605a7", func := "carousel/carousellaw20.PlainPlaces", spec := "plainPlaces", unfollowed := true, recurses := true, apart := false, narrowed := true }
def PlainPlacesUptoSaid : Prop := plainPlacesUptoRow.holds Try.pinned (OpenSpec.upto plainPlacesSpec)

/-- 'carousellaw20.PlainNil', WHERE WHAT IT READS IS OF BULK AT MOST 1048576: true; the input reads as it did. -/
def plainNilUptoRow : OpenClaim := { program := "ytpmpgnhbpneloaa", sum := "5d8c2d2bb5c366469d98d63710dc7dfe87f675b312c62ecf0d827241581605a7", func := "carousel/carousellaw20.PlainNil", spec := "plainNil", inPlace := ["slices.overlaps[carousel/api.Pair]", "slices.overlaps[int64]"], unfollowed := true, recurses := true, apart := false, narrowed := true }
def PlainNilUptoSaid : Prop := plainNilUptoRow.holds Try.pinned (OpenSpec.upto plainNilSpec)

/-- 'carousellaw20.PlainOwns', WHERE WHAT IT READS IS OF BULK AT MOST 1048576: true; the input reads as it did. -/
def plainOwnsUptoRow : OpenClaim := { program := "ytpmpgnhbpneloaa", sum := "5d8c2d2bb5c366469d98d63710dc7dfe87f675b312c62ecf0d827241581605a7", func := "carousel/carousellaw20.PlainOwns", spec := "plainOwns", inPlace := ["slices.overlaps[carousel/api.Pair]", "slices.overlaps[int64]"], unfollowed := true, recurses := true, apart := false, narrowed := true }
def PlainOwnsUptoSaid : Prop := plainOwnsUptoRow.holds Try.pinned (OpenSpec.upto plainOwnsSpec)

/-- 'carousellaw20.PlainPlays', WHERE WHAT IT READS IS OF BULK AT MOST 1048576: true; the input reads as it did. -/
def plainPlaysUptoRow : OpenClaim := { program := "ytpmpgnhbpneloaa", sum := "5d8c2d2bb5c366469d98d63710dc7dfe87f675b312c62ecf0d827241581605a7", func := "carousel/carousellaw20.PlainPlays", spec := "plainPlays", inPlace := ["slices.overlaps[carousel/api.Pair]", "slices.overlaps[int64]"], unfollowed := true, recurses := true, apart := false, narrowed := true }
def PlainPlaysUptoSaid : Prop := plainPlaysUptoRow.holds Try.pinned (OpenSpec.upto plainPlaysSpec)

/-- 'carousellaw20.PlainCopies', WHERE WHAT IT READS IS OF BULK AT MOST 1048576: true; the input reads as it did. -/
def plainCopiesUptoRow : OpenClaim := { program := "ytpmpgnhbpneloaa", sum := "5d8c2d2bb5c366469d98d63710dc7dfe87f675b312c62ecf0d827241581605a7", func := "carousel/carousellaw20.PlainCopies", spec := "plainCopies", inPlace := ["slices.overlaps[carousel/api.Pair]", "slices.overlaps[int64]"], unfollowed := true, recurses := true, apart := false, narrowed := true }
def PlainCopiesUptoSaid : Prop := plainCopiesUptoRow.holds Try.pinned (OpenSpec.upto plainCopiesSpec)

end Rows
end Go.Proofs.Ytpmpgnhbpneloaa
