/- What the rows' condition on the variables gives, for those laws that parse. -/
import Derived.Test.YtiheggkkgbfndaaGreatDoorJ47
import Derived.Test.YtiheggkkgbfndaaGreatDoorJ10
import Derived.Stop.LaidErr
import Derived.Shelf.Vars
import Derived.Test.YtiheggkkgbfndaaGreatDoorJ38
import Derived.ProofKit
import Derived.OpenShut
import Derived.ChangeMaps5
import Derived.SizedLaws
import Derived.Deep.DeepHandedRow
import Derived.Deep.DeepWitnessRowRef
namespace Go.Proofs.YtiheggkkgbfndaaGreatDoor
open Go.ChangeShapes Go.WideShapes Go.RowKit Go.Lib
set_option linter.unusedVariables false
set_option linter.unusedSimpArgs false
set_option maxRecDepth 100000
theorem star_ : "*" ++ "errors.errorString" = "*errors.errorString" := by decide
theorem row_err (u : TypeId) (h : Tryz.prog.typeName? 3 u = some "*errors.errorString") : u = 241 :=
 typeName_ptr_named (nm := "errors.errorString") (by rw [star_]; kernel_rfl) (by kernel_rfl) (by decide) u (by rw [star_]; exact h)
theorem g_syn : Tryz.prog.globalNamed "strconv.ErrSyntax" = some 5 := by kernel_rfl
theorem g_rng : Tryz.prog.globalNamed "strconv.ErrRange" = some 6 := by kernel_rfl
theorem t_syn : (Tryz.prog.globals[5]?).map (·.type) = some 77 := by kernel_rfl
theorem t_rng : (Tryz.prog.globals[6]?).map (·.type) = some 77 := by kernel_rfl
theorem c_es : Tryz.prog.cellsOf 243 = 1 := by kernel_rfl
theorem c_str : Tryz.prog.cellsOf 9 = 1 := by kernel_rfl
theorem maxlen_of {W : World} (h : W.ShapedOpen Tryz.prog) : ∃ m, W.cell? ⟨4, 0, none⟩ = some (.int .i64 m) :=
 Go.Proofs.cell_of_shapedOpen_int (zero := #[.int .i64 0]) (t := 3) h (of_decide_eq_true (by kernel_rfl)) (by kernel_rfl) rfl (by kernel_rfl) (by kernel_rfl) Tryz.underlying3
theorem sentinel_of {W : World} {n : String} {g : Nat} {text : List UInt8} {l : List (String × DataW Unit)} (h : laidMet Tryz.prog l W) (hf : l.filter (fun x => x.1 == n) = [(n, .iface "*errors.errorString" (.ptr (.agg [.lit (.string text)])))]) (hg : Tryz.prog.globalNamed n = some g) (ht : (Tryz.prog.globals[g]?).map (·.type) = some 77) :
  ∃ tp p, W.cell? ⟨g, 0, none⟩ = some (.iface tp p) := by
 have h1 := laidMet.filter (fun x => x.1 == n) h
 rw [hf] at h1
 obtain ⟨a, s, hv, _, _, _⟩ := laid_sentinel h1 hg ht Tryz.underlying77 row_err Tryz.underlying241 Tryz.underlying243 rfl rfl Tryz.underlying9 c_es c_str
 exact ⟨_, _, (World.var?_cell hg hv 0).trans rfl⟩
theorem envp_of {W : World} {l : List (String × DataW Unit)} (h : laidMet Tryz.prog l W) (h4 : Reads4 W) (hS : W.ShapedOpen Tryz.prog)
  (hs : l.filter (fun x => x.1 == "strconv.ErrSyntax") = [("strconv.ErrSyntax", Rows.laid_strconv_ErrSyntax)]) (hr : l.filter (fun x => x.1 == "strconv.ErrRange") = [("strconv.ErrRange", Rows.laid_strconv_ErrRange)]) : EnvP W.heap.size W := by
 refine ⟨(env_of_reads h4).in_, ?_, maxlen_of hS, sentinel_of h hs g_syn t_syn, sentinel_of h hr g_rng t_rng⟩
 obtain ⟨cs, hcs, _⟩ := hS.1 11 #[.pointer none] 171 (of_decide_eq_true (by kernel_rfl)) (by kernel_rfl)
 have : 11 < W.heap.size := by
  rcases Nat.lt_or_ge 11 W.heap.size with h1 | h1
  ·exact h1
  ·rw [Array.getElem?_eq_none h1] at hcs; cases hcs
 exact this
end Go.Proofs.YtiheggkkgbfndaaGreatDoor
namespace Go.Proofs.YtiheggkkgbfndaaGreatDoor
open Go.ChangeShapes Go.WideShapes Go.ChangeAt Go.RowKit Go.Lib
set_option linter.unusedVariables false
set_option linter.unusedSimpArgs false
set_option maxRecDepth 100000
def runsB : List Nat → Nat → Nat → List MemPlace → Bool
 | _, _, _, [] => true
 | seen, lb, lo, .cell b o :: r => if b == lb then (decide (lo < o) && runsB seen lb o r) else (!seen.contains b && runsB (b :: seen) b o r)
 | _, _, _, .map _ :: _ => false
theorem runsB_sound : ∀ (ps : List MemPlace) (seen : List Nat) (lb lo : Nat), lb ∈ seen → runsB seen lb lo ps = true → (∀ p ∈ ps, ∃ b o, p = .cell b o ∧ ((b = lb ∧ lo < o) ∨ b ∉ seen)) ∧ ps.Nodup
 | [], _, _, _, _, _ => ⟨fun p hp => (by cases hp), List.nodup_nil⟩
 | .map _ :: _, _, _, _, _, h => by cases h
 | .cell b o :: r, seen, lb, lo, hm, h => by
  unfold runsB at h
  split at h
  ·rename_i hb
   rw [beq_iff_eq] at hb
   subst hb
   rw [Bool.and_eq_true] at h
   have hlo := of_decide_eq_true h.1
   obtain ⟨h1, h2⟩ := runsB_sound r seen b o hm h.2
   refine ⟨fun p hp => ?_, List.nodup_cons.2 ⟨fun hin => ?_, h2⟩⟩
   ·rcases List.mem_cons.1 hp with rfl | hp
    ·exact ⟨b, o, rfl, .inl ⟨rfl, hlo⟩⟩
    ·obtain ⟨b', o', rfl, hx⟩ := h1 p hp
     exact ⟨b', o', rfl, hx.imp (fun hy => ⟨hy.1, by omega⟩) id⟩
   ·obtain ⟨b', o', he, hx⟩ := h1 _ hin
    injection he with e1 e2
    subst e1 e2
    rcases hx with ⟨_, hx⟩ | hx
    ·omega
    ·exact hx hm
  ·rename_i hb
   rw [Bool.and_eq_true, Bool.not_eq_true'] at h
   have hns : b ∉ seen := fun hin => by
    have := h.1
    rw [List.contains_iff_mem.2 hin] at this
    cases this
   obtain ⟨h1, h2⟩ := runsB_sound r (b :: seen) b o (List.mem_cons_self ..) h.2
   refine ⟨fun p hp => ?_, List.nodup_cons.2 ⟨fun hin => ?_, h2⟩⟩
   ·rcases List.mem_cons.1 hp with rfl | hp
    ·exact ⟨b, o, rfl, .inr hns⟩
    ·obtain ⟨b', o', rfl, hx⟩ := h1 p hp
     refine ⟨b', o', rfl, .inr ?_⟩
     rcases hx with ⟨rfl, _⟩ | hx
     ·exact hns
     ·exact fun hin => hx (List.mem_cons_of_mem _ hin)
   ·obtain ⟨b', o', he, hx⟩ := h1 _ hin
    injection he with e1 e2
    subst e1 e2
    rcases hx with ⟨_, hx⟩ | hx
    ·omega
    ·exact hx (List.mem_cons_self ..)
theorem laidMet_of_runs {P : Program} {w : World} {l : List (String × DataW Unit)} (fuel N : Nat) (h : (DataW.laidRun P w fuel (l.map (·.1))).map (·.1) = some l)
  (hr : (DataW.laidRun P w fuel (l.map (·.1))).map (fun x => runsB [N] N 0 x.2) = some true) (hq : (DataW.laidRun P w fuel (l.map (·.1))).map (fun x => laidRowsB P w x.2) = some true) : laidMet P l w := by
 cases hx : DataW.laidRun P w fuel (l.map (·.1)) with
 | none => simp [hx] at h
 | some x =>
  obtain ⟨l', ps⟩ := x
  simp only [hx, Option.map_some, Option.some.injEq] at h hr hq
  subst h
  exact laidMet_of_run fuel hx (decide_eq_true (runsB_sound ps [N] N 0 (List.mem_cons_self ..) hr).2) hq

abbrev bru32' : List Nat := [0, 1, 28, 2, 29, 14, 24, 3, 30, 22, 20, 15, 25, 17, 4, 8, 31, 27, 13, 23, 21, 19, 16, 7, 26, 12, 18, 6, 11, 5, 10, 9]
abbrev bru64' : List Nat := [0, 1, 56, 2, 57, 49, 28, 3, 61, 58, 42, 50, 38, 29, 17, 4, 62, 47, 59, 36, 45, 43, 51, 22, 53, 39, 33, 30, 24, 18, 12, 5, 63, 55, 48, 27, 60, 41, 37, 16, 46, 35, 44, 21, 52, 32, 23, 11, 54, 26, 40, 15, 34, 20, 31, 10, 25, 14, 19, 9, 13, 8, 7, 6]
abbrev accR : List Nat := [128, 191, 160, 191, 128, 159, 144, 191, 128, 143] ++ List.replicate 22 0
noncomputable def parseWorld (os : Os) : World :=
 let N := (World.settled Tryz.prog os).heap.size
 let w0 := World.holding Tryz.prog os ⟨#[.cells (Lib.whiteT.map fun (z : Nat) => Value.int .u16 (z : Int)).toArray 218, .cells #[.slice (some ⟨N, 0, none⟩) 7 7, .slice none 0 0, .int .i64 2] 215,
  .cells #[.string ⟨#[118, 97, 108, 117, 101, 32, 111, 117, 116, 32, 111, 102, 32, 114, 97, 110, 103, 101]⟩] 243, .cells #[.string ⟨#[105, 110, 118, 97, 108, 105, 100, 32, 115, 121, 110, 116, 97, 120]⟩] 243], #[], []⟩
 let put (h : Array Obj) (g : Nat) (cs : Array Value) : Array Obj := h.modify g fun
  | .cells _ t frozen => .cells cs t frozen
  | o => o
 let h1 := put w0.heap 0 (Lib.asciiSpaceTab.map fun z => Value.int .u8 z).toArray
 let h2 := put h1 3 (Lib.pow10Tab.map fun z => Value.int .u64 z).toArray
 let h3 := put h2 1 (shapeL.map fun (z : Nat) => Value.int .u8 (z : Int)).toArray
 let h4 := put h3 2 #[.pointer (some ⟨N + 1, 0, none⟩)]
 let h5 := put h4 9 (bru32'.map fun (z : Nat) => Value.int .u8 (z : Int)).toArray
 let h6 := put h5 10 (bru64'.map fun (z : Nat) => Value.int .u8 (z : Int)).toArray
 let h7 := put h6 8 (accR.map fun (z : Nat) => Value.int .u8 (z : Int)).toArray
 let h8 := put h7 7 (Go.Pinned.utf8FirstZ.map fun (z : Nat) => Value.int .u8 (z : Int)).toArray
 let h9 := put h8 6 #[.iface 241 (.pointer (some ⟨N + 2, 0, none⟩))]
 let h10 := put h9 5 #[.iface 241 (.pointer (some ⟨N + 3, 0, none⟩))]
 { w0 with heap := h10 }
end Go.Proofs.YtiheggkkgbfndaaGreatDoor
