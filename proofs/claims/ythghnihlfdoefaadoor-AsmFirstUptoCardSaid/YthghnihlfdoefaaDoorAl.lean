/- What the rows' condition on the variables gives. -/
import Derived.Test.YthghnihlfdoefaaDoorAr
import Derived.Test.YthghnihlfdoefaaDoorTie
import Derived.Lib.LaidU8
import Derived.Lib.LaidTab
import Derived.ChangeSame
import Derived.ChangeVars
import Derived.JoinedOf
import Derived.RowKit
import Derived.RowKitTokens
import Derived.LaidLaws
import Derived.LaidSub
import Derived.LaidHandle
import Derived.Stop.Joined
import Derived.Stop.LaidErr
import Derived.Stop.Texts
import Derived.SevenTiedAt
namespace Go.Proofs.YthghnihlfdoefaaDoor
open Go.ChangeShapes Go.WideShapes Go.RowKit Go.Lib
set_option linter.unusedVariables false
set_option linter.unusedSimpArgs false
set_option maxRecDepth 100000

theorem tab_of_reads {w : World} {name : String} {k : IntKind} {zs : List Int} {g : Nat} {t e : TypeId} {n : Nat} (hg : Tryd.prog.globalNamed name = some g) (hty : (Tryd.prog.globals[g]?).map (·.type) = some t) (ht : Tryd.prog.underlying t = some (.array n e)) (he : Tryd.prog.underlying e = some (.int k))
    (hce : Tryd.prog.cellsOf e = 1) (hct : Tryd.prog.cellsOf t = n) (h : VarReads Tryd.prog w name (tabData k zs)) : w.var? Tryd.prog name = some (zs.map fun z => Value.int k z).toArray := by
  obtain ⟨g', t', cs, fuel, p, h1, h2, h3, h4⟩ := h
  obtain rfl := Option.some.inj (hg.symm.trans h1)
  obtain rfl := Option.some.inj (hty.symm.trans h2)
  have := cells_of_tab ht he hce hct h4
  rw [h3, ← this]
theorem g_pow : Tryd.prog.globalNamed "internal/strconv.uint64pow10" = some 3 := by kernel_rfl
theorem g_sh : Tryd.prog.globalNamed "carousel/code.shapes" = some 1 := by kernel_rfl
theorem g_as : Tryd.prog.globalNamed "strings.asciiSpace" = some 0 := by kernel_rfl
theorem t_pow : (Tryd.prog.globals[3]?).map (·.type) = some 148 := by kernel_rfl
theorem t_sh : (Tryd.prog.globals[1]?).map (·.type) = some 101 := by kernel_rfl
theorem t_as : (Tryd.prog.globals[0]?).map (·.type) = some 92 := by kernel_rfl
theorem c_u64 : Tryd.prog.cellsOf 104 = 1 := by kernel_rfl
theorem c_u8 : Tryd.prog.cellsOf 5 = 1 := by kernel_rfl
theorem c_pow : Tryd.prog.cellsOf 148 = 20 := by kernel_rfl
theorem c_sh : Tryd.prog.cellsOf 101 = 41 := by kernel_rfl
theorem c_as : Tryd.prog.cellsOf 92 = 256 := by kernel_rfl
theorem white_x : WhiteExtra Tryd.prog Tryd.lays157_ren := ⟨by kernel_rfl, by kernel_rfl, by kernel_rfl, by kernel_rfl, by kernel_rfl, by kernel_rfl, by kernel_rfl, by kernel_rfl⟩
/-- The four variables, read. -/
structure Reads4 (w : World) : Prop where
  pow : VarReads Tryd.prog w "internal/strconv.uint64pow10" Rows.laid_internal_strconv_uint64pow10
  sh : VarReads Tryd.prog w "carousel/code.shapes" Rows.laid_carousel_code_shapes
  ws : VarReads Tryd.prog w "unicode.White_Space" Rows.laid_unicode_White_Space
  asc : VarReads Tryd.prog w "strings.asciiSpace" Rows.laid_strings_asciiSpace
theorem env_of_reads {w : World} (h : Reads4 w) : Env w := by
  refine ⟨?_, tab_of_reads (zs := Lib.pow10Tab) g_pow t_pow Tryd.underlying148 Tryd.underlying104 c_u64 c_pow h.pow, tab_of_reads (zs := Lib.asciiSpaceTab) g_as t_as Tryd.underlying92 Tryd.underlying5 c_u8 c_as h.asc,
    whiteTab_of_reads { Tryd.lays157 with } white_x h.ws⟩
  have hv := tab_of_reads (zs := shapeL.map fun (n : Nat) => (n : Int)) g_sh t_sh Tryd.underlying101 Tryd.underlying5 c_u8 c_sh h.sh
  have hc := fun i => World.var?_cell g_sh hv i
  have hl : ∀ c, c < 41 → w.cell? ⟨1, c, none⟩ = some (.int .u8 (shapeF c)) := fun c hcl => by
    rw [hc c]
    have h41 : shapeL.length = 41 := by decide
    rw [List.getElem?_toArray, List.getElem?_map, List.getElem?_map, List.getElem?_eq_getElem (by rw [h41]; exact hcl)]
    simp [shapeF, List.getD_eq_getElem?_getD, List.getElem?_eq_getElem (show c < shapeL.length by rw [h41]; exact hcl)]
  exact ⟨World.block_lt_of_cell? _ _ (hl 0 (by omega)), hl⟩
theorem var_below {w w' : World} {name : String} {cs : Array Value} (h : w.var? Tryd.prog name = some cs) (hb : Below w.heap.size w w') : w'.var? Tryd.prog name = some cs := by
  unfold World.var? at h ⊢
  cases hg : Tryd.prog.globalNamed name with
  | none => rw [hg] at h; cases h
  | some g =>
    rw [hg] at h
    simp only [Option.bind_some] at h ⊢
    have hlt : g < w.heap.size := by
      rcases Nat.lt_or_ge g w.heap.size with hlt | hge
      · exact hlt
      · rw [Array.getElem?_eq_none hge] at h
        cases h
    rw [hb.block g hlt]
    exact h
theorem Env.below {w w' : World} (h : Env w) (hb : Below w.heap.size w w') : Env w' := by
  refine ⟨h.shapes.below hb h.shapes.lt, var_below h.pow hb, var_below h.ascii hb, ?_⟩
  obtain ⟨T, oT, R, oR, h1, h2, h3, h4, h5⟩ := h.white
  have hk : ∀ {a : Addr} {v : Value}, w.cell? a = some v → w'.cell? a = some v := fun {a v} hc => (hb.cell (World.block_lt_of_cell? _ _ hc)).trans hc
  exact ⟨T, oT, R, oR, hk h1, hk h2, hk h3, hk h4, fun i hi => hk (h5 i hi)⟩
theorem Env.in_ {w : World} (h : Env w) : EnvIn w.heap.size w := ⟨Nat.le_refl _, fun w' hb => h.below hb⟩
end Go.Proofs.YthghnihlfdoefaaDoor
