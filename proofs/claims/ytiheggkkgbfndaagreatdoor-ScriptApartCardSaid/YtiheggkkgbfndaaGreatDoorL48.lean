/- What the rows' condition on the variables gives. -/
import Derived.Test.YtiheggkkgbfndaaGreatDoorL09
import Derived.Test.YtiheggkkgbfndaaGreatDoorTie
import Derived.Lib.LaidU8
import Derived.Lib.LaidTab
import Derived.ChangeSame
import Derived.ChangeVars
import Derived.JoinedOf
import Derived.RowKit
import Derived.RowKitTokens
import Derived.LaidLaws
import Derived.LaidSub
import Derived.LaidHandle
import Derived.Stop.Joined
import Derived.Stop.LaidErr
import Derived.Stop.Texts
import Derived.SevenTiedAt
import Derived.Shelf.Vars
import Derived.Test.YtiheggkkgbfndaaGreatDoorL34
import Derived.ProofKit
import Derived.OpenShut
import Derived.ChangeMaps5
import Derived.SizedLaws
import Derived.Deep.DeepHandedRow
import Derived.Deep.DeepWitnessRowRef
namespace Go.Proofs.YtiheggkkgbfndaaGreatDoor
open Go.ChangeShapes Go.WideShapes Go.RowKit Go.Lib
set_option linter.unusedVariables false
set_option linter.unusedSimpArgs false
set_option maxRecDepth 100000
theorem tab_of_reads {w:World} {name:String} {k:IntKind} {zs:List Int} {g:Nat} {t e:TypeId} {n:Nat} (hg:Tryz.prog.globalNamed name=some g) (hty:(Tryz.prog.globals[g]?).map (·.type)=some t) (ht:Tryz.prog.underlying t=some (.array n e)) (he:Tryz.prog.underlying e=some (.int k))
  (hce:Tryz.prog.cellsOf e=1) (hct:Tryz.prog.cellsOf t=n) (h:VarReads Tryz.prog w name (tabData k zs)):w.var? Tryz.prog name=some (zs.map fun z=>Value.int k z).toArray:=by
 obtain ⟨g',t',cs,fuel,p,h1,h2,h3,h4⟩:=h
 obtain rfl:=Option.some.inj (hg.symm.trans h1)
 obtain rfl:=Option.some.inj (hty.symm.trans h2)
 have:=cells_of_tab ht he hce hct h4
 rw [h3,← this]
theorem g_pow:Tryz.prog.globalNamed "internal/strconv.uint64pow10" = some 3:=by kernel_rfl
theorem g_sh:Tryz.prog.globalNamed "carousel/code.shapes" = some 1:=by kernel_rfl
theorem g_as:Tryz.prog.globalNamed "strings.asciiSpace" = some 0:=by kernel_rfl
theorem t_pow:(Tryz.prog.globals[3]?).map (·.type)=some 224:=by kernel_rfl
theorem t_sh:(Tryz.prog.globals[1]?).map (·.type)=some 162:=by kernel_rfl
theorem t_as:(Tryz.prog.globals[0]?).map (·.type)=some 139:=by kernel_rfl
theorem c_u64:Tryz.prog.cellsOf 130=1:=by kernel_rfl
theorem c_u8:Tryz.prog.cellsOf 5=1:=by kernel_rfl
theorem c_pow:Tryz.prog.cellsOf 224=20:=by kernel_rfl
theorem c_sh:Tryz.prog.cellsOf 162=41:=by kernel_rfl
theorem c_as:Tryz.prog.cellsOf 139=256:=by kernel_rfl
theorem white_x:WhiteExtra Tryz.prog Tryz.lays157_ren:=⟨by kernel_rfl,by kernel_rfl,by kernel_rfl,by kernel_rfl,by kernel_rfl,by kernel_rfl,by kernel_rfl,by kernel_rfl⟩
structure Reads4 (w:World):Prop where
 pow:VarReads Tryz.prog w "internal/strconv.uint64pow10" Rows.laid_internal_strconv_uint64pow10
 sh:VarReads Tryz.prog w "carousel/code.shapes" Rows.laid_carousel_code_shapes
 ws:VarReads Tryz.prog w "unicode.White_Space" Rows.laid_unicode_White_Space
 asc:VarReads Tryz.prog w "strings.asciiSpace" Rows.laid_strings_asciiSpace
theorem env_of_reads {w:World} (h:Reads4 w):Env w:=by
 refine ⟨?_,tab_of_reads (zs:=Lib.pow10Tab) g_pow t_pow Tryz.underlying224 Tryz.underlying130 c_u64 c_pow h.pow,tab_of_reads (zs:=Lib.asciiSpaceTab) g_as t_as Tryz.underlying139 Tryz.underlying5 c_u8 c_as h.asc,
  whiteTab_of_reads { Tryz.lays157 with } white_x h.ws⟩
 have hv:=tab_of_reads (zs:=shapeL.map fun (n:Nat)=>(n:Int)) g_sh t_sh Tryz.underlying162 Tryz.underlying5 c_u8 c_sh h.sh
 have hc:=fun i=>World.var?_cell g_sh hv i
 have hl:∀ c,c < 41→w.cell? ⟨1,c,none⟩=some (.int .u8 (shapeF c)):=fun c hcl=>by
  rw [hc c]
  have h41:shapeL.length=41:=by decide
  rw [List.getElem?_toArray,List.getElem?_map,List.getElem?_map,List.getElem?_eq_getElem (by rw [h41];exact hcl)]
  simp [shapeF,List.getD_eq_getElem?_getD,List.getElem?_eq_getElem (show c < shapeL.length by rw [h41];exact hcl)]
 exact ⟨World.block_lt_of_cell? _ _ (hl 0 (by omega)),hl⟩
theorem var_below {w w':World} {name:String} {cs:Array Value} (h:w.var? Tryz.prog name=some cs) (hb:Below w.heap.size w w'):w'.var? Tryz.prog name=some cs:=by
 unfold World.var? at h ⊢
 cases hg:Tryz.prog.globalNamed name with
 | none=>rw [hg] at h;cases h
 | some g =>
  rw [hg] at h
  simp only [Option.bind_some] at h ⊢
  have hlt:g < w.heap.size:=by
   rcases Nat.lt_or_ge g w.heap.size with hlt | hge
   ·exact hlt
   ·rw [Array.getElem?_eq_none hge] at h
    cases h
  rw [hb.block g hlt]
  exact h
theorem Env.below {w w':World} (h:Env w) (hb:Below w.heap.size w w'):Env w':=by
 refine ⟨h.shapes.below hb h.shapes.lt,var_below h.pow hb,var_below h.ascii hb,?_⟩
 obtain ⟨T,oT,R,oR,h1,h2,h3,h4,h5⟩:=h.white
 have hk:∀ {a:Addr} {v:Value},w.cell? a=some v→w'.cell? a=some v:=fun {a v} hc=>(hb.cell (World.block_lt_of_cell? _ _ hc)).trans hc
 exact ⟨T,oT,R,oR,hk h1,hk h2,hk h3,hk h4,fun i hi=>hk (h5 i hi)⟩
theorem Env.in_ {w:World} (h:Env w):EnvIn w.heap.size w:=⟨Nat.le_refl _,fun w' hb=>h.below hb⟩
theorem star_ : "*" ++ "errors.errorString" = "*errors.errorString" := by decide
theorem row_err (u:TypeId) (h:Tryz.prog.typeName? 3 u=some "*errors.errorString"):u=241 :=
 typeName_ptr_named (nm := "errors.errorString") (by rw [star_];kernel_rfl) (by kernel_rfl) (by decide) u (by rw [star_];exact h)
theorem g_syn:Tryz.prog.globalNamed "strconv.ErrSyntax" = some 5:=by kernel_rfl
theorem g_rng:Tryz.prog.globalNamed "strconv.ErrRange" = some 6:=by kernel_rfl
theorem t_syn:(Tryz.prog.globals[5]?).map (·.type)=some 77:=by kernel_rfl
theorem t_rng:(Tryz.prog.globals[6]?).map (·.type)=some 77:=by kernel_rfl
theorem c_es:Tryz.prog.cellsOf 243=1:=by kernel_rfl
theorem c_str:Tryz.prog.cellsOf 9=1:=by kernel_rfl
theorem maxlen_of {W:World} (h:W.ShapedOpen Tryz.prog):∃ m,W.cell? ⟨4,0,none⟩=some (.int .i64 m) :=
 Go.Proofs.cell_of_shapedOpen_int (zero:=#[.int .i64 0]) (t:=3) h (of_decide_eq_true (by kernel_rfl)) (by kernel_rfl) rfl (by kernel_rfl) (by kernel_rfl) Tryz.underlying3
theorem sentinel_of {W:World} {n:String} {g:Nat} {text:List UInt8} {l:List (String × DataW Unit)} (h:laidMet Tryz.prog l W) (hf:l.filter (fun x=>x.1 == n)=[(n,.iface "*errors.errorString" (.ptr (.agg [.lit (.string text)])))]) (hg:Tryz.prog.globalNamed n=some g) (ht:(Tryz.prog.globals[g]?).map (·.type)=some 77) :
  ∃ tp p,W.cell? ⟨g,0,none⟩=some (.iface tp p):=by
 have h1:=laidMet.filter (fun x=>x.1 == n) h
 rw [hf] at h1
 obtain ⟨a,s,hv,_,_,_⟩:=laid_sentinel h1 hg ht Tryz.underlying77 row_err Tryz.underlying241 Tryz.underlying243 rfl rfl Tryz.underlying9 c_es c_str
 exact ⟨_,_,(World.var?_cell hg hv 0).trans rfl⟩
theorem envp_of {W:World} {l:List (String × DataW Unit)} (h:laidMet Tryz.prog l W) (h4:Reads4 W) (hS:W.ShapedOpen Tryz.prog)
  (hs:l.filter (fun x=>x.1 == "strconv.ErrSyntax")=[("strconv.ErrSyntax",Rows.laid_strconv_ErrSyntax)]) (hr:l.filter (fun x=>x.1 == "strconv.ErrRange")=[("strconv.ErrRange",Rows.laid_strconv_ErrRange)]):EnvP W.heap.size W:=by
 refine ⟨(env_of_reads h4).in_,?_,maxlen_of hS,sentinel_of h hs g_syn t_syn,sentinel_of h hr g_rng t_rng⟩
 obtain ⟨cs,hcs,_⟩:=hS.1 11 #[.pointer none] 171 (of_decide_eq_true (by kernel_rfl)) (by kernel_rfl)
 have:11 < W.heap.size:=by
  rcases Nat.lt_or_ge 11 W.heap.size with h1 | h1
  ·exact h1
  ·rw [Array.getElem?_eq_none h1] at hcs;cases hcs
 exact this
end Go.Proofs.YtiheggkkgbfndaaGreatDoor
namespace Go.Proofs.YtiheggkkgbfndaaGreatDoor
open Go.ChangeShapes Go.WideShapes Go.ChangeAt Go.RowKit Go.Lib
set_option linter.unusedVariables false
set_option linter.unusedSimpArgs false
set_option maxRecDepth 100000
def runsB:List Nat→Nat→Nat→List MemPlace→Bool
 | _,_,_,[]=>true
 | seen,lb,lo,.cell b o :: r=>if b == lb then (decide (lo < o) && runsB seen lb o r) else (!seen.contains b && runsB (b :: seen) b o r)
 | _,_,_,.map _ :: _=>false
theorem runsB_sound:∀ (ps:List MemPlace) (seen:List Nat) (lb lo:Nat),lb ∈ seen→runsB seen lb lo ps=true→(∀ p ∈ ps,∃ b o,p=.cell b o∧((b=lb∧lo < o) ∨ b ∉ seen))∧ps.Nodup
 | [],_,_,_,_,_=>⟨fun p hp=>(by cases hp),List.nodup_nil⟩
 | .map _ :: _,_,_,_,_,h=>by cases h
 | .cell b o :: r,seen,lb,lo,hm,h=>by
  unfold runsB at h
  split at h
  ·rename_i hb
   rw [beq_iff_eq] at hb
   subst hb
   rw [Bool.and_eq_true] at h
   have hlo:=of_decide_eq_true h.1
   obtain ⟨h1,h2⟩:=runsB_sound r seen b o hm h.2
   refine ⟨fun p hp=>?_,List.nodup_cons.2 ⟨fun hin=>?_,h2⟩⟩
   ·rcases List.mem_cons.1 hp with rfl | hp
    ·exact ⟨b,o,rfl,.inl ⟨rfl,hlo⟩⟩
    ·obtain ⟨b',o',rfl,hx⟩:=h1 p hp
     exact ⟨b',o',rfl,hx.imp (fun hy=>⟨hy.1,by omega⟩) id⟩
   ·obtain ⟨b',o',he,hx⟩:=h1 _ hin
    injection he with e1 e2
    subst e1 e2
    rcases hx with ⟨_,hx⟩ | hx
    ·omega
    ·exact hx hm
  ·rename_i hb
   rw [Bool.and_eq_true,Bool.not_eq_true'] at h
   have hns:b ∉ seen:=fun hin=>by
    have:=h.1
    rw [List.contains_iff_mem.2 hin] at this
    cases this
   obtain ⟨h1,h2⟩:=runsB_sound r (b :: seen) b o (List.mem_cons_self ..) h.2
   refine ⟨fun p hp=>?_,List.nodup_cons.2 ⟨fun hin=>?_,h2⟩⟩
   ·rcases List.mem_cons.1 hp with rfl | hp
    ·exact ⟨b,o,rfl,.inr hns⟩
    ·obtain ⟨b',o',rfl,hx⟩:=h1 p hp
     refine ⟨b',o',rfl,.inr ?_⟩
     rcases hx with ⟨rfl,_⟩ | hx
     ·exact hns
     ·exact fun hin=>hx (List.mem_cons_of_mem _ hin)
   ·obtain ⟨b',o',he,hx⟩:=h1 _ hin
    injection he with e1 e2
    subst e1 e2
    rcases hx with ⟨_,hx⟩ | hx
    ·omega
    ·exact hx (List.mem_cons_self ..)
theorem laidMet_of_runs {P:Program} {w:World} {l:List (String × DataW Unit)} (fuel N:Nat) (h:(DataW.laidRun P w fuel (l.map (·.1))).map (·.1)=some l)
  (hr:(DataW.laidRun P w fuel (l.map (·.1))).map (fun x=>runsB [N] N 0 x.2)=some true) (hq:(DataW.laidRun P w fuel (l.map (·.1))).map (fun x=>laidRowsB P w x.2)=some true):laidMet P l w:=by
 cases hx:DataW.laidRun P w fuel (l.map (·.1)) with
 | none=>simp [hx] at h
 | some x =>
  obtain ⟨l',ps⟩:=x
  simp only [hx,Option.map_some,Option.some.injEq] at h hr hq
  subst h
  exact laidMet_of_run fuel hx (decide_eq_true (runsB_sound ps [N] N 0 (List.mem_cons_self ..) hr).2) hq

abbrev bru32':List Nat:=[0,1,28,2,29,14,24,3,30,22,20,15,25,17,4,8,31,27,13,23,21,19,16,7,26,12,18,6,11,5,10,9]
abbrev bru64':List Nat:=[0,1,56,2,57,49,28,3,61,58,42,50,38,29,17,4,62,47,59,36,45,43,51,22,53,39,33,30,24,18,12,5,63,55,48,27,60,41,37,16,46,35,44,21,52,32,23,11,54,26,40,15,34,20,31,10,25,14,19,9,13,8,7,6]
abbrev accR:List Nat:=[128,191,160,191,128,159,144,191,128,143] ++ List.replicate 22 0
noncomputable def parseWorld (os:Os):World :=
 let N:=(World.settled Tryz.prog os).heap.size
 let w0:=World.holding Tryz.prog os ⟨#[.cells (Lib.whiteT.map fun (z:Nat)=>Value.int .u16 (z:Int)).toArray 218,.cells #[.slice (some ⟨N,0,none⟩) 7 7,.slice none 0 0,.int .i64 2] 215,
  .cells #[.string ⟨#[118,97,108,117,101,32,111,117,116,32,111,102,32,114,97,110,103,101]⟩] 243,.cells #[.string ⟨#[105,110,118,97,108,105,100,32,115,121,110,116,97,120]⟩] 243],#[],[]⟩
 let put (h:Array Obj) (g:Nat) (cs:Array Value):Array Obj:=h.modify g fun
  | .cells _ t frozen=>.cells cs t frozen
  | o=>o
 let h1:=put w0.heap 0 (Lib.asciiSpaceTab.map fun z=>Value.int .u8 z).toArray
 let h2:=put h1 3 (Lib.pow10Tab.map fun z=>Value.int .u64 z).toArray
 let h3:=put h2 1 (shapeL.map fun (z:Nat)=>Value.int .u8 (z:Int)).toArray
 let h4:=put h3 2 #[.pointer (some ⟨N + 1,0,none⟩)]
 let h5:=put h4 9 (bru32'.map fun (z:Nat)=>Value.int .u8 (z:Int)).toArray
 let h6:=put h5 10 (bru64'.map fun (z:Nat)=>Value.int .u8 (z:Int)).toArray
 let h7:=put h6 8 (accR.map fun (z:Nat)=>Value.int .u8 (z:Int)).toArray
 let h8:=put h7 7 (Go.Pinned.utf8FirstZ.map fun (z:Nat)=>Value.int .u8 (z:Int)).toArray
 let h9:=put h8 6 #[.iface 241 (.pointer (some ⟨N + 2,0,none⟩))]
 let h10:=put h9 5 #[.iface 241 (.pointer (some ⟨N + 3,0,none⟩))]
 { w0 with heap:=h10 }
end Go.Proofs.YtiheggkkgbfndaaGreatDoor
