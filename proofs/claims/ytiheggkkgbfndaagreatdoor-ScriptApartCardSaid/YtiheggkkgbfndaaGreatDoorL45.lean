/- A setup and lines that come in as arguments, opened. -/
import Derived.Test.YtiheggkkgbfndaaGreatDoorL44
import Derived.Test.YtiheggkkgbfndaaGreatDoorL43
import Derived.Test.YtiheggkkgbfndaaGreatDoorL26
namespace Go.Proofs.YtiheggkkgbfndaaGreatDoor
open Go.RowKit Go.Joins Go.ChangeShapes Go.WideShapes Go.ChangeAt Go.Deep
set_option linter.unusedVariables false
set_option linter.unusedSimpArgs false
set_option maxRecDepth 100000

section
variable {H:Type} {enc:TypeId × Value→H} {W:World}
instance:Inhabited RJob:=⟨⟨0,[]⟩⟩
instance:Inhabited RLine:=⟨⟨0,[]⟩⟩
instance:Inhabited Value:=⟨.int .i64 0⟩
end
end Go.Proofs.YtiheggkkgbfndaaGreatDoor
namespace Go.Proofs.YtiheggkkgbfndaaGreatDoor
open Go.RowKit Go.Joins Go.ChangeShapes Go.WideShapes Go.Deep
set_option linter.unusedVariables false
set_option linter.unusedSimpArgs false
set_option maxRecDepth 100000
end Go.Proofs.YtiheggkkgbfndaaGreatDoor
namespace Go.Proofs.YtiheggkkgbfndaaGreatDoor
open Go Go.Lib
set_option linter.unusedVariables false
set_option linter.unusedSimpArgs false
theorem runL_lines {x x':SSt} {w:List (List UInt8)} (h:runL x w=.ok x'):x'.lines.length ≤ x.lines.length + 1:=by
 unfold runL at h
 split at h
 ·split at h
  ·cases h
  ·split at h
   ·cases h
   ·injection h with h
    subst h
    simp
 ·cases h
theorem plainL_lines {x x':SSt} {l:List UInt8} {w:List (List UInt8)} (h:plainL x l w=.ok x'):x'.lines.length ≤ x.lines.length + 1:=by
 unfold plainL at h
 split at h
 ·split at h
  ·injection h with h
   subst h
   exact Nat.le_succ _
  ·cases h
 ·split at h
  ·split at h
   ·cases h
   ·injection h with h
    subst h
    exact Nat.le_succ _
  ·split at h
   ·split at h
    ·injection h with h
     subst h
     exact Nat.le_succ _
    ·cases h
   ·split at h
    ·exact runL_lines h
    ·split at h
     ·injection h with h
      subst h
      simp
     ·cases h
theorem goesL_lines:∀ {f pos part:Nat} {x y:SSt} {t:List UInt8},goesL f pos part x t=.ok y→y.lines.length ≤ x.lines.length + f
 | 0,pos,part,x,y,t,h=>by
  injection h with h
  subst h
  exact Nat.le_refl _
 | f + 1,pos,part,x,y,t,h=>by
  unfold goesL at h
  split at h
  ·injection h with h
   subst h
   exact Nat.le_add_right _ _
  ·cases hn:nextL t with
   | none=>rw [hn] at h;cases h
   | some z =>
    obtain ⟨l,r⟩:=z
    rw [hn] at h
    simp only at h
    split at h
    ·cases h
    ·split at h
     ·split at h
      ·cases h
      ·cases hb:bodyL (r.length + 1) r with
       | none=>rw [hb] at h;cases h
       | some z =>
        obtain ⟨b,r'⟩:=z
        rw [hb] at h
        simp only at h
        cases hL:parseF b with
        | error e=>rw [hL] at h;cases h
        | ok L =>
         rw [hL] at h
         simp only at h
         have h1:=goesL_lines h
         have h2:y.lines.length ≤ x.lines.length + f:=h1
         omega
     ·cases hp:plainL x l (splitF 32 l) with
      | error e=>rw [hp] at h;cases h
      | ok x' =>
       rw [hp] at h
       simp only at h
       have h1:=goesL_lines h
       have h2:=plainL_lines hp
       omega
theorem parseS_lines {t:List UInt8} {x:SSt} (h:parseS t=.ok x):x.lines.length ≤ 65536:=by
 unfold parseS at h
 split at h
 ·cases h
 ·rename_i h65
  cases hn:nextL t with
  | none=>rw [hn] at h;cases h
  | some z =>
   obtain ⟨l,r⟩:=z
   have hl:=(nextL_len hn).1
   rw [hn] at h
   simp only at h
   cases hc:configL l with
   | none=>rw [hc] at h;cases h
   | some c =>
    rw [hc] at h
    simp only at h
    cases hr:goesL (r.length + 1) (l.length + 1) 1 ⟨⟨c,[],[],[]⟩,[],0⟩ r with
    | error e=>rw [hr] at h;cases h
    | ok y =>
     rw [hr] at h
     simp only at h
     split at h
     ·injection h with h
      subst h
      have h1:y.lines.length ≤ 0 + (r.length + 1):=goesL_lines hr
      have h2:t.length=l.length + (r.length + 1):=by rw [hl,List.length_append,List.length_cons]
      omega
     ·cases h
end Go.Proofs.YtiheggkkgbfndaaGreatDoor
namespace Go.Proofs.YtiheggkkgbfndaaGreatDoor
open Go.RowKit Go.Joins Go.ChangeShapes Go.WideShapes Go.Deep
set_option linter.unusedVariables false
set_option linter.unusedSimpArgs false
set_option maxRecDepth 100000
def ReadsAt (w:World) (t:ByteArray) (x:PSet) (l:List PLine):Prop:=∀ W,Below w.heap.size w W→Calls Tryz.prog 9 #[.string t] W fun e w'=>Below W.heap.size W w'∧∃ Rr cr Rp cp Rt ct Rl cl,e=.returned (.tuple #[.agg (setupC x.cfg (.slice Rr x.regs.length cr) (.slice Rp x.progs.length cp) (.slice Rt x.thr.length ct)),.slice Rl l.length cl,.int .i64 0,.int .i64 0])∧SetRd w' w'.heap.size x (.slice Rr x.regs.length cr) (.slice Rp x.progs.length cp) (.slice Rt x.thr.length ct)∧LinesRd w' w'.heap.size l (.slice Rl l.length cl)
theorem reads_at {C:Nat} {w:World} (hE:EnvP C w) {t:ByteArray} {x:SSt} (h:parseS t.data.toList=.ok x):ReadsAt w t x.set x.lines:=fun W hW=>(pparse_any t W (hE.later hW)).mono fun e w' ⟨hb,hp⟩=>by
 rw [h] at hp
 obtain ⟨rv,pv,tv,lv,T,L,h2,h3⟩:=hp
 have h4:=h3.set_rd
 have h5:=h3.lines_rd
 obtain ⟨Rr,cr,Rp,cp,Rt,ct,rfl,rfl,rfl⟩:=set_shape h4
 obtain ⟨_,Rl,cl,_,rfl,_⟩:=id h5
 exact ⟨hb,Rr,cr,Rp,cp,Rt,ct,Rl,cl,h2,h4,h5⟩
end Go.Proofs.YtiheggkkgbfndaaGreatDoor
