/- Proves Rows.DictApartSaid: for every input 'carousellaw17.DictApart' returns true and each argument reads behind the call as it read before. Conditions: none beyond the row's own. -/
import Derived.Test.YtjggcidaolnmbaaDpl
import Derived.Test.YtjggcidaolnmbaaDr1
namespace Go.Proofs.Ytjggcidaolnmbaa.dictApart
open Go.RowKit Go.Joins Go.ChangeShapes Go.WideShapes Go.ChangeAt Go.Deep
set_option linter.unusedVariables false
set_option maxRecDepth 100000

theorem MIs.other {w w' : World} {b b' : Nat} {s : DS} {S : Nat → Prop} {cs : Array Value} (h : MIs w b s S) (hg : w.grownBy w' (some b')) (hb' : Blk w b' 64 cs) (hne : b ≠ b') : MIs w' b s S :=
  h.keep (fun _ hb => hb.grown hg (fun e => by injection e with e; exact hne e)) (fun g _ _ hb => hb.grown hg (fun e => by injection e with e; exact hb.ne_ hb' (by decide) e)) fun _ h => h

theorem below_of_only {a w : World} {g B : Nat} (h : a.grownBy w (some g)) (hB : B ≤ g) (hs : B ≤ a.heap.size) : Below B a w :=
  ⟨h.os, h.tape, h.output, h.size, fun q hq => h.block q (by omega) (by intro hh; injection hh with hh; omega)⟩

/-- Two calls' arguments, as values. -/
def askv (base most call : Int) (A : Option Addr) (n nc : Nat) (Wd : Option Addr) (m mc : Nat) : Array Value := #[.int .i64 base, .int .i64 most, .int .i64 call, .slice A n nc, .slice Wd m mc]
def wcells (x : Want) : Array Value := #[.int .i64 x.kind, .int .i64 x.cell, .int .i64 x.value, .int .i64 x.code]

theorem walk_no (base most call base' most' call' : Int) (args args' : List Int) (A Wd A' Wd' : Option Addr) (n nc m mc n' nc' m' mc' : Nat) (w : World) (hn : n ≤ 9223372036854775807) (hn' : n' ≤ 9223372036854775807)
    (hA : Reads w w.heap.size 1 A n (ints args)) (hA' : Reads w w.heap.size 1 A' n' (ints args')) (hno : ¬ (callOk base most call args ∧ callOk base' most' call' args')) :
    Calls Try.prog 6 #[.agg #[.int .i64 base, .int .i64 most, .int .i64 call, .slice A n nc, .slice Wd m mc], .agg #[.int .i64 base', .int .i64 most', .int .i64 call', .slice A' n' nc', .slice Wd' m' mc']] w fun e w' => e = .returned (.bool true) ∧ Below w.heap.size w w' := by
  have hA0 : Reads ((w.alloc (.cells #[.int .i64 base, .int .i64 most, .int .i64 call, .slice A n nc, .slice Wd m mc] 26)).alloc (.cells #[.int .i64 base', .int .i64 most', .int .i64 call', .slice A' n' nc', .slice Wd' m' mc'] 26)) w.heap.size 1 A n (ints args) := (hA.alloc (Nat.le_refl _) _).alloc (by simp) _
  have hA1 : Reads ((w.alloc (.cells #[.int .i64 base, .int .i64 most, .int .i64 call, .slice A n nc, .slice Wd m mc] 26)).alloc (.cells #[.int .i64 base', .int .i64 most', .int .i64 call', .slice A' n' nc', .slice Wd' m' mc'] 26)) w.heap.size 1 A' n' (ints args') := (hA'.alloc (Nat.le_refl _) _).alloc (by simp) _
  by_cases ha : callOk base most call args
  · have hb : ¬ callOk base' most' call' args' := fun h => hno ⟨ha, h⟩
    have HA := Lib.hid ha
    have HB := Lib.hid hb
    clear ha hb hno
    go_enter Try.func6, Try.ntmps6
    go_wp2_with fail
    refine (right_yes base most call args A n nc w.heap.size _ (by exact hA0) HA.out).mono ?_
    rintro e w2 ⟨rfl, rfl⟩
    go_wp2_with fail
    refine (right_no base' most' call' args' A' n' nc' w.heap.size _ (by exact hA1) HB.out).mono ?_
    rintro e w2 ⟨rfl, rfl⟩
    go_wp2_with fail
    go_ret
    exact ⟨rfl, by repeat (first | with_reducible exact Below.refl _ _ | with_reducible refine Below.drew ?_ | ((with_reducible refine Below.alloc ?_ ?_ _); (rotate_left; focus (first | with_reducible exact Nat.le_refl _ | (simp; done) | (simp; omega) | (simp [World.setCell]; done) | (simp [World.setCell]; omega)))) | ((with_reducible refine Below.setCell ?_ ?_ _); (rotate_left; focus (first | with_reducible exact Nat.le_refl _ | (simp; done) | (simp; omega) | (simp [World.setCell]; done) | (simp [World.setCell]; omega)))))⟩
  · have HA := Lib.hid ha
    have HR : Hid (∃ r, Calls Try.prog 15 #[.int .i64 base', .int .i64 most', .int .i64 call', .slice A' n' nc'] ((w.alloc (.cells #[.int .i64 base, .int .i64 most, .int .i64 call, .slice A n nc, .slice Wd m mc] 26)).alloc (.cells #[.int .i64 base', .int .i64 most', .int .i64 call', .slice A' n' nc', .slice Wd' m' mc'] 26)) fun e w' => e = .returned (.bool r) ∧ ((w.alloc (.cells #[.int .i64 base, .int .i64 most, .int .i64 call, .slice A n nc, .slice Wd m mc] 26)).alloc (.cells #[.int .i64 base', .int .i64 most', .int .i64 call', .slice A' n' nc', .slice Wd' m' mc'] 26)) = w') := by
      by_cases hb : callOk base' most' call' args'
      · exact ⟨true, right_yes base' most' call' args' A' n' nc' w.heap.size _ hA1 hb⟩
      · exact ⟨false, right_no base' most' call' args' A' n' nc' w.heap.size _ hA1 hb⟩
    clear ha hno
    go_enter Try.func6, Try.ntmps6
    go_wp2_with fail
    refine (right_no base most call args A n nc w.heap.size _ (by exact hA0) HA.out).mono ?_
    rintro e w2 ⟨rfl, rfl⟩
    go_wp2_with fail
    obtain ⟨r, hr⟩ := HR.out
    refine hr.mono ?_
    rintro e w2 ⟨rfl, rfl⟩
    go_wp2_with fail
    go_ret
    exact ⟨rfl, by repeat (first | with_reducible exact Below.refl _ _ | with_reducible refine Below.drew ?_ | ((with_reducible refine Below.alloc ?_ ?_ _); (rotate_left; focus (first | with_reducible exact Nat.le_refl _ | (simp; done) | (simp; omega) | (simp [World.setCell]; done) | (simp [World.setCell]; omega)))) | ((with_reducible refine Below.setCell ?_ ?_ _); (rotate_left; focus (first | with_reducible exact Nat.le_refl _ | (simp; done) | (simp; omega) | (simp [World.setCell]; done) | (simp [World.setCell]; omega)))))⟩

def Rel (base most call : Int) (args : List Int) (w : World) (my p11 p12 p13 p14 B : Nat) (bc : Array Value) (x1 : Want) (m : Nat) (gk : Nat) (rv wv i : Value) (wr : World) : Prop :=
  ∃ (k : Nat) (read : List Int) (writes : Int) (last : Want) (s : DS), rv = rv ∧ wv = .int .i64 writes ∧ i = .int .i64 k ∧ gk = m - k ∧ k ≤ m ∧ 0 ≤ writes ∧ writes ≤ k ∧ read.length ≤ k ∧
    Sim base most call args read writes last s ∧ MIs wr my s (fun g => g ≠ p12 ∧ g ≠ p14) ∧ wr.ownsRow B 2 1 rv read.length (ints read) ∧
    Blk wr (w.heap.size + 1) 26 bc ∧ Blk wr p11 37 (wcells x1) ∧ Blk wr p13 37 (wcells x1) ∧ Blk wr p12 37 (wcells last) ∧ Blk wr p14 37 (wcells last) ∧ Below w.heap.size w wr

theorem first_step {base most call : Int} {args : List Int} {v : Int} (hok : callOk base most call args) {x y : Want} {s' : DS} (hx : nextF (startF base most call args) v = (x, s')) (hy : wantsF base most call args [] 0 ⟨0, 0, 0, 0⟩ = y) :
    x = y ∧ Sim base most call args [] 0 x s' := by
  have hst := step_sim hok (startF_sim hok) v
  rw [hx] at hst
  have e1 : readsNext ⟨0, 0, 0, 0⟩ [] v = [] := by simp [readsNext]
  have e2 : writesNext ⟨0, 0, 0, 0⟩ 0 = 0 := by simp [writesNext]
  rw [e1, e2] at hst
  exact ⟨hst.eq.trans hy, hst.sim⟩

def put4 (w : World) (p : Nat) (x : Want) : World :=
  (((w.setCell ⟨p, 0, none⟩ (.int .i64 x.kind)).setCell ⟨p, 1, none⟩ (.int .i64 x.cell)).setCell ⟨p, 2, none⟩ (.int .i64 x.value)).setCell ⟨p, 3, none⟩ (.int .i64 x.code)
theorem put4_size (w : World) (p : Nat) (x : Want) : (put4 w p x).heap.size = w.heap.size := by simp [put4, World.setCell]
theorem blk_far4 {w : World} {g : Nat} {t : TypeId} {cs : Array Value} {p : Nat} (h : Blk w g t cs) (hne : g ≠ p) (x : Want) : Blk (put4 w p x) g t cs :=
  (((h.far (p := ⟨p, 0, none⟩) hne _).far (p := ⟨p, 1, none⟩) hne _).far (p := ⟨p, 2, none⟩) hne _).far (p := ⟨p, 3, none⟩) hne _
theorem blk_at4 {w : World} {p : Nat} {t : TypeId} {y : Want} (h : Blk w p t (wcells y)) (x : Want) : Blk (put4 w p x) p t (wcells x) := by
  have := (((h.set_ 0 (.int .i64 x.kind)).set_ 1 (.int .i64 x.cell)).set_ 2 (.int .i64 x.value)).set_ 3 (.int .i64 x.code)
  exact this
theorem mis_put4 {w : World} {b : Nat} {s : DS} {S : Nat → Prop} {p : Nat} (h : MIs w b s S) (hb : p ≠ b) (hS : ¬ S p) (x : Want) : MIs (put4 w p x) b s S :=
  (((h.far (p := ⟨p, 0, none⟩) hb hS _).far (p := ⟨p, 1, none⟩) hb hS _).far (p := ⟨p, 2, none⟩) hb hS _).far (p := ⟨p, 3, none⟩) hb hS _
theorem own_put4 {w : World} {B n p : Nat} {e : TypeId} {v : Value} {xs : List Value} (h : w.ownsRow B e 1 v n xs) (hp : p < B) (x : Want) : (put4 w p x).ownsRow B e 1 v n xs :=
  ownsRow_setCell_below (ownsRow_setCell_below (ownsRow_setCell_below (ownsRow_setCell_below h (by simpa using hp) _) (by simpa using hp) _) (by simpa using hp) _) (by simpa using hp) _
theorem below_put4 {B : Nat} {a w : World} {p : Nat} (h : Below B a w) (hp : B ≤ p) (x : Want) : Below B a (put4 w p x) :=
  (((h.setCell (by simpa using hp) _).setCell (by simpa using hp) _).setCell (by simpa using hp) _).setCell (by simpa using hp) _

theorem ap_app {wr w1 : World} {B : Nat} {R : Option Addr} {rc : Nat} {read : List Int} {V : Int} {v' : Value} (hown : wr.ownsRow B 2 1 (.slice R read.length rc) read.length (ints read))
    (hown' : w1.ownsRow B 2 1 v' (read.length + 1) (ints read ++ [.int .i64 V])) (hgrow : (wr.alloc (.cells #[.int .i64 V] 2)).grownBy w1 (Value.slice R read.length rc).ownBlock) :
    ∃ R' rc', v' = .slice R' (read.length + 1) rc' ∧ read.length + 1 ≤ rc' ∧ w1.ownsRow B 2 1 (.slice R' (read.length + 1) rc') (read.length + 1) (ints (read ++ [V])) ∧
      Reads w1 w1.heap.size 1 R' (read.length + 1) (ints (read ++ [V])) ∧ (∀ mb s S, MIs wr mb s S → MIs w1 mb s S) ∧ (∀ g t cs, 2 ≠ t → Blk wr g t cs → Blk w1 g t cs) ∧ (∀ BB a, BB ≤ B → Below BB a wr → BB ≤ wr.heap.size → Below BB a w1) := by
  obtain ⟨R', rc', rfl, hrc', hRd⟩ := own_shape hown'
  have ho := hown.alloc (.cells #[.int .i64 V] 2)
  rw [ints_snoc] at hown' hRd
  refine ⟨R', rc', rfl, hrc', hown', hRd, fun mb s S h => (h.alloc _).grownOwn ho hgrow, fun g t cs ht h => (h.alloc _).grown hgrow (fun e => own_blk_ne ho (h.alloc _) ht e.symm), fun BB a hB h hs => ?_⟩
  refine (h.alloc hs _).trans ⟨hgrow.os, hgrow.tape, hgrow.output, hgrow.size, fun q hq => hgrow.block q (by simp; omega) ?_⟩
  intro e
  have := (ho.lt q e.symm).1
  omega

set_option maxHeartbeats 8000000 in
theorem walk_yes (base most call base' most' call' : Int) (args args' words : List Int) (A Wd A' Wd' : Option Addr) (n nc m mc n' nc' m' mc' : Nat) (w : World) (hn : n ≤ 9223372036854775807) (hn' : n' ≤ 9223372036854775807) (hm' : m' * 8 ≤ 140737488351232)
    (hA : Reads w w.heap.size 1 A n (ints args)) (hA' : Reads w w.heap.size 1 A' n' (ints args')) (hR : Reads w w.heap.size 1 Wd' m' (ints words)) (hok : callOk base most call args) (hok' : callOk base' most' call' args') :
    Calls Try.prog 6 #[.agg #[.int .i64 base, .int .i64 most, .int .i64 call, .slice A n nc, .slice Wd m mc], .agg #[.int .i64 base', .int .i64 most', .int .i64 call', .slice A' n' nc', .slice Wd' m' mc']] w fun e w' => e = .returned (.bool true) ∧ Below w.heap.size w w' := by
  have HA := Lib.hid hok
  have HB := Lib.hid hok'
  have hwl : words.length = m' := by have := hR.1; simpa [ints] using this
  have HWL := Lib.hid hwl
  obtain ⟨i0, hi, hz0, hz1, hz2⟩ := info_parts info_i64
  clear hok hok' hwl
  have hA0 : Reads ((w.alloc (.cells #[.int .i64 base, .int .i64 most, .int .i64 call, .slice A n nc, .slice Wd m mc] 26)).alloc (.cells #[.int .i64 base', .int .i64 most', .int .i64 call', .slice A' n' nc', .slice Wd' m' mc'] 26)) w.heap.size 1 A n (ints args) := (hA.alloc (Nat.le_refl _) _).alloc (by simp) _
  have hA1 : Reads ((w.alloc (.cells #[.int .i64 base, .int .i64 most, .int .i64 call, .slice A n nc, .slice Wd m mc] 26)).alloc (.cells #[.int .i64 base', .int .i64 most', .int .i64 call', .slice A' n' nc', .slice Wd' m' mc'] 26)) w.heap.size 1 A' n' (ints args') := (hA'.alloc (Nat.le_refl _) _).alloc (by simp) _
  go_enter Try.func6, Try.ntmps6
  go_wp2_with fail
  refine (right_yes base most call args A n nc w.heap.size _ (by exact hA0) HA.out).mono ?_
  rintro e w2 ⟨rfl, rfl⟩
  go_wp2_with fail
  refine (right_yes base' most' call' args' A' n' nc' w.heap.size _ (by exact hA1) HB.out).mono ?_
  rintro e w2 ⟨rfl, rfl⟩
  go_wp2_with fail
  refine (new_yes base most call args A n nc w.heap.size _ hn (by exact hA0) HA.out).mono ?_
  rintro e w1 ⟨rfl, hM, hb1⟩
  have hBa : Blk w1 w.heap.size 26 (askv base most call A n nc Wd m mc) := ((Blk.new w _ _).alloc _).below hb1 (by simp; omega)
  have hBb : Blk w1 (w.heap.size + 1) 26 (askv base' most' call' A' n' nc' Wd' m' mc') := (Blk.new' (by simp)).below hb1 (by simp)
  have hbel1 : Below w.heap.size w w1 := (by refine Below.trans ?_ (hb1.mono (by first | (simp; done) | (simp; omega))); repeat (first | with_reducible exact Below.refl _ _ | with_reducible refine Below.drew ?_ | ((with_reducible refine Below.alloc ?_ ?_ _); (rotate_left; focus (first | with_reducible exact Nat.le_refl _ | (simp; done) | (simp; omega) | (simp [World.setCell]; done) | (simp [World.setCell]; omega)))) | ((with_reducible refine Below.setCell ?_ ?_ _); (rotate_left; focus (first | with_reducible exact Nat.le_refl _ | (simp; done) | (simp; omega) | (simp [World.setCell]; done) | (simp [World.setCell]; omega))))))
  have hMx : MIs w1 (w.heap.size + 2) (startF base most call args) (fun _ => False) := by simpa using hM
  clear hM hb1 hA0 hA1
  have ca0 : w1.cell? ⟨w.heap.size, 0, none⟩ = some (.int .i64 base) := (hBa.cell 0).trans rfl
  have ca1 : w1.cell? ⟨w.heap.size, 1, none⟩ = some (.int .i64 most) := (hBa.cell 1).trans rfl
  have ca2 : w1.cell? ⟨w.heap.size, 2, none⟩ = some (.int .i64 call) := (hBa.cell 2).trans rfl
  have ca3 : w1.cell? ⟨w.heap.size, 3, none⟩ = some (.slice A n nc) := (hBa.cell 3).trans rfl
  have cb0 : w1.cell? ⟨w.heap.size + 1, 0, none⟩ = some (.int .i64 base') := (hBb.cell 0).trans rfl
  have cb1 : w1.cell? ⟨w.heap.size + 1, 1, none⟩ = some (.int .i64 most') := (hBb.cell 1).trans rfl
  have cb2 : w1.cell? ⟨w.heap.size + 1, 2, none⟩ = some (.int .i64 call') := (hBb.cell 2).trans rfl
  have cb3 : w1.cell? ⟨w.heap.size + 1, 3, none⟩ = some (.slice A' n' nc') := (hBb.cell 3).trans rfl
  have cb4 : w1.cell? ⟨w.heap.size + 1, 4, none⟩ = some (.slice Wd' m' mc') := (hBb.cell 4).trans rfl
  have hltb : w.heap.size + 1 < w1.heap.size := hBb.lt
  have hlta : w.heap.size < w1.heap.size := hBa.lt
  go_wp2_with fail
  refine (new_yes base' most' call' args' A' n' nc' w.heap.size _ hn' (by exact hA'.below hbel1) HB.out).mono ?_
  rintro e w2 ⟨rfl, hMy, hb2⟩
  replace hBa := hBa.below hb2 hBa.lt
  replace hBb := hBb.below hb2 hBb.lt
  have hbel2 : Below w.heap.size w w2 := hbel1.trans (hb2.mono (by have := hbel1.size; first | omega | (simp; omega)))
  clear ca0 ca1 ca2 ca3 cb0 cb1 cb2 cb3 cb4 hltb hlta hbel1
  have hMx2 := hMx.below hb2
  have hxlt := hMx.lt
  clear hMx hb2
  have ca0 : w2.cell? ⟨w.heap.size, 0, none⟩ = some (.int .i64 base) := (hBa.cell 0).trans rfl
  have ca1 : w2.cell? ⟨w.heap.size, 1, none⟩ = some (.int .i64 most) := (hBa.cell 1).trans rfl
  have ca2 : w2.cell? ⟨w.heap.size, 2, none⟩ = some (.int .i64 call) := (hBa.cell 2).trans rfl
  have ca3 : w2.cell? ⟨w.heap.size, 3, none⟩ = some (.slice A n nc) := (hBa.cell 3).trans rfl
  have cb0 : w2.cell? ⟨w.heap.size + 1, 0, none⟩ = some (.int .i64 base') := (hBb.cell 0).trans rfl
  have cb1 : w2.cell? ⟨w.heap.size + 1, 1, none⟩ = some (.int .i64 most') := (hBb.cell 1).trans rfl
  have cb2 : w2.cell? ⟨w.heap.size + 1, 2, none⟩ = some (.int .i64 call') := (hBb.cell 2).trans rfl
  have cb3 : w2.cell? ⟨w.heap.size + 1, 3, none⟩ = some (.slice A' n' nc') := (hBb.cell 3).trans rfl
  have cb4 : w2.cell? ⟨w.heap.size + 1, 4, none⟩ = some (.slice Wd' m' mc') := (hBb.cell 4).trans rfl
  have hltb : w.heap.size + 1 < w2.heap.size := hBb.lt
  have hlta : w.heap.size < w2.heap.size := hBa.lt
  have hmy : w.heap.size + 2 < w1.heap.size := hxlt
  obtain ⟨my, hmye⟩ : ∃ my, my = w1.heap.size := ⟨_, rfl⟩
  rw [← hmye] at hMy hmy
  rw [← hmye]
  clear hmye hxlt
  go_wp2_with fail
  refine (next_any (w.heap.size + 2) _ (fun _ => False) 0 _ (startF_sim HA.out).ok (startF_sim HA.out).look (fun g hg => hg.elim) (by exact hMx2)).mono ?_
  rintro e w3 ⟨x1, s1, hx1, rfl, hMx3, hg3⟩
  obtain ⟨cx, hcx⟩ := hMx2.blk
  have hMy3 : MIs w3 my (startF base' most' call' args') (fun _ => False) := MIs.other hMy hg3 hcx (by omega)
  have hmy3 : my < w3.heap.size := hMy3.lt
  replace hBa := hBa.grown hg3 (by intro hh; injection hh with hh; omega)
  replace hBb := hBb.grown hg3 (by intro hh; injection hh with hh; omega)
  have hbel3 : Below w.heap.size w w3 := hbel2.trans (below_of_only hg3 (by omega) (by have := hbel2.size; first | omega | (simp; omega)))
  clear ca0 ca1 ca2 ca3 cb0 cb1 cb2 cb3 cb4 hltb hlta hbel2
  have HX1 := Lib.hid hx1
  clear hx1 hMx3 hcx hMx2 hMy hg3
  have ca0 : w3.cell? ⟨w.heap.size, 0, none⟩ = some (.int .i64 base) := (hBa.cell 0).trans rfl
  have ca1 : w3.cell? ⟨w.heap.size, 1, none⟩ = some (.int .i64 most) := (hBa.cell 1).trans rfl
  have ca2 : w3.cell? ⟨w.heap.size, 2, none⟩ = some (.int .i64 call) := (hBa.cell 2).trans rfl
  have ca3 : w3.cell? ⟨w.heap.size, 3, none⟩ = some (.slice A n nc) := (hBa.cell 3).trans rfl
  have cb0 : w3.cell? ⟨w.heap.size + 1, 0, none⟩ = some (.int .i64 base') := (hBb.cell 0).trans rfl
  have cb1 : w3.cell? ⟨w.heap.size + 1, 1, none⟩ = some (.int .i64 most') := (hBb.cell 1).trans rfl
  have cb2 : w3.cell? ⟨w.heap.size + 1, 2, none⟩ = some (.int .i64 call') := (hBb.cell 2).trans rfl
  have cb3 : w3.cell? ⟨w.heap.size + 1, 3, none⟩ = some (.slice A' n' nc') := (hBb.cell 3).trans rfl
  have cb4 : w3.cell? ⟨w.heap.size + 1, 4, none⟩ = some (.slice Wd' m' mc') := (hBb.cell 4).trans rfl
  have hltb : w.heap.size + 1 < w3.heap.size := hBb.lt
  have hlta : w.heap.size < w3.heap.size := hBa.lt
  go_wp2_with fail
  refine (next_any my _ (fun _ => False) 0 _ (startF_sim HB.out).ok (startF_sim HB.out).look (fun g hg => hg.elim) (by exact hMy3.alloc _)).mono ?_
  rintro e w4 ⟨y1, t1, hy1, rfl, hMy4, hg4⟩
  obtain ⟨cy, hcy⟩ := hMy3.blk
  have hP1 : Blk w4 w3.heap.size 37 (wcells x1) := (Blk.new w3 _ _).grown hg4 (by intro hh; injection hh with hh; omega)
  replace hBa := hBa.alloc (.cells #[.int .i64 x1.kind, .int .i64 x1.cell, .int .i64 x1.value, .int .i64 x1.code] 37)
  replace hBb := hBb.alloc (.cells #[.int .i64 x1.kind, .int .i64 x1.cell, .int .i64 x1.value, .int .i64 x1.code] 37)
  replace hbel3 := hbel3.alloc hbel3.size (.cells #[.int .i64 x1.kind, .int .i64 x1.cell, .int .i64 x1.value, .int .i64 x1.code] 37)
  replace hBa := hBa.grown hg4 (by intro hh; injection hh with hh; omega)
  replace hBb := hBb.grown hg4 (by intro hh; injection hh with hh; omega)
  have hbel4 : Below w.heap.size w w4 := hbel3.trans (below_of_only hg4 (by omega) (by have := hbel3.size; first | omega | (simp; omega)))
  clear ca0 ca1 ca2 ca3 cb0 cb1 cb2 cb3 cb4 hltb hlta hbel3
  obtain ⟨p11, hp11⟩ : ∃ p, p = w3.heap.size := ⟨_, rfl⟩
  have h11 : p11 < w4.heap.size := by rw [hp11]; exact hP1.lt
  have hmy11 : my < p11 := by omega
  have hMy5 : MIs w4 my t1 (fun g => p11 < g ∧ g < w4.heap.size) := hMy4.bound.more (by rintro g ⟨h | h, h'⟩; exact h.elim; simp at h; exact ⟨by omega, h'⟩)
  rw [← hp11] at hP1
  rw [← hp11]
  have HY1 := Lib.hid hy1
  clear hy1 hMy4 hMy3 hcy hg4 hp11 hmy3
  have ca0 : w4.cell? ⟨w.heap.size, 0, none⟩ = some (.int .i64 base) := (hBa.cell 0).trans rfl
  have ca1 : w4.cell? ⟨w.heap.size, 1, none⟩ = some (.int .i64 most) := (hBa.cell 1).trans rfl
  have ca2 : w4.cell? ⟨w.heap.size, 2, none⟩ = some (.int .i64 call) := (hBa.cell 2).trans rfl
  have ca3 : w4.cell? ⟨w.heap.size, 3, none⟩ = some (.slice A n nc) := (hBa.cell 3).trans rfl
  have cb0 : w4.cell? ⟨w.heap.size + 1, 0, none⟩ = some (.int .i64 base') := (hBb.cell 0).trans rfl
  have cb1 : w4.cell? ⟨w.heap.size + 1, 1, none⟩ = some (.int .i64 most') := (hBb.cell 1).trans rfl
  have cb2 : w4.cell? ⟨w.heap.size + 1, 2, none⟩ = some (.int .i64 call') := (hBb.cell 2).trans rfl
  have cb3 : w4.cell? ⟨w.heap.size + 1, 3, none⟩ = some (.slice A' n' nc') := (hBb.cell 3).trans rfl
  have cb4 : w4.cell? ⟨w.heap.size + 1, 4, none⟩ = some (.slice Wd' m' mc') := (hBb.cell 4).trans rfl
  have hltb : w.heap.size + 1 < w4.heap.size := hBb.lt
  have hlta : w.heap.size < w4.heap.size := hBa.lt
  go_wp2_with fail
  refine (wants_any base most call args [] 0 ⟨0, 0, 0, 0⟩ A none n nc 0 0 _ (by omega) (Nat.le_refl _) HA.out (by refine Reads.more (Reads.alloc (hA.below hbel4) hbel4.size _) ?_; have := hbel4.size; simp; omega) Reads.none_).mono ?_
  rintro e w5 ⟨kd, kc, kv, ko, hp, rfl, hb5⟩
  obtain ⟨he5, -⟩ := first_step HA.out HX1.out hp
  obtain ⟨x1k, x1c, x1v, x1o⟩ := x1
  injection he5 with e1 e2 e3 e4
  subst e1 e2 e3 e4
  clear hp HX1
  have hP1' := (hP1.alloc (.cells #[.int .i64 y1.kind, .int .i64 y1.cell, .int .i64 y1.value, .int .i64 y1.code] 37)).below hb5 (by simp; omega)
  have hP2 := (Blk.new w4 37 #[.int .i64 y1.kind, .int .i64 y1.cell, .int .i64 y1.value, .int .i64 y1.code]).below hb5 (by simp)
  replace hBa := hBa.alloc (.cells #[.int .i64 y1.kind, .int .i64 y1.cell, .int .i64 y1.value, .int .i64 y1.code] 37)
  replace hBb := hBb.alloc (.cells #[.int .i64 y1.kind, .int .i64 y1.cell, .int .i64 y1.value, .int .i64 y1.code] 37)
  replace hbel4 := hbel4.alloc hbel4.size (.cells #[.int .i64 y1.kind, .int .i64 y1.cell, .int .i64 y1.value, .int .i64 y1.code] 37)
  have hMy6 := (hMy5.alloc (.cells #[.int .i64 y1.kind, .int .i64 y1.cell, .int .i64 y1.value, .int .i64 y1.code] 37)).below hb5
  obtain ⟨p12, hp12⟩ : ∃ p, p = w4.heap.size := ⟨_, rfl⟩
  have h12 : p12 < w5.heap.size := by rw [hp12]; exact hP2.lt
  have h1112 : p11 < p12 := by omega
  replace hBa := hBa.below hb5 hBa.lt
  replace hBb := hBb.below hb5 hBb.lt
  have hbel5 : Below w.heap.size w w5 := hbel4.trans (hb5.mono (by have := hbel4.size; first | omega | (simp; omega)))
  clear ca0 ca1 ca2 ca3 cb0 cb1 cb2 cb3 cb4 hltb hlta hbel4
  rw [← hp12] at hP2 hMy6
  rw [← hp12]
  clear hb5 hMy5 hP1 hp12 h11
  have ca0 : w5.cell? ⟨w.heap.size, 0, none⟩ = some (.int .i64 base) := (hBa.cell 0).trans rfl
  have ca1 : w5.cell? ⟨w.heap.size, 1, none⟩ = some (.int .i64 most) := (hBa.cell 1).trans rfl
  have ca2 : w5.cell? ⟨w.heap.size, 2, none⟩ = some (.int .i64 call) := (hBa.cell 2).trans rfl
  have ca3 : w5.cell? ⟨w.heap.size, 3, none⟩ = some (.slice A n nc) := (hBa.cell 3).trans rfl
  have cb0 : w5.cell? ⟨w.heap.size + 1, 0, none⟩ = some (.int .i64 base') := (hBb.cell 0).trans rfl
  have cb1 : w5.cell? ⟨w.heap.size + 1, 1, none⟩ = some (.int .i64 most') := (hBb.cell 1).trans rfl
  have cb2 : w5.cell? ⟨w.heap.size + 1, 2, none⟩ = some (.int .i64 call') := (hBb.cell 2).trans rfl
  have cb3 : w5.cell? ⟨w.heap.size + 1, 3, none⟩ = some (.slice A' n' nc') := (hBb.cell 3).trans rfl
  have cb4 : w5.cell? ⟨w.heap.size + 1, 4, none⟩ = some (.slice Wd' m' mc') := (hBb.cell 4).trans rfl
  have hltb : w.heap.size + 1 < w5.heap.size := hBb.lt
  have hlta : w.heap.size < w5.heap.size := hBa.lt
  go_wp2_with fail
  refine (wants_any base' most' call' args' [] 0 ⟨0, 0, 0, 0⟩ A' none n' nc' 0 0 _ (by omega) (Nat.le_refl _) HB.out (by refine Reads.more (Reads.alloc (hA'.below hbel5) hbel5.size _) ?_; have := hbel5.size; simp; omega) Reads.none_).mono ?_
  rintro e w6 ⟨ld, lc, lv, lo, hp, rfl, hb6⟩
  obtain ⟨he6, hsim6⟩ := first_step HB.out HY1.out hp
  obtain ⟨y1k, y1c, y1v, y1o⟩ := y1
  injection he6 with e1 e2 e3 e4
  subst e1 e2 e3 e4
  have HS6 := Lib.hid hsim6
  clear hp HY1 hsim6
  have hP3 := (Blk.new w5 37 #[.int .i64 x1k, .int .i64 x1c, .int .i64 x1v, .int .i64 x1o]).below hb6 (by simp)
  replace hP1' := (hP1'.alloc (.cells #[.int .i64 x1k, .int .i64 x1c, .int .i64 x1v, .int .i64 x1o] 37)).below hb6 (by simp; omega)
  replace hP2 := (hP2.alloc (.cells #[.int .i64 x1k, .int .i64 x1c, .int .i64 x1v, .int .i64 x1o] 37)).below hb6 (by simp; omega)
  replace hBa := hBa.alloc (.cells #[.int .i64 x1k, .int .i64 x1c, .int .i64 x1v, .int .i64 x1o] 37)
  replace hBb := hBb.alloc (.cells #[.int .i64 x1k, .int .i64 x1c, .int .i64 x1v, .int .i64 x1o] 37)
  replace hbel5 := hbel5.alloc hbel5.size (.cells #[.int .i64 x1k, .int .i64 x1c, .int .i64 x1v, .int .i64 x1o] 37)
  have hMy7 := (hMy6.alloc (.cells #[.int .i64 x1k, .int .i64 x1c, .int .i64 x1v, .int .i64 x1o] 37)).below hb6
  obtain ⟨p13, hp13⟩ : ∃ p, p = w5.heap.size := ⟨_, rfl⟩
  have h13 : p13 < w6.heap.size := by rw [hp13]; exact hP3.lt
  have h1213 : p12 < p13 := by omega
  replace hBa := hBa.below hb6 hBa.lt
  replace hBb := hBb.below hb6 hBb.lt
  have hbel6 : Below w.heap.size w w6 := hbel5.trans (hb6.mono (by have := hbel5.size; first | omega | (simp; omega)))
  clear ca0 ca1 ca2 ca3 cb0 cb1 cb2 cb3 cb4 hltb hlta hbel5
  rw [← hp13] at hP3
  rw [← hp13]
  clear hb6 hMy6 hp13 h12
  have hP4 := Blk.new w6 37 #[.int .i64 y1k, .int .i64 y1c, .int .i64 y1v, .int .i64 y1o]
  obtain ⟨p14, hp14⟩ : ∃ p, p = w6.heap.size := ⟨_, rfl⟩
  have h1314 : p13 < p14 := by omega
  replace hP1' := hP1'.alloc (.cells #[.int .i64 y1k, .int .i64 y1c, .int .i64 y1v, .int .i64 y1o] 37)
  replace hP2 := hP2.alloc (.cells #[.int .i64 y1k, .int .i64 y1c, .int .i64 y1v, .int .i64 y1o] 37)
  replace hP3 := hP3.alloc (.cells #[.int .i64 y1k, .int .i64 y1c, .int .i64 y1v, .int .i64 y1o] 37)
  replace hBb := hBb.alloc (.cells #[.int .i64 y1k, .int .i64 y1c, .int .i64 y1v, .int .i64 y1o] 37)
  replace hbel6 := hbel6.alloc hbel6.size (.cells #[.int .i64 y1k, .int .i64 y1c, .int .i64 y1v, .int .i64 y1o] 37)
  have hMy8 : MIs (w6.alloc (.cells #[.int .i64 y1k, .int .i64 y1c, .int .i64 y1v, .int .i64 y1o] 37)) my t1 (fun g => g ≠ p12 ∧ g ≠ p14) := (hMy7.alloc _).more (by rintro g ⟨h, h'⟩; omega)
  have hn14 : w.heap.size + 1 < p14 := by omega
  rw [← hp14] at hP4
  clear hMy7 hBa h13
  go_wp2_with fail
  rw [← hp14]
  clear hp14
  go_loopg [15, 16, 17] m' (fun gk rv wv i wr => Rel base' most' call' args' w my p11 p12 p13 p14 (p14 + 1) (askv base' most' call' A' n' nc' Wd' m' mc') ⟨x1k, x1c, x1v, x1o⟩ m' gk rv wv i wr)
  case atStart =>
    exact ⟨0, [], 0, ⟨y1k, y1c, y1v, y1o⟩, t1, rfl, rfl, rfl, by omega, Nat.zero_le _, by omega, by omega, by simp, HS6.out, hMy8, World.ownsRow_nil _ _ _ _, hBb, hP1', hP3, hP2, hP4, hbel6⟩
  case round =>
    obtain ⟨k, read, writes, last, s, _, rfl, rfl, hgk, hk, hw0, hwk, hrl, hsim, hMr, hown, hBr, hQ1, hQ3, hQ2, hQ4, hbel⟩ := hrel
    obtain ⟨R, rc, rfl, hrc, hRd⟩ := own_shape hown
    have HS := Lib.hid hsim
    have HGK := Lib.hid hgk
    have hmb : m' ≤ 17592186044000 := by omega
    clear hsim hgk hP1' hP2 hP3 hP4 hMy8 hBb hbel6 HS6
    have cb0 : wr.cell? ⟨w.heap.size + 1, 0, none⟩ = some (.int .i64 base') := (hBr.cell 0).trans rfl
    have cb1 : wr.cell? ⟨w.heap.size + 1, 1, none⟩ = some (.int .i64 most') := (hBr.cell 1).trans rfl
    have cb2 : wr.cell? ⟨w.heap.size + 1, 2, none⟩ = some (.int .i64 call') := (hBr.cell 2).trans rfl
    have cb3 : wr.cell? ⟨w.heap.size + 1, 3, none⟩ = some (.slice A' n' nc') := (hBr.cell 3).trans rfl
    have q10 : wr.cell? ⟨p11, 0, none⟩ = some (.int .i64 x1k) := (hQ1.cell 0).trans rfl
    have q11 : wr.cell? ⟨p11, 1, none⟩ = some (.int .i64 x1c) := (hQ1.cell 1).trans rfl
    have q12 : wr.cell? ⟨p11, 2, none⟩ = some (.int .i64 x1v) := (hQ1.cell 2).trans rfl
    have q13 : wr.cell? ⟨p11, 3, none⟩ = some (.int .i64 x1o) := (hQ1.cell 3).trans rfl
    have q30 : wr.cell? ⟨p13, 0, none⟩ = some (.int .i64 x1k) := (hQ3.cell 0).trans rfl
    have q31 : wr.cell? ⟨p13, 1, none⟩ = some (.int .i64 x1c) := (hQ3.cell 1).trans rfl
    have q32 : wr.cell? ⟨p13, 2, none⟩ = some (.int .i64 x1v) := (hQ3.cell 2).trans rfl
    have q33 : wr.cell? ⟨p13, 3, none⟩ = some (.int .i64 x1o) := (hQ3.cell 3).trans rfl
    have q20 : wr.cell? ⟨p12, 0, none⟩ = some (.int .i64 last.kind) := (hQ2.cell 0).trans rfl
    have q21 : wr.cell? ⟨p12, 1, none⟩ = some (.int .i64 last.cell) := (hQ2.cell 1).trans rfl
    have q22 : wr.cell? ⟨p12, 2, none⟩ = some (.int .i64 last.value) := (hQ2.cell 2).trans rfl
    have q23 : wr.cell? ⟨p12, 3, none⟩ = some (.int .i64 last.code) := (hQ2.cell 3).trans rfl
    have q40 : wr.cell? ⟨p14, 0, none⟩ = some (.int .i64 last.kind) := (hQ4.cell 0).trans rfl
    have q41 : wr.cell? ⟨p14, 1, none⟩ = some (.int .i64 last.cell) := (hQ4.cell 1).trans rfl
    have q42 : wr.cell? ⟨p14, 2, none⟩ = some (.int .i64 last.value) := (hQ4.cell 2).trans rfl
    have q43 : wr.cell? ⟨p14, 3, none⟩ = some (.int .i64 last.code) := (hQ4.cell 3).trans rfl
    have l11 : p11 < wr.heap.size := hQ1.lt
    have l12 : p12 < wr.heap.size := hQ2.lt
    have l13 : p13 < wr.heap.size := hQ3.lt
    have l14 : p14 < wr.heap.size := hQ4.lt
    have lb : w.heap.size + 1 < wr.heap.size := hBr.lt
    have f20 : wr.frozen? ⟨p12, 0, none⟩ = false := hQ2.frozen 0
    have f21 : wr.frozen? ⟨p12, 1, none⟩ = false := hQ2.frozen 1
    have f22 : wr.frozen? ⟨p12, 2, none⟩ = false := hQ2.frozen 2
    have f23 : wr.frozen? ⟨p12, 3, none⟩ = false := hQ2.frozen 3
    have f40 : wr.frozen? ⟨p14, 0, none⟩ = false := hQ4.frozen 0
    have f41 : wr.frozen? ⟨p14, 1, none⟩ = false := hQ4.frozen 1
    have f42 : wr.frozen? ⟨p14, 2, none⟩ = false := hQ4.frozen 2
    have f43 : wr.frozen? ⟨p14, 3, none⟩ = false := hQ4.frozen 3
    have cb4 : wr.cell? ⟨w.heap.size + 1, 4, none⟩ = some (.slice Wd' m' mc') := (hBr.cell 4).trans rfl
    by_cases hkm : k < m'
    · obtain ⟨wb, wo, rfl, hwb, hwc⟩ := hR.flat (by omega)
      obtain ⟨V, hV⟩ : ∃ V, V = words[k]'(by rw [HWL.out]; exact hkm) := ⟨_, rfl⟩
      have cw : wr.cell? ⟨wb, wo + k, none⟩ = some (.int .i64 V) := (hbel.cell (p := ⟨wb, wo + k, none⟩) hwb).trans (by rw [hV]; exact hwc k _ (ints_at _ _ _))
      clear hwc hV
      by_cases h3 : last.kind = 3
      · have e3 : (last.kind == 3) = true := by simp [h3]
        have e2 : (last.kind == 2) = false := by simp [h3]
        have HRN : Hid (readsNext last read V = read) := by show readsNext last read _ = _; simp [readsNext, h3]
        have HWN : Hid (writesNext last writes = writes + 1) := by show writesNext last writes = _; simp [writesNext, h3]
        clear h3
        have hMw := hMr
        have hBw := hBr
        have hQ1w := hQ1
        have hQ2w := hQ2
        have hQ3w := hQ3
        have hQ4w := hQ4
        have hownw := hown
        have hrcw := hrc
        have hbelw := hbel
        have cww := cw
        go_wp2_with fail
        refine (next_any my s (fun g => (g ≠ p12 ∧ g ≠ p14) ∧ g < wr.heap.size) V _ HS.out.ok HS.out.look (fun g hg => hg.2) (by exact hMw.bound)).mono ?_
        rintro e w3 ⟨⟨xk, xc, xv, xo⟩, s', hx, rfl, hM3, hg3⟩
        have hst := step_sim HB.out HS.out V
        rw [hx, HRN.out, HWN.out] at hst
        have HST := Lib.hid hst
        have hlt14 := hQ4w.lt
        have hB3 := hBw.grown hg3 (by intro hh; injection hh with hh; omega)
        have hQ13 := hQ1w.grown hg3 (by intro hh; injection hh with hh; omega)
        have hQ23 := hQ2w.grown hg3 (by intro hh; injection hh with hh; omega)
        have hQ33 := hQ3w.grown hg3 (by intro hh; injection hh with hh; omega)
        have hQ43 := hQ4w.grown hg3 (by intro hh; injection hh with hh; omega)
        have hM4 : MIs w3 my s' (fun g => g ≠ p12 ∧ g ≠ p14) := hM3.more (by rintro g (h | h); exact h.1; omega)
        have hob : Value.ownBlock _ ≠ some my := (by obtain ⟨cs, hcs⟩ := hMw.blk; exact own_blk_ne hownw hcs (by decide))
        have hown3 := hownw.kept hg3 (.inr hob)
        have hbel3 : Below w.heap.size w w3 := hbelw.trans (below_of_only hg3 (by omega) hbelw.size)
        clear hx hst hM3 hob hg3 hlt14
        try clear cb4
        clear cb0 cb1 cb2 cb3 q10 q11 q12 q13 q30 q31 q32 q33 q20 q21 q22 q23 q40 q41 q42 q43 l11 l12 l13 l14 lb f20 f21 f22 f23 f40 f41 f42 f43
        have cb0 : w3.cell? ⟨w.heap.size + 1, 0, none⟩ = some (.int .i64 base') := (hB3.cell 0).trans rfl
        have cb1 : w3.cell? ⟨w.heap.size + 1, 1, none⟩ = some (.int .i64 most') := (hB3.cell 1).trans rfl
        have cb2 : w3.cell? ⟨w.heap.size + 1, 2, none⟩ = some (.int .i64 call') := (hB3.cell 2).trans rfl
        have cb3 : w3.cell? ⟨w.heap.size + 1, 3, none⟩ = some (.slice A' n' nc') := (hB3.cell 3).trans rfl
        have q10 : w3.cell? ⟨p11, 0, none⟩ = some (.int .i64 x1k) := (hQ13.cell 0).trans rfl
        have q11 : w3.cell? ⟨p11, 1, none⟩ = some (.int .i64 x1c) := (hQ13.cell 1).trans rfl
        have q12 : w3.cell? ⟨p11, 2, none⟩ = some (.int .i64 x1v) := (hQ13.cell 2).trans rfl
        have q13 : w3.cell? ⟨p11, 3, none⟩ = some (.int .i64 x1o) := (hQ13.cell 3).trans rfl
        have q30 : w3.cell? ⟨p13, 0, none⟩ = some (.int .i64 x1k) := (hQ33.cell 0).trans rfl
        have q31 : w3.cell? ⟨p13, 1, none⟩ = some (.int .i64 x1c) := (hQ33.cell 1).trans rfl
        have q32 : w3.cell? ⟨p13, 2, none⟩ = some (.int .i64 x1v) := (hQ33.cell 2).trans rfl
        have q33 : w3.cell? ⟨p13, 3, none⟩ = some (.int .i64 x1o) := (hQ33.cell 3).trans rfl
        have q20 : w3.cell? ⟨p12, 0, none⟩ = some (.int .i64 last.kind) := (hQ23.cell 0).trans rfl
        have q21 : w3.cell? ⟨p12, 1, none⟩ = some (.int .i64 last.cell) := (hQ23.cell 1).trans rfl
        have q22 : w3.cell? ⟨p12, 2, none⟩ = some (.int .i64 last.value) := (hQ23.cell 2).trans rfl
        have q23 : w3.cell? ⟨p12, 3, none⟩ = some (.int .i64 last.code) := (hQ23.cell 3).trans rfl
        have q40 : w3.cell? ⟨p14, 0, none⟩ = some (.int .i64 last.kind) := (hQ43.cell 0).trans rfl
        have q41 : w3.cell? ⟨p14, 1, none⟩ = some (.int .i64 last.cell) := (hQ43.cell 1).trans rfl
        have q42 : w3.cell? ⟨p14, 2, none⟩ = some (.int .i64 last.value) := (hQ43.cell 2).trans rfl
        have q43 : w3.cell? ⟨p14, 3, none⟩ = some (.int .i64 last.code) := (hQ43.cell 3).trans rfl
        have l11 : p11 < w3.heap.size := hQ13.lt
        have l12 : p12 < w3.heap.size := hQ23.lt
        have l13 : p13 < w3.heap.size := hQ33.lt
        have l14 : p14 < w3.heap.size := hQ43.lt
        have lb : w.heap.size + 1 < w3.heap.size := hB3.lt
        have f20 : w3.frozen? ⟨p12, 0, none⟩ = false := hQ23.frozen 0
        have f21 : w3.frozen? ⟨p12, 1, none⟩ = false := hQ23.frozen 1
        have f22 : w3.frozen? ⟨p12, 2, none⟩ = false := hQ23.frozen 2
        have f23 : w3.frozen? ⟨p12, 3, none⟩ = false := hQ23.frozen 3
        have f40 : w3.frozen? ⟨p14, 0, none⟩ = false := hQ43.frozen 0
        have f41 : w3.frozen? ⟨p14, 1, none⟩ = false := hQ43.frozen 1
        have f42 : w3.frozen? ⟨p14, 2, none⟩ = false := hQ43.frozen 2
        have f43 : w3.frozen? ⟨p14, 3, none⟩ = false := hQ43.frozen 3
        have hB4 := blk_far4 hB3 (p := p12) (by omega) ⟨xk, xc, xv, xo⟩
        have hQ14 := blk_far4 hQ13 (p := p12) (by omega) ⟨xk, xc, xv, xo⟩
        have hQ34 := blk_far4 hQ33 (p := p12) (by omega) ⟨xk, xc, xv, xo⟩
        have hQ44 := blk_far4 hQ43 (p := p12) (by omega) ⟨xk, xc, xv, xo⟩
        have hQ24 := blk_at4 hQ23 ⟨xk, xc, xv, xo⟩
        have hM5 := mis_put4 hM4 (p := p12) (by omega) (by simp) ⟨xk, xc, xv, xo⟩
        have hown4 := own_put4 hown3 (p := p12) (by omega) ⟨xk, xc, xv, xo⟩
        have hbel4 := below_put4 hbel3 (p := p12) (by omega) ⟨xk, xc, xv, xo⟩
        have hRd4 := Reads.of_own hown4
        clear hown3 hM4
        go_wp2_with fail
        refine (wants_any base' most' call' args' (read) (writes + 1) last A' (R) n' nc' (read.length) (rc) _ (by first | omega | (simp; omega)) hrcw HB.out (by exact Reads.more (hA'.below hbel4) hbel4.size) (by exact hRd4)).mono ?_
        rintro e w5 ⟨kd, kc, kv, ko, hp, rfl, hb5⟩
        have he := HST.out.eq.trans hp
        injection he with e1 e2 e3 e4
        subst e1 e2 e3 e4
        replace hbel4 := hbel4.trans (hb5.mono hbel4.size)
        replace hB4 := hB4.below hb5 hB4.lt
        replace hQ14 := hQ14.below hb5 hQ14.lt
        replace hQ24 := hQ24.below hb5 hQ24.lt
        replace hQ34 := hQ34.below hb5 hQ34.lt
        replace hQ44 := hQ44.below hb5 hQ44.lt
        have hM6 := hM5.below hb5
        have hown5 := hown4.kept (only_of_below hb5 none) (by cases Value.ownBlock _ <;> simp)
        clear hp hb5 hM5 hown4 hRd4
        try clear cb4
        clear cb0 cb1 cb2 cb3 q10 q11 q12 q13 q30 q31 q32 q33 q20 q21 q22 q23 q40 q41 q42 q43 l11 l12 l13 l14 lb f20 f21 f22 f23 f40 f41 f42 f43
        have l14 : p14 < w5.heap.size := hQ44.lt
        have f40 : w5.frozen? ⟨p14, 0, none⟩ = false := hQ44.frozen 0
        have f41 : w5.frozen? ⟨p14, 1, none⟩ = false := hQ44.frozen 1
        have f42 : w5.frozen? ⟨p14, 2, none⟩ = false := hQ44.frozen 2
        have f43 : w5.frozen? ⟨p14, 3, none⟩ = false := hQ44.frozen 3
        have q40 : w5.cell? ⟨p14, 0, none⟩ = some (.int .i64 last.kind) := (hQ44.cell 0).trans rfl
        have q41 : w5.cell? ⟨p14, 1, none⟩ = some (.int .i64 last.cell) := (hQ44.cell 1).trans rfl
        have q42 : w5.cell? ⟨p14, 2, none⟩ = some (.int .i64 last.value) := (hQ44.cell 2).trans rfl
        have q43 : w5.cell? ⟨p14, 3, none⟩ = some (.int .i64 last.code) := (hQ44.cell 3).trans rfl
        go_wp2
        go_roundg (m' - (k + 1))
        case measure => have := HGK.out; omega
        case rel =>
          refine ⟨k + 1, read, writes + 1, ⟨xk, xc, xv, xo⟩, s', rfl, rfl, by go_num, rfl, by omega, by omega, by omega, ?_, HST.out.sim, mis_put4 hM6 (p := p14) (by omega) (by simp) ⟨xk, xc, xv, xo⟩, ?_, blk_far4 hB4 (p := p14) (by omega) ⟨xk, xc, xv, xo⟩, blk_far4 hQ14 (p := p14) (by omega) ⟨xk, xc, xv, xo⟩, blk_far4 hQ34 (p := p14) (by omega) ⟨xk, xc, xv, xo⟩, blk_far4 hQ24 (p := p14) (by omega) ⟨xk, xc, xv, xo⟩, blk_at4 hQ44 ⟨xk, xc, xv, xo⟩, below_put4 hbel4 (p := p14) (by omega) ⟨xk, xc, xv, xo⟩⟩
          · first | omega | (simp; omega)
          · rw [show (read).length = read.length from rfl]
            exact own_put4 hown5 (p := p14) (by omega) ⟨xk, xc, xv, xo⟩
      · have e3 : (last.kind == 3) = false := by simp [h3]
        by_cases h2 : last.kind = 2
        · have e2 : (last.kind == 2) = true := by simp [h2]
          have HRN : Hid (readsNext last read V = read ++ [V]) := by show readsNext last read _ = _; simp [readsNext, h2]
          have HWN : Hid (writesNext last writes = writes) := by show writesNext last writes = _; simp [writesNext, h3]
          have hc2 : ∀ u ∈ ([.int .i64 V] : List Value), u.oneCell' = true := (by intro u hu; simp at hu; subst hu; rfl)
          have hc3 : read.length + 1 ≤ maxLen := (by unfold maxLen; omega)
          have hc4 : (read.length + 1) * 8 ≤ 140737488355328 := (by omega)
          have hc5 : p14 + 1 ≤ (wr.alloc (.cells #[.int .i64 V] 2)).heap.size := (by simp; omega)
          clear h3 h2
          go_wp2_with (at_builtin; go_must (refine wpList_append_own _ rfl _ _ 24 rfl (p14 + 1) 2 i0 (.int .i64 0) 1 8 Try.underlying24 hi hz0 hz1 hz2 rfl (by decide) _ _ _ rfl (hown.alloc _) ⟨wr.heap.size, 0, none⟩ 1 1 [.int .i64 V] rfl rfl (cell_one_new _ _ _) hc2 hc3 hc4 hc5 ?_; intro v' w1 hown' hgrow _; obtain ⟨R', rc', hv', hrcw, hownw, hRdw, hMA, hBA, hbA⟩ := ap_app hown hown' hgrow; rw [hv']; have hMw := hMA _ _ _ hMr; have hBw := hBA _ _ _ (by decide) hBr; have hQ1w := hBA _ _ _ (by decide) hQ1; have hQ2w := hBA _ _ _ (by decide) hQ2; have hQ3w := hBA _ _ _ (by decide) hQ3; have hQ4w := hBA _ _ _ (by decide) hQ4; have hbelw := hbA _ _ (by omega) hbel hbel.size; have cww : w1.cell? ⟨wb, wo + k, none⟩ = some (.int .i64 V) := (hbelw.cell (p := ⟨wb, wo + k, none⟩) hwb).trans ((hbel.cell (p := ⟨wb, wo + k, none⟩) hwb).symm.trans cw); have c4w : w1.cell? ⟨w.heap.size + 1, 4, none⟩ = some (.slice (some ⟨wb, wo, none⟩) m' mc') := (hBw.cell 4).trans rfl; have hltw := hBw.lt; clear hv' hown' hgrow hMA hBA hbA))
          have hrcw : read.length + 1 ≤ rc' := by assumption
          have hownw : w1.ownsRow (p14 + 1) 2 1 (.slice R' (read.length + 1) rc') (read.length + 1) (ints (read ++ [V])) := by assumption
          refine (next_any my s (fun g => (g ≠ p12 ∧ g ≠ p14) ∧ g < w1.heap.size) V _ HS.out.ok HS.out.look (fun g hg => hg.2) (by exact hMw.bound)).mono ?_
          rintro e w3 ⟨⟨xk, xc, xv, xo⟩, s', hx, rfl, hM3, hg3⟩
          have hst := step_sim HB.out HS.out V
          rw [hx, HRN.out, HWN.out] at hst
          have HST := Lib.hid hst
          have hlt14 := hQ4w.lt
          have hB3 := hBw.grown hg3 (by intro hh; injection hh with hh; omega)
          have hQ13 := hQ1w.grown hg3 (by intro hh; injection hh with hh; omega)
          have hQ23 := hQ2w.grown hg3 (by intro hh; injection hh with hh; omega)
          have hQ33 := hQ3w.grown hg3 (by intro hh; injection hh with hh; omega)
          have hQ43 := hQ4w.grown hg3 (by intro hh; injection hh with hh; omega)
          have hM4 : MIs w3 my s' (fun g => g ≠ p12 ∧ g ≠ p14) := hM3.more (by rintro g (h | h); exact h.1; omega)
          have hob : Value.ownBlock _ ≠ some my := (by obtain ⟨cs, hcs⟩ := hMw.blk; exact own_blk_ne hownw hcs (by decide))
          have hown3 := hownw.kept hg3 (.inr hob)
          have hbel3 : Below w.heap.size w w3 := hbelw.trans (below_of_only hg3 (by omega) hbelw.size)
          clear hx hst hM3 hob hg3 hlt14
          try clear cb4
          clear cb0 cb1 cb2 cb3 q10 q11 q12 q13 q30 q31 q32 q33 q20 q21 q22 q23 q40 q41 q42 q43 l11 l12 l13 l14 lb f20 f21 f22 f23 f40 f41 f42 f43
          have cb0 : w3.cell? ⟨w.heap.size + 1, 0, none⟩ = some (.int .i64 base') := (hB3.cell 0).trans rfl
          have cb1 : w3.cell? ⟨w.heap.size + 1, 1, none⟩ = some (.int .i64 most') := (hB3.cell 1).trans rfl
          have cb2 : w3.cell? ⟨w.heap.size + 1, 2, none⟩ = some (.int .i64 call') := (hB3.cell 2).trans rfl
          have cb3 : w3.cell? ⟨w.heap.size + 1, 3, none⟩ = some (.slice A' n' nc') := (hB3.cell 3).trans rfl
          have q10 : w3.cell? ⟨p11, 0, none⟩ = some (.int .i64 x1k) := (hQ13.cell 0).trans rfl
          have q11 : w3.cell? ⟨p11, 1, none⟩ = some (.int .i64 x1c) := (hQ13.cell 1).trans rfl
          have q12 : w3.cell? ⟨p11, 2, none⟩ = some (.int .i64 x1v) := (hQ13.cell 2).trans rfl
          have q13 : w3.cell? ⟨p11, 3, none⟩ = some (.int .i64 x1o) := (hQ13.cell 3).trans rfl
          have q30 : w3.cell? ⟨p13, 0, none⟩ = some (.int .i64 x1k) := (hQ33.cell 0).trans rfl
          have q31 : w3.cell? ⟨p13, 1, none⟩ = some (.int .i64 x1c) := (hQ33.cell 1).trans rfl
          have q32 : w3.cell? ⟨p13, 2, none⟩ = some (.int .i64 x1v) := (hQ33.cell 2).trans rfl
          have q33 : w3.cell? ⟨p13, 3, none⟩ = some (.int .i64 x1o) := (hQ33.cell 3).trans rfl
          have q20 : w3.cell? ⟨p12, 0, none⟩ = some (.int .i64 last.kind) := (hQ23.cell 0).trans rfl
          have q21 : w3.cell? ⟨p12, 1, none⟩ = some (.int .i64 last.cell) := (hQ23.cell 1).trans rfl
          have q22 : w3.cell? ⟨p12, 2, none⟩ = some (.int .i64 last.value) := (hQ23.cell 2).trans rfl
          have q23 : w3.cell? ⟨p12, 3, none⟩ = some (.int .i64 last.code) := (hQ23.cell 3).trans rfl
          have q40 : w3.cell? ⟨p14, 0, none⟩ = some (.int .i64 last.kind) := (hQ43.cell 0).trans rfl
          have q41 : w3.cell? ⟨p14, 1, none⟩ = some (.int .i64 last.cell) := (hQ43.cell 1).trans rfl
          have q42 : w3.cell? ⟨p14, 2, none⟩ = some (.int .i64 last.value) := (hQ43.cell 2).trans rfl
          have q43 : w3.cell? ⟨p14, 3, none⟩ = some (.int .i64 last.code) := (hQ43.cell 3).trans rfl
          have l11 : p11 < w3.heap.size := hQ13.lt
          have l12 : p12 < w3.heap.size := hQ23.lt
          have l13 : p13 < w3.heap.size := hQ33.lt
          have l14 : p14 < w3.heap.size := hQ43.lt
          have lb : w.heap.size + 1 < w3.heap.size := hB3.lt
          have f20 : w3.frozen? ⟨p12, 0, none⟩ = false := hQ23.frozen 0
          have f21 : w3.frozen? ⟨p12, 1, none⟩ = false := hQ23.frozen 1
          have f22 : w3.frozen? ⟨p12, 2, none⟩ = false := hQ23.frozen 2
          have f23 : w3.frozen? ⟨p12, 3, none⟩ = false := hQ23.frozen 3
          have f40 : w3.frozen? ⟨p14, 0, none⟩ = false := hQ43.frozen 0
          have f41 : w3.frozen? ⟨p14, 1, none⟩ = false := hQ43.frozen 1
          have f42 : w3.frozen? ⟨p14, 2, none⟩ = false := hQ43.frozen 2
          have f43 : w3.frozen? ⟨p14, 3, none⟩ = false := hQ43.frozen 3
          have hB4 := blk_far4 hB3 (p := p12) (by omega) ⟨xk, xc, xv, xo⟩
          have hQ14 := blk_far4 hQ13 (p := p12) (by omega) ⟨xk, xc, xv, xo⟩
          have hQ34 := blk_far4 hQ33 (p := p12) (by omega) ⟨xk, xc, xv, xo⟩
          have hQ44 := blk_far4 hQ43 (p := p12) (by omega) ⟨xk, xc, xv, xo⟩
          have hQ24 := blk_at4 hQ23 ⟨xk, xc, xv, xo⟩
          have hM5 := mis_put4 hM4 (p := p12) (by omega) (by simp) ⟨xk, xc, xv, xo⟩
          have hown4 := own_put4 hown3 (p := p12) (by omega) ⟨xk, xc, xv, xo⟩
          have hbel4 := below_put4 hbel3 (p := p12) (by omega) ⟨xk, xc, xv, xo⟩
          have hRd4 := Reads.of_own hown4
          clear hown3 hM4
          go_wp2_with fail
          refine (wants_any base' most' call' args' (read ++ [V]) (writes) last A' (R') n' nc' (read.length + 1) (rc') _ (by first | omega | (simp; omega)) hrcw HB.out (by exact Reads.more (hA'.below hbel4) hbel4.size) (by exact hRd4)).mono ?_
          rintro e w5 ⟨kd, kc, kv, ko, hp, rfl, hb5⟩
          have he := HST.out.eq.trans hp
          injection he with e1 e2 e3 e4
          subst e1 e2 e3 e4
          replace hbel4 := hbel4.trans (hb5.mono hbel4.size)
          replace hB4 := hB4.below hb5 hB4.lt
          replace hQ14 := hQ14.below hb5 hQ14.lt
          replace hQ24 := hQ24.below hb5 hQ24.lt
          replace hQ34 := hQ34.below hb5 hQ34.lt
          replace hQ44 := hQ44.below hb5 hQ44.lt
          have hM6 := hM5.below hb5
          have hown5 := hown4.kept (only_of_below hb5 none) (by cases Value.ownBlock _ <;> simp)
          clear hp hb5 hM5 hown4 hRd4
          try clear cb4
          clear cb0 cb1 cb2 cb3 q10 q11 q12 q13 q30 q31 q32 q33 q20 q21 q22 q23 q40 q41 q42 q43 l11 l12 l13 l14 lb f20 f21 f22 f23 f40 f41 f42 f43
          have l14 : p14 < w5.heap.size := hQ44.lt
          have f40 : w5.frozen? ⟨p14, 0, none⟩ = false := hQ44.frozen 0
          have f41 : w5.frozen? ⟨p14, 1, none⟩ = false := hQ44.frozen 1
          have f42 : w5.frozen? ⟨p14, 2, none⟩ = false := hQ44.frozen 2
          have f43 : w5.frozen? ⟨p14, 3, none⟩ = false := hQ44.frozen 3
          have q40 : w5.cell? ⟨p14, 0, none⟩ = some (.int .i64 last.kind) := (hQ44.cell 0).trans rfl
          have q41 : w5.cell? ⟨p14, 1, none⟩ = some (.int .i64 last.cell) := (hQ44.cell 1).trans rfl
          have q42 : w5.cell? ⟨p14, 2, none⟩ = some (.int .i64 last.value) := (hQ44.cell 2).trans rfl
          have q43 : w5.cell? ⟨p14, 3, none⟩ = some (.int .i64 last.code) := (hQ44.cell 3).trans rfl
          go_wp2
          go_roundg (m' - (k + 1))
          case measure => have := HGK.out; omega
          case rel =>
            refine ⟨k + 1, read ++ [V], writes, ⟨xk, xc, xv, xo⟩, s', rfl, rfl, by go_num, rfl, by omega, by omega, by omega, ?_, HST.out.sim, mis_put4 hM6 (p := p14) (by omega) (by simp) ⟨xk, xc, xv, xo⟩, ?_, blk_far4 hB4 (p := p14) (by omega) ⟨xk, xc, xv, xo⟩, blk_far4 hQ14 (p := p14) (by omega) ⟨xk, xc, xv, xo⟩, blk_far4 hQ34 (p := p14) (by omega) ⟨xk, xc, xv, xo⟩, blk_far4 hQ24 (p := p14) (by omega) ⟨xk, xc, xv, xo⟩, blk_at4 hQ44 ⟨xk, xc, xv, xo⟩, below_put4 hbel4 (p := p14) (by omega) ⟨xk, xc, xv, xo⟩⟩
            · first | omega | (simp; omega)
            · rw [show (read ++ [V]).length = read.length + 1 from by simp]
              exact own_put4 hown5 (p := p14) (by omega) ⟨xk, xc, xv, xo⟩
        · have e2 : (last.kind == 2) = false := by simp [h2]
          have HRN : Hid (readsNext last read V = read) := by show readsNext last read _ = _; simp [readsNext, h2]
          have HWN : Hid (writesNext last writes = writes) := by show writesNext last writes = _; simp [writesNext, h3]
          clear h3 h2
          have hMw := hMr
          have hBw := hBr
          have hQ1w := hQ1
          have hQ2w := hQ2
          have hQ3w := hQ3
          have hQ4w := hQ4
          have hownw := hown
          have hrcw := hrc
          have hbelw := hbel
          have cww := cw
          go_wp2_with fail
          refine (next_any my s (fun g => (g ≠ p12 ∧ g ≠ p14) ∧ g < wr.heap.size) V _ HS.out.ok HS.out.look (fun g hg => hg.2) (by exact hMw.bound)).mono ?_
          rintro e w3 ⟨⟨xk, xc, xv, xo⟩, s', hx, rfl, hM3, hg3⟩
          have hst := step_sim HB.out HS.out V
          rw [hx, HRN.out, HWN.out] at hst
          have HST := Lib.hid hst
          have hlt14 := hQ4w.lt
          have hB3 := hBw.grown hg3 (by intro hh; injection hh with hh; omega)
          have hQ13 := hQ1w.grown hg3 (by intro hh; injection hh with hh; omega)
          have hQ23 := hQ2w.grown hg3 (by intro hh; injection hh with hh; omega)
          have hQ33 := hQ3w.grown hg3 (by intro hh; injection hh with hh; omega)
          have hQ43 := hQ4w.grown hg3 (by intro hh; injection hh with hh; omega)
          have hM4 : MIs w3 my s' (fun g => g ≠ p12 ∧ g ≠ p14) := hM3.more (by rintro g (h | h); exact h.1; omega)
          have hob : Value.ownBlock _ ≠ some my := (by obtain ⟨cs, hcs⟩ := hMw.blk; exact own_blk_ne hownw hcs (by decide))
          have hown3 := hownw.kept hg3 (.inr hob)
          have hbel3 : Below w.heap.size w w3 := hbelw.trans (below_of_only hg3 (by omega) hbelw.size)
          clear hx hst hM3 hob hg3 hlt14
          try clear cb4
          clear cb0 cb1 cb2 cb3 q10 q11 q12 q13 q30 q31 q32 q33 q20 q21 q22 q23 q40 q41 q42 q43 l11 l12 l13 l14 lb f20 f21 f22 f23 f40 f41 f42 f43
          have cb0 : w3.cell? ⟨w.heap.size + 1, 0, none⟩ = some (.int .i64 base') := (hB3.cell 0).trans rfl
          have cb1 : w3.cell? ⟨w.heap.size + 1, 1, none⟩ = some (.int .i64 most') := (hB3.cell 1).trans rfl
          have cb2 : w3.cell? ⟨w.heap.size + 1, 2, none⟩ = some (.int .i64 call') := (hB3.cell 2).trans rfl
          have cb3 : w3.cell? ⟨w.heap.size + 1, 3, none⟩ = some (.slice A' n' nc') := (hB3.cell 3).trans rfl
          have q10 : w3.cell? ⟨p11, 0, none⟩ = some (.int .i64 x1k) := (hQ13.cell 0).trans rfl
          have q11 : w3.cell? ⟨p11, 1, none⟩ = some (.int .i64 x1c) := (hQ13.cell 1).trans rfl
          have q12 : w3.cell? ⟨p11, 2, none⟩ = some (.int .i64 x1v) := (hQ13.cell 2).trans rfl
          have q13 : w3.cell? ⟨p11, 3, none⟩ = some (.int .i64 x1o) := (hQ13.cell 3).trans rfl
          have q30 : w3.cell? ⟨p13, 0, none⟩ = some (.int .i64 x1k) := (hQ33.cell 0).trans rfl
          have q31 : w3.cell? ⟨p13, 1, none⟩ = some (.int .i64 x1c) := (hQ33.cell 1).trans rfl
          have q32 : w3.cell? ⟨p13, 2, none⟩ = some (.int .i64 x1v) := (hQ33.cell 2).trans rfl
          have q33 : w3.cell? ⟨p13, 3, none⟩ = some (.int .i64 x1o) := (hQ33.cell 3).trans rfl
          have q20 : w3.cell? ⟨p12, 0, none⟩ = some (.int .i64 last.kind) := (hQ23.cell 0).trans rfl
          have q21 : w3.cell? ⟨p12, 1, none⟩ = some (.int .i64 last.cell) := (hQ23.cell 1).trans rfl
          have q22 : w3.cell? ⟨p12, 2, none⟩ = some (.int .i64 last.value) := (hQ23.cell 2).trans rfl
          have q23 : w3.cell? ⟨p12, 3, none⟩ = some (.int .i64 last.code) := (hQ23.cell 3).trans rfl
          have q40 : w3.cell? ⟨p14, 0, none⟩ = some (.int .i64 last.kind) := (hQ43.cell 0).trans rfl
          have q41 : w3.cell? ⟨p14, 1, none⟩ = some (.int .i64 last.cell) := (hQ43.cell 1).trans rfl
          have q42 : w3.cell? ⟨p14, 2, none⟩ = some (.int .i64 last.value) := (hQ43.cell 2).trans rfl
          have q43 : w3.cell? ⟨p14, 3, none⟩ = some (.int .i64 last.code) := (hQ43.cell 3).trans rfl
          have l11 : p11 < w3.heap.size := hQ13.lt
          have l12 : p12 < w3.heap.size := hQ23.lt
          have l13 : p13 < w3.heap.size := hQ33.lt
          have l14 : p14 < w3.heap.size := hQ43.lt
          have lb : w.heap.size + 1 < w3.heap.size := hB3.lt
          have f20 : w3.frozen? ⟨p12, 0, none⟩ = false := hQ23.frozen 0
          have f21 : w3.frozen? ⟨p12, 1, none⟩ = false := hQ23.frozen 1
          have f22 : w3.frozen? ⟨p12, 2, none⟩ = false := hQ23.frozen 2
          have f23 : w3.frozen? ⟨p12, 3, none⟩ = false := hQ23.frozen 3
          have f40 : w3.frozen? ⟨p14, 0, none⟩ = false := hQ43.frozen 0
          have f41 : w3.frozen? ⟨p14, 1, none⟩ = false := hQ43.frozen 1
          have f42 : w3.frozen? ⟨p14, 2, none⟩ = false := hQ43.frozen 2
          have f43 : w3.frozen? ⟨p14, 3, none⟩ = false := hQ43.frozen 3
          have hB4 := blk_far4 hB3 (p := p12) (by omega) ⟨xk, xc, xv, xo⟩
          have hQ14 := blk_far4 hQ13 (p := p12) (by omega) ⟨xk, xc, xv, xo⟩
          have hQ34 := blk_far4 hQ33 (p := p12) (by omega) ⟨xk, xc, xv, xo⟩
          have hQ44 := blk_far4 hQ43 (p := p12) (by omega) ⟨xk, xc, xv, xo⟩
          have hQ24 := blk_at4 hQ23 ⟨xk, xc, xv, xo⟩
          have hM5 := mis_put4 hM4 (p := p12) (by omega) (by simp) ⟨xk, xc, xv, xo⟩
          have hown4 := own_put4 hown3 (p := p12) (by omega) ⟨xk, xc, xv, xo⟩
          have hbel4 := below_put4 hbel3 (p := p12) (by omega) ⟨xk, xc, xv, xo⟩
          have hRd4 := Reads.of_own hown4
          clear hown3 hM4
          go_wp2_with fail
          refine (wants_any base' most' call' args' (read) (writes) last A' (R) n' nc' (read.length) (rc) _ (by first | omega | (simp; omega)) hrcw HB.out (by exact Reads.more (hA'.below hbel4) hbel4.size) (by exact hRd4)).mono ?_
          rintro e w5 ⟨kd, kc, kv, ko, hp, rfl, hb5⟩
          have he := HST.out.eq.trans hp
          injection he with e1 e2 e3 e4
          subst e1 e2 e3 e4
          replace hbel4 := hbel4.trans (hb5.mono hbel4.size)
          replace hB4 := hB4.below hb5 hB4.lt
          replace hQ14 := hQ14.below hb5 hQ14.lt
          replace hQ24 := hQ24.below hb5 hQ24.lt
          replace hQ34 := hQ34.below hb5 hQ34.lt
          replace hQ44 := hQ44.below hb5 hQ44.lt
          have hM6 := hM5.below hb5
          have hown5 := hown4.kept (only_of_below hb5 none) (by cases Value.ownBlock _ <;> simp)
          clear hp hb5 hM5 hown4 hRd4
          try clear cb4
          clear cb0 cb1 cb2 cb3 q10 q11 q12 q13 q30 q31 q32 q33 q20 q21 q22 q23 q40 q41 q42 q43 l11 l12 l13 l14 lb f20 f21 f22 f23 f40 f41 f42 f43
          have l14 : p14 < w5.heap.size := hQ44.lt
          have f40 : w5.frozen? ⟨p14, 0, none⟩ = false := hQ44.frozen 0
          have f41 : w5.frozen? ⟨p14, 1, none⟩ = false := hQ44.frozen 1
          have f42 : w5.frozen? ⟨p14, 2, none⟩ = false := hQ44.frozen 2
          have f43 : w5.frozen? ⟨p14, 3, none⟩ = false := hQ44.frozen 3
          have q40 : w5.cell? ⟨p14, 0, none⟩ = some (.int .i64 last.kind) := (hQ44.cell 0).trans rfl
          have q41 : w5.cell? ⟨p14, 1, none⟩ = some (.int .i64 last.cell) := (hQ44.cell 1).trans rfl
          have q42 : w5.cell? ⟨p14, 2, none⟩ = some (.int .i64 last.value) := (hQ44.cell 2).trans rfl
          have q43 : w5.cell? ⟨p14, 3, none⟩ = some (.int .i64 last.code) := (hQ44.cell 3).trans rfl
          go_wp2
          go_roundg (m' - (k + 1))
          case measure => have := HGK.out; omega
          case rel =>
            refine ⟨k + 1, read, writes, ⟨xk, xc, xv, xo⟩, s', rfl, rfl, by go_num, rfl, by omega, by omega, by omega, ?_, HST.out.sim, mis_put4 hM6 (p := p14) (by omega) (by simp) ⟨xk, xc, xv, xo⟩, ?_, blk_far4 hB4 (p := p14) (by omega) ⟨xk, xc, xv, xo⟩, blk_far4 hQ14 (p := p14) (by omega) ⟨xk, xc, xv, xo⟩, blk_far4 hQ34 (p := p14) (by omega) ⟨xk, xc, xv, xo⟩, blk_far4 hQ24 (p := p14) (by omega) ⟨xk, xc, xv, xo⟩, blk_at4 hQ44 ⟨xk, xc, xv, xo⟩, below_put4 hbel4 (p := p14) (by omega) ⟨xk, xc, xv, xo⟩⟩
            · first | omega | (simp; omega)
            · rw [show (read).length = read.length from rfl]
              exact own_put4 hown5 (p := p14) (by omega) ⟨xk, xc, xv, xo⟩
    · obtain rfl : k = m' := by omega
      go_wp2_with fail
      go_ret
      exact ⟨rfl, hbel⟩

theorem opened {H : Type} (enc : TypeId × Value → H) (W : World) (b0 : Nat) (v0 : Value) (d0 : DataW H) (p0 : List MemPlace) (v1 : Value) (d1 : DataW H) (p1 : List MemPlace)
    (hv0 : Value.okWide Try.prog W .any b0 26 v0) (h0 : DataW.Trod enc Try.prog W 0 (fun _ => true) true 26 v0 d0 p0)
    (hv1 : Value.okWide Try.prog W .any b0 26 v1) (h1 : DataW.Trod enc Try.prog W 0 (fun _ => true) true 26 v1 d1 p1)
    (hsz : (DataW.weightsEach Try.prog [26, 26] [d0, d1]).all (· ≤ reachBytes) = true) :
    Calls Try.prog 6 #[v0, v1] W fun e W' => e = .returned (.bool true) ∧ Below W.heap.size W W' := by
  obtain ⟨base, most, call, args, words, A, Wd, n, nc, m, mc, rfl, hn, hnc, hm, hmc, hA, hB, _, hsize⟩ := asked_open hv0 h0
  obtain ⟨base', most', call', args', words', A', Wd', n', nc', m', mc', rfl, hn', hnc', hm', hmc', hA', hB', _, hsize'⟩ := asked_open hv1 h1
  have hms := (hsize' hsz (j := 1) rfl rfl).2
  by_cases hok : callOk base most call args ∧ callOk base' most' call' args'
  · exact walk_yes base most call base' most' call' args args' words' A Wd A' Wd' n nc m mc n' nc' m' mc' W (by omega) (by omega) hms hA hA' hB' hok.1 hok.2
  · exact walk_no base most call base' most' call' args args' A Wd A' Wd' n nc m mc n' nc' m' mc' W (by omega) (by omega) hA hA' hok

/-! ### The row -/
set_option maxRecDepth 100000 in
theorem lifted (os : Os) (started : os.Started) (H : Type) (enc : TypeId × Value → H) :
    ReturnsInHanded {} Try.checked os 6 .any (Rows.dictApartSpec.pre6 enc Try.prog Try.f6 Rows.dictApartRow.domain false) (Rows.dictApartSpec.post enc Try.prog Try.f6 false true false false) := by
  refine returnsInHanded_of_change_sized (C := Try.checked) own started (by kernel_rfl) Try.func6
    (ChangeSpec.witness6 (enc := enc) (C := Try.checked) false ⟨#[], #[.agg #[.int .i64 0, .int .i64 0, .int .i64 0, .slice none 0 0, .slice none 0 0], .agg #[.int .i64 0, .int .i64 0, .int .i64 0, .slice none 0 0, .slice none 0 0]], []⟩ 8 (by kernel_rfl) (by kernel_rfl) (by kernel_rfl) (by kernel_rfl)) ?_
  intro W base args ds gs before hval0 hW hcnd hsz0 hholds
  have hval : ∀ (j : Nat) t v, Try.f6.params[j]? = some t → args[j]? = some v → Value.okWide Try.prog W .any base t v := hval0
  have hsz : (DataW.weightsEach Try.prog (Try.f6.params.toList ++ Rows.dictApartSpec.plain.varTypes Try.prog) (ds ++ gs)).all (· ≤ reachBytes) = true := hsz0
  have hW' := hW
  obtain ⟨p, q, hA0, hV, rfl, hfz, hnd⟩ := hW
  have hA : DataW.TrodAll enc Try.prog W 0 (fun _ => true) true Try.f6.params.toList args.toList ds p := hA0
  obtain ⟨rfl, rfl⟩ := trodVars_none hV
  have hlt : ∀ x ∈ p, x.block < W.heap.size := fun x hx => hW'.lt x (by simpa using hx)
  rw [Try.params6] at hA hval hsz
  obtain ⟨v0, vs0, d0, ds0, p0, q0, hargs, rfl, rfl, h0, r0⟩ := trodAll_cons hA
  obtain ⟨v1, vs1, d1, ds1, p1, q1, rfl, rfl, rfl, h1, r1⟩ := trodAll_cons r0
  obtain ⟨rfl, rfl, rfl⟩ := trodAll_nil r1
  obtain rfl : args = #[v0, v1] := by cases args; simp_all
  clear hA0 hval0 hsz0
  refine (opened enc W base v0 d0 p0 v1 d1 p1 (hval 0 _ v0 rfl rfl) h0 (hval 1 _ v1 rfl rfl) h1 hsz).mono fun e W' ⟨he, bel⟩ => ?_
  subst he
  exact ⟨_, rfl, _, _, _, [], _, [], hW', trodAll_mk1 (shut_bool Try.underlying4 _), Below.trodAll laidOut (by intro t ht; have ht' : t ∈ [26, 26] := ht; clear ht; simp only [List.mem_cons, List.not_mem_nil, or_false] at ht'; rcases ht' with rfl | rfl <;> exact ⟨by kernel_rfl, of_decide_eq_true (by kernel_rfl)⟩) hA bel hlt, rfl, bel.frame _, fun h => by cases h⟩

theorem over : Rows.dictApartRow.holds Try.pinned (OpenSpec.ofChange Rows.dictApartSpec) :=
  OpenClaim.holds_of_wide 6 Try.f6 rfl rfl rfl rfl rfl rfl rfl ⟨rfl, rfl, rfl, rfl, rfl⟩ rfl rfl rfl rfl rfl (by kernel_rfl) Try.func6 (by kernel_rfl)
    (of_decide_eq_true (by kernel_rfl)) (by unfold Func.isWrapper; first | (rw [if_pos (by decide +kernel)]; kernel_rfl) | (rw [if_neg (by decide +kernel)]; exact ⟨rfl, rfl⟩))
    (fun os started H enc _ => lifted os started H enc)

/-- THE STATEMENT -/
theorem proved : Rows.DictApartSaid := over
#print axioms proved
end Go.Proofs.Ytjggcidaolnmbaa.dictApart
