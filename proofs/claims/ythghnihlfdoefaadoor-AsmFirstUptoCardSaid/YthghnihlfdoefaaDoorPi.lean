/- Maps that a call makes: from int to bool, from string to int. -/
import Derived.Test.YthghnihlfdoefaaDoorOw
import Derived.Maps.Own
import Derived.Maps.OwnSet
import Derived.Maps.Views
import Derived.Carry
import Derived.Test.YthghnihlfdoefaaDoorAi
import Derived.Test.YthghnihlfdoefaaDoorAp
import Derived.Test.YthghnihlfdoefaaDoorAw
import Derived.Test.YthghnihlfdoefaaDoorSh
import Derived.BigQuiet
import Derived.Deep.QuietTactic
namespace Go.Proofs.YthghnihlfdoefaaDoor
open Go.RowKit Go.Joins Go.ChangeShapes Go.WideShapes Go.Deep Go.Maps
set_option linter.unusedVariables false
set_option linter.unusedSimpArgs false
set_option maxRecDepth 100000

theorem wpList_insert_own {H : Type} {P : Program} (w : World) {ops : Array Oper} {rest : List Oper} {o : Oper} {a : Act} {Q : Exit → Act → World → Prop}
    (hg : o.guard = none) (m x v : Operand) (t : TypeId) (hop : o.op = Op.insert t m x v)
    (k e : TypeId) (K : Keyed P k) (ht : P.underlying t = some (.map k e)) (R : Value → Option (DataW H × List MemPlace)) (b n : Nat) (D : DataW H)
    (hm : a.eval m = .map (some b)) (hown : w.ownsMap P k R b n D) (hn : n < maxLen) (key val : Value) (kl : Lit) (hx : a.eval x = key) (hv : a.eval v = val) (hkey : keyOf P k key = some kl)
    (d : DataW H) (ps : List MemPlace) (hval : R val = some (d, ps))
    (hK : ∀ w', w'.ownsMap P k R b (n + 1) (D.put kl d) → w.grownBy w' (some b) → wpList P ops Q rest (a.put o.dst undef) w') :
    wpList P ops Q (o :: rest) a w := by
  refine wpList_plain hg fun K' hK' => ?_
  obtain ⟨w', hrun, r1, r2⟩ := hown.update K ht hn hkey hval
  unfold Oper.wp
  simp [execOp, hop, hm, hx, hv, hrun, Result.andThen]
  exact hK' _ _ (hK w' r1 r2)

def i64ok (k : Int) : Prop := -9223372036854775808 ≤ k ∧ k ≤ 9223372036854775807
theorem i64_wf {k : Int} (h : i64ok k) : (Lit.int .i64 k).wf = true := by
  obtain ⟨h1, h2⟩ := h
  simp [Lit.wf, IntKind.min, IntKind.max, IntKind.bits, IntKind.signed]
  omega
theorem int_key {k : Int} (h : i64ok k) : keyOf Tryd.prog 3 (.int .i64 k) = some (.int .i64 k) := keyOf_int_mk Tryd.underlying3 (i64_wf h)
theorem int_law : Keyed Tryd.prog 3 := int_keyed Tryd.underlying3
noncomputable def RB : Value → Option (DataW Unit × List MemPlace) := plainElem Tryd.prog 4
/-- A set of numbers, as a map to bool. -/
def BMap (w : World) (b n : Nat) (S : Int → Bool) : Prop :=
  ∃ D, w.ownsMap Tryd.prog 3 RB b n D ∧ IsMap D ∧ ∀ k, i64ok k → D.atKey (.int .i64 k) (.lit (.bool false)) = .lit (.bool (S k))
theorem BMap.made (w : World) : BMap (w.alloc (.map #[] 0)) w.heap.size 0 (fun _ => false) := ⟨_, World.ownsMap_made w _ _ _, isMap_empty, fun _ _ => rfl⟩
theorem plainElem_bool_inv {v : Value} {z : DataW Unit × List MemPlace} (h : RB v = some z) : ∃ x, v = .bool x ∧ z = (.lit (.bool x), []) := by
  unfold RB plainElem at h
  simp only [Tryd.underlying4] at h
  cases v <;> simp at h
  exact ⟨_, rfl, h.symm⟩
theorem BMap.look {w : World} {b n : Nat} {S : Int → Bool} (h : BMap w b n S) (k : Int) (hk : i64ok k) : (Instr.lookup 34 (.map (some b)) (.int .i64 k) false).run Tryd.prog w = .ok (.bool (S k)) w := by
  obtain ⟨D, hown, _, hat⟩ := h
  have hz : (zeroValue 4).run Tryd.prog w = .ok (.bool false) w := Tryd.zeroValue4 w
  obtain ⟨v, ps, hrun, hv⟩ := hown.lookup int_law Tryd.underlying34 hz (plainElem_bool Tryd.underlying4 false) (int_key hk)
  obtain ⟨x, rfl, hx⟩ := plainElem_bool_inv hv
  rw [hat k hk] at hx
  injection hx with hx1 _
  injection hx1 with hx1
  injection hx1 with hx1
  rw [hrun, hx1]
theorem BMap.put_at {D : DataW Unit} {S : Int → Bool} {k : Int} (hk : i64ok k) (hM : IsMap D) (hat : ∀ j, i64ok j → D.atKey (.int .i64 j) (.lit (.bool false)) = .lit (.bool (S j))) :
    ∀ j, i64ok j → (D.put (.int .i64 k) (.lit (.bool true))).atKey (.int .i64 j) (.lit (.bool false)) = .lit (.bool (S j || j == k)) := by
  intro j hj
  by_cases e : j = k
  · subst e
    rw [atKey_put_same hM (int_law.key (int_key hk))]
    simp
  · rw [atKey_put_other (by intro h; injection h with _ h; exact e h), hat j hj]
    simp [e]
theorem BMap.kept {w w' : World} {b n : Nat} {S : Int → Bool} (h : BMap w b n S) (hk : w'.heap[b]? = w.heap[b]?) : BMap w' b n S := by
  obtain ⟨D, ⟨es, cl, h1, h2, h3, h4⟩, hm, hat⟩ := h
  exact ⟨D, ⟨es, cl, hk.trans h1, h2, h3, h4⟩, hm, hat⟩
theorem BMap.lt {w : World} {b n : Nat} {S : Int → Bool} (h : BMap w b n S) : b < w.heap.size := by
  obtain ⟨D, h, _⟩ := h
  exact h.lt
theorem BMap.congr {w : World} {b n : Nat} {S S' : Int → Bool} (h : BMap w b n S) (e : ∀ k, S k = S' k) : BMap w b n S' := by
  obtain ⟨D, h1, h2, h3⟩ := h
  exact ⟨D, h1, h2, fun k hk => by rw [h3 k hk, e]⟩
theorem wpList_bmap_put (w : World) {ops : Array Oper} {rest : List Oper} {o : Oper} {a : Act} {Q : Exit → Act → World → Prop}
    (hg : o.guard = none) (m x v : Operand) (hop : o.op = Op.mapUpdate 34 m x v) (b n : Nat) (S : Int → Bool)
    (hm : a.eval m = .map (some b)) (h : BMap w b n S) (hn : n < maxLen) (k : Int) (hk : i64ok k) (hx : a.eval x = .int .i64 k) (hv : a.eval v = .bool true)
    (hK : ∀ w', BMap w' b (n + 1) (fun j => S j || j == k) → w.grownBy w' (some b) → wpList Tryd.prog ops Q rest (a.put o.dst undef) w') :
    wpList Tryd.prog ops Q (o :: rest) a w := by
  obtain ⟨D, hown, hM, hat⟩ := h
  exact wpList_mapUpdate_own w hg m x v _ hop 3 4 int_law Tryd.underlying34 RB b n D hm hown hn _ _ _ hx hv (int_key hk) _ [] (plainElem_bool Tryd.underlying4 true) fun w' h1 h2 => hK w' ⟨_, h1, hM.put _ _, BMap.put_at hk hM hat⟩ h2
theorem wpList_bmap_insert (w : World) {ops : Array Oper} {rest : List Oper} {o : Oper} {a : Act} {Q : Exit → Act → World → Prop}
    (hg : o.guard = none) (m x v : Operand) (hop : o.op = Op.insert 34 m x v) (b n : Nat) (S : Int → Bool)
    (hm : a.eval m = .map (some b)) (h : BMap w b n S) (hn : n < maxLen) (k : Int) (hk : i64ok k) (hx : a.eval x = .int .i64 k) (hv : a.eval v = .bool true)
    (hK : ∀ w', BMap w' b (n + 1) (fun j => S j || j == k) → w.grownBy w' (some b) → wpList Tryd.prog ops Q rest (a.put o.dst undef) w') :
    wpList Tryd.prog ops Q (o :: rest) a w := by
  obtain ⟨D, hown, hM, hat⟩ := h
  exact wpList_insert_own w hg m x v _ hop 3 4 int_law Tryd.underlying34 RB b n D hm hown hn _ _ _ hx hv (int_key hk) _ [] (plainElem_bool Tryd.underlying4 true) fun w' h1 h2 => hK w' ⟨_, h1, hM.put _ _, BMap.put_at hk hM hat⟩ h2
end Go.Proofs.YthghnihlfdoefaaDoor

/- asm.bytes, asm.leads, the two functions inside asm.Print. -/
namespace Go.Proofs.YthghnihlfdoefaaDoor
open Go.RowKit Go.Joins Go.ChangeShapes Go.WideShapes Go.Deep Go.Maps
set_option linter.unusedVariables false
set_option linter.unusedSimpArgs false
set_option maxRecDepth 100000

theorem fits_zero (c : Nat) (hc : c < 41) : fitsF (shapeF c) 0 = true := by
  rcases shape_cases c hc with h | h | h | h | h | h | h <;> (rw [h.2]; rfl)
theorem opc_one (c : Nat) (v : Int) (u : Value) : u ∈ rows opc [⟨c, v⟩] → u.oneCell' = true := by
  simp [rows, opc]
  rintro (rfl | rfl) <;> rfl
theorem reads_lit (w : World) (c : Nat) (v : Int) : Reads (w.alloc (.cells #[.int .i64 c, .int .i64 v] 36)) (w.heap.size + 1) 2 (some ⟨w.heap.size, 0, none⟩) 1 (rows opc [⟨c, v⟩]) :=
  ⟨rfl, fun _ => ⟨_, rfl, by simp, fun j u hj => by
    have := (Blk.new w 36 #[.int .i64 c, .int .i64 v]).cell j
    rw [Addr.add_lit, Nat.zero_add, this]
    simpa [rows, opc] using hj⟩⟩
theorem leads_any (c : Nat) (w : World) : Calls Tryd.prog 18 #[.int .i64 c] w fun r w' => r = .returned (.bool (leadsF c)) ∧ w' = w := by
  by_cases h24 : c = 24
  · subst h24
    go_enter Tryd.func18, Tryd.ntmps18
    go_wp2
    go_ret
    exact ⟨rfl, rfl⟩
  · by_cases h25 : c = 25
    · subst h25
      go_enter Tryd.func18, Tryd.ntmps18
      go_wp2
      go_ret
      exact ⟨rfl, rfl⟩
    · by_cases h26 : c = 26
      · subst h26
        go_enter Tryd.func18, Tryd.ntmps18
        go_wp2
        go_ret
        exact ⟨rfl, rfl⟩
      · have d1 : ((c : Int) == 24) = false := by simp; omega
        have d2 : ((c : Int) == 25) = false := by simp; omega
        have d3 : ((c : Int) == 26) = false := by simp; omega
        have HL : Hid (leadsF c = false) := Lib.hid (by simp [leadsF, h24, h25, h26])
        go_enter Tryd.func18, Tryd.ntmps18
        go_wp2
        go_ret
        exact ⟨by rw [HL.out]; rfl, rfl⟩
set_option maxHeartbeats 1000000 in
theorem bytes_c (c : Nat) (hc : c < 41) (w : World) (hS : ShapesAt w) : Calls Tryd.prog 16 #[.int .i64 c] w fun r w' => r = .returned (.int .i64 ((1 + widthF (shapeF c) : Nat) : Int)) ∧ Below w.heap.size w w' := by
  have hE := enc_ok [⟨c, 0⟩] (some ⟨w.heap.size, 0, none⟩) 1 1 (w.alloc (.cells #[.int .i64 c, .int .i64 0] 36)) (hS.below ((Below.refl _ _).alloc (Nat.le_refl _) _) hS.lt) ((reads_lit w c 0).more (by simp)) (by decide)
    (by intro o ho; obtain rfl := List.mem_singleton.1 ho; exact ⟨hc, fits_zero c hc⟩) (by simp [bytesOf, encB_length]; unfold widthF; split <;> (try split) <;> (try split) <;> omega)
  have hl : (bytesOf [⟨c, 0⟩]).length = 1 + widthF (shapeF c) := by simp [bytesOf, encB_length]
  have HE := Lib.hid hE
  have HL := Lib.hid hl
  clear hE hl
  go_enter Tryd.func16, Tryd.ntmps16
  go_wp2_with (go_at_call 33; refine (HE.out).mono ?_; rintro e w1 ⟨rfl, hb1⟩)
  go_ret
  exact ⟨by rw [← HL.out]; rfl, ((Below.refl _ _).alloc (Nat.le_refl _) _).trans (hb1.mono (by simp))⟩

theorem BMap.drewN {w : World} {b n : Nat} {S : Int → Bool} (h : BMap w b n S) (k : Nat) : BMap (w.drewN k) b n S := h.kept rfl
/-- Where an instruction leads. -/
def ToPost (L : List AOp) (o : AOp) (p : Nat) (w : World) (e : Ending) (w' : World) : Prop :=
  ∃ n : Int, e = .returned (.tuple #[.int .i64 n, .bool (tgtF L o p).isSome]) ∧ (∀ t, tgtF L o p = some t → n = t) ∧ Below w.heap.size w w'
theorem lead_fit {c : Nat} {v : Int} (hl : leadsF c = true) (hf : fitsF (shapeF c) v = true) : c < 41 ∧ -32768 ≤ v ∧ v ≤ 65535 := by
  simp [leadsF] at hl
  rcases hl with (rfl | rfl) | rfl <;> simp [fitsF, shapeF, shapeL] at hf <;> omega
set_option maxHeartbeats 2000000 in
theorem to_any (L : List AOp) (c : Nat) (v : Int) (p : Nat) (hv : i64ok v) (hf : fitsF (shapeF c) v = true) (hp : p ≤ 512) (w : World) (b8 bm n : Nat) (h8 : w.cell? ⟨b8, 0, none⟩ = some (.map (some bm))) (hM : BMap w bm n (begF L L.length)) :
    Calls Tryd.prog 17 #[.agg #[.int .i64 c, .int .i64 v], .int .i64 p, .pointer (some ⟨b8, 0, none⟩)] w (ToPost L ⟨c, v⟩ p w) := by
  have hb8 : b8 < w.heap.size := World.block_lt_of_cell? _ _ h8
  by_cases hl : leadsF c = true
  · obtain ⟨_, v1, v2⟩ := lead_fit hl hf
    have HLC : ∀ W, Calls Tryd.prog 18 #[.int .i64 c] W fun r w' => r = .returned (.bool true) ∧ w' = W := fun W => (leads_any c W).mono fun r w' h => ⟨by rw [h.1, hl], h.2⟩
    have HLQ := Lib.hid HLC
    have HM := Lib.hid hM
    clear HLC hM hf
    by_cases h26 : c = 26
    · subst h26
      have hlk1 := fun nq => ((HM.out.kept (Below.heap_alloc w (.cells #[.int .i64 26, .int .i64 v] 36) bm HM.out.lt)).drewN nq).look v hv
      have HT : Hid (tgtF L ⟨26, v⟩ p = if begF L L.length v then some v else none) := Lib.hid (by simp [tgtF, toF, leadsF])
      obtain ⟨B, hB⟩ : ∃ B, B = begF L L.length v := ⟨_, rfl⟩
      rw [← hB] at hlk1 HT
      clear hB
      go_enter Tryd.func17, Tryd.ntmps17
      go_wp2_with fail
      (go_quiet ((go_at_call 18; exact Calls.quiet_of_same (HLQ.out _))))
      go_wp2_with fail
      go_ret2
      refine ⟨v, by rw [HT.out]; cases B <;> rfl, fun t ht => ?_, by repeat (first | with_reducible exact Below.refl _ _ | with_reducible refine Below.drew ?_ | with_reducible refine below_drewN ?_ _ | ((with_reducible refine Below.alloc ?_ ?_ _); (rotate_left; focus (first | with_reducible exact Nat.le_refl _ | omega | (simp; done) | (simp; omega) | (simp [World.setCell]; done) | (simp [World.setCell]; omega)))) | ((with_reducible refine Below.setCell ?_ ?_ _); (rotate_left; focus (first | with_reducible exact Nat.le_refl _ | omega | (simp; done) | (simp; omega) | (simp [World.setCell]; done) | (simp [World.setCell]; omega)))))⟩
      rw [HT.out] at ht
      cases B
      · cases ht
      · injection ht
    · have d1 : ((c : Int) != 26) = true := by simp; omega
      have hvp : i64ok (v + ((p : Int) + 3)) := ⟨by omega, by omega⟩
      have hlk1 := fun nq => ((HM.out.kept (Below.heap_alloc w (.cells #[.int .i64 c, .int .i64 v] 36) bm HM.out.lt)).drewN nq).look (v + ((p : Int) + 3)) hvp
      have HT : Hid (tgtF L ⟨c, v⟩ p = if begF L L.length (v + ((p : Int) + 3)) then some (v + ((p : Int) + 3)) else none) := Lib.hid (by
        have : toF ⟨c, v⟩ p = v + ((p : Int) + 3) := by simp [toF, h26]; omega
        simp [tgtF, this, hl])
      obtain ⟨B, hB⟩ : ∃ B, B = begF L L.length (v + ((p : Int) + 3)) := ⟨_, rfl⟩
      rw [← hB] at hlk1 HT
      clear hB
      clear hvp hl
      go_enter Tryd.func17, Tryd.ntmps17
      go_wp2_with fail
      (go_quiet ((go_at_call 18; exact Calls.quiet_of_same (HLQ.out _))))
      go_wp2_with fail
      go_ret2
      refine ⟨v + ((p : Int) + 3), by rw [HT.out]; cases B <;> rfl, fun t ht => ?_, by repeat (first | with_reducible exact Below.refl _ _ | with_reducible refine Below.drew ?_ | with_reducible refine below_drewN ?_ _ | ((with_reducible refine Below.alloc ?_ ?_ _); (rotate_left; focus (first | with_reducible exact Nat.le_refl _ | omega | (simp; done) | (simp; omega) | (simp [World.setCell]; done) | (simp [World.setCell]; omega)))) | ((with_reducible refine Below.setCell ?_ ?_ _); (rotate_left; focus (first | with_reducible exact Nat.le_refl _ | omega | (simp; done) | (simp; omega) | (simp [World.setCell]; done) | (simp [World.setCell]; omega)))))⟩
      rw [HT.out] at ht
      cases B
      · cases ht
      · injection ht
  · have hl' : leadsF c = false := by simpa using hl
    have HLC : ∀ W, Calls Tryd.prog 18 #[.int .i64 c] W fun r w' => r = .returned (.bool false) ∧ w' = W := fun W => (leads_any c W).mono fun r w' h => ⟨by rw [h.1, hl'], h.2⟩
    have HLQ := Lib.hid HLC
    have HT : Hid (tgtF L ⟨c, v⟩ p = none) := Lib.hid (by simp [tgtF, hl'])
    have d1 : ((c : Int) != 26) = true := by simp [leadsF] at hl'; simp; omega
    clear HLC hM hf hl hl'
    go_enter Tryd.func17, Tryd.ntmps17
    go_wp2_with fail
    (go_quiet ((go_at_call 18; exact Calls.quiet_of_same (HLQ.out _))))
    go_wp2_with fail
    go_ret2
    exact ⟨_, by rw [HT.out]; rfl, fun t ht => by (rw [HT.out] at ht; cases ht), by repeat (first | with_reducible exact Below.refl _ _ | with_reducible refine Below.drew ?_ | with_reducible refine below_drewN ?_ _ | ((with_reducible refine Below.alloc ?_ ?_ _); (rotate_left; focus (first | with_reducible exact Nat.le_refl _ | omega | (simp; done) | (simp; omega) | (simp [World.setCell]; done) | (simp [World.setCell]; omega)))) | ((with_reducible refine Below.setCell ?_ ?_ _); (rotate_left; focus (first | with_reducible exact Nat.le_refl _ | omega | (simp; done) | (simp; omega) | (simp [World.setCell]; done) | (simp [World.setCell]; omega)))))⟩
end Go.Proofs.YthghnihlfdoefaaDoor
