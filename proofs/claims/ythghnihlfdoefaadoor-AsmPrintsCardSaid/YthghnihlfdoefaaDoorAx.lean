/- Maps that a call makes: from int to bool, from string to int. -/
import Derived.Test.YthghnihlfdoefaaDoorOw
import Derived.Maps.Own
import Derived.Maps.OwnSet
import Derived.Maps.Views
import Derived.Carry
namespace Go.Proofs.YthghnihlfdoefaaDoor
open Go.RowKit Go.Joins Go.ChangeShapes Go.WideShapes Go.Deep Go.Maps
set_option linter.unusedVariables false
set_option linter.unusedSimpArgs false
set_option maxRecDepth 100000

theorem wpList_insert_own {H : Type} {P : Program} (w : World) {ops : Array Oper} {rest : List Oper} {o : Oper} {a : Act} {Q : Exit → Act → World → Prop}
    (hg : o.guard = none) (m x v : Operand) (t : TypeId) (hop : o.op = Op.insert t m x v)
    (k e : TypeId) (K : Keyed P k) (ht : P.underlying t = some (.map k e)) (R : Value → Option (DataW H × List MemPlace)) (b n : Nat) (D : DataW H)
    (hm : a.eval m = .map (some b)) (hown : w.ownsMap P k R b n D) (hn : n < maxLen) (key val : Value) (kl : Lit) (hx : a.eval x = key) (hv : a.eval v = val) (hkey : keyOf P k key = some kl)
    (d : DataW H) (ps : List MemPlace) (hval : R val = some (d, ps))
    (hK : ∀ w', w'.ownsMap P k R b (n + 1) (D.put kl d) → w.grownBy w' (some b) → wpList P ops Q rest (a.put o.dst undef) w') :
    wpList P ops Q (o :: rest) a w := by
  refine wpList_plain hg fun K' hK' => ?_
  obtain ⟨w', hrun, r1, r2⟩ := hown.update K ht hn hkey hval
  unfold Oper.wp
  simp [execOp, hop, hm, hx, hv, hrun, Result.andThen]
  exact hK' _ _ (hK w' r1 r2)

def i64ok (k : Int) : Prop := -9223372036854775808 ≤ k ∧ k ≤ 9223372036854775807
theorem i64_wf {k : Int} (h : i64ok k) : (Lit.int .i64 k).wf = true := by
  obtain ⟨h1, h2⟩ := h
  simp [Lit.wf, IntKind.min, IntKind.max, IntKind.bits, IntKind.signed]
  omega
theorem int_key {k : Int} (h : i64ok k) : keyOf Tryd.prog 3 (.int .i64 k) = some (.int .i64 k) := keyOf_int_mk Tryd.underlying3 (i64_wf h)
theorem int_law : Keyed Tryd.prog 3 := int_keyed Tryd.underlying3
noncomputable def RB : Value → Option (DataW Unit × List MemPlace) := plainElem Tryd.prog 4
/-- A set of numbers, as a map to bool. -/
def BMap (w : World) (b n : Nat) (S : Int → Bool) : Prop :=
  ∃ D, w.ownsMap Tryd.prog 3 RB b n D ∧ IsMap D ∧ ∀ k, i64ok k → D.atKey (.int .i64 k) (.lit (.bool false)) = .lit (.bool (S k))
theorem BMap.made (w : World) : BMap (w.alloc (.map #[] 0)) w.heap.size 0 (fun _ => false) := ⟨_, World.ownsMap_made w _ _ _, isMap_empty, fun _ _ => rfl⟩
theorem plainElem_bool_inv {v : Value} {z : DataW Unit × List MemPlace} (h : RB v = some z) : ∃ x, v = .bool x ∧ z = (.lit (.bool x), []) := by
  unfold RB plainElem at h
  simp only [Tryd.underlying4] at h
  cases v <;> simp at h
  exact ⟨_, rfl, h.symm⟩
theorem BMap.look {w : World} {b n : Nat} {S : Int → Bool} (h : BMap w b n S) (k : Int) (hk : i64ok k) : (Instr.lookup 34 (.map (some b)) (.int .i64 k) false).run Tryd.prog w = .ok (.bool (S k)) w := by
  obtain ⟨D, hown, _, hat⟩ := h
  have hz : (zeroValue 4).run Tryd.prog w = .ok (.bool false) w := Tryd.zeroValue4 w
  obtain ⟨v, ps, hrun, hv⟩ := hown.lookup int_law Tryd.underlying34 hz (plainElem_bool Tryd.underlying4 false) (int_key hk)
  obtain ⟨x, rfl, hx⟩ := plainElem_bool_inv hv
  rw [hat k hk] at hx
  injection hx with hx1 _
  injection hx1 with hx1
  injection hx1 with hx1
  rw [hrun, hx1]
theorem BMap.put_at {D : DataW Unit} {S : Int → Bool} {k : Int} (hk : i64ok k) (hM : IsMap D) (hat : ∀ j, i64ok j → D.atKey (.int .i64 j) (.lit (.bool false)) = .lit (.bool (S j))) :
    ∀ j, i64ok j → (D.put (.int .i64 k) (.lit (.bool true))).atKey (.int .i64 j) (.lit (.bool false)) = .lit (.bool (S j || j == k)) := by
  intro j hj
  by_cases e : j = k
  · subst e
    rw [atKey_put_same hM (int_law.key (int_key hk))]
    simp
  · rw [atKey_put_other (by intro h; injection h with _ h; exact e h), hat j hj]
    simp [e]
theorem BMap.kept {w w' : World} {b n : Nat} {S : Int → Bool} (h : BMap w b n S) (hk : w'.heap[b]? = w.heap[b]?) : BMap w' b n S := by
  obtain ⟨D, ⟨es, cl, h1, h2, h3, h4⟩, hm, hat⟩ := h
  exact ⟨D, ⟨es, cl, hk.trans h1, h2, h3, h4⟩, hm, hat⟩
theorem BMap.lt {w : World} {b n : Nat} {S : Int → Bool} (h : BMap w b n S) : b < w.heap.size := by
  obtain ⟨D, h, _⟩ := h
  exact h.lt
theorem BMap.congr {w : World} {b n : Nat} {S S' : Int → Bool} (h : BMap w b n S) (e : ∀ k, S k = S' k) : BMap w b n S' := by
  obtain ⟨D, h1, h2, h3⟩ := h
  exact ⟨D, h1, h2, fun k hk => by rw [h3 k hk, e]⟩
theorem wpList_bmap_put (w : World) {ops : Array Oper} {rest : List Oper} {o : Oper} {a : Act} {Q : Exit → Act → World → Prop}
    (hg : o.guard = none) (m x v : Operand) (hop : o.op = Op.mapUpdate 34 m x v) (b n : Nat) (S : Int → Bool)
    (hm : a.eval m = .map (some b)) (h : BMap w b n S) (hn : n < maxLen) (k : Int) (hk : i64ok k) (hx : a.eval x = .int .i64 k) (hv : a.eval v = .bool true)
    (hK : ∀ w', BMap w' b (n + 1) (fun j => S j || j == k) → w.grownBy w' (some b) → wpList Tryd.prog ops Q rest (a.put o.dst undef) w') :
    wpList Tryd.prog ops Q (o :: rest) a w := by
  obtain ⟨D, hown, hM, hat⟩ := h
  exact wpList_mapUpdate_own w hg m x v _ hop 3 4 int_law Tryd.underlying34 RB b n D hm hown hn _ _ _ hx hv (int_key hk) _ [] (plainElem_bool Tryd.underlying4 true) fun w' h1 h2 => hK w' ⟨_, h1, hM.put _ _, BMap.put_at hk hM hat⟩ h2
theorem wpList_bmap_insert (w : World) {ops : Array Oper} {rest : List Oper} {o : Oper} {a : Act} {Q : Exit → Act → World → Prop}
    (hg : o.guard = none) (m x v : Operand) (hop : o.op = Op.insert 34 m x v) (b n : Nat) (S : Int → Bool)
    (hm : a.eval m = .map (some b)) (h : BMap w b n S) (hn : n < maxLen) (k : Int) (hk : i64ok k) (hx : a.eval x = .int .i64 k) (hv : a.eval v = .bool true)
    (hK : ∀ w', BMap w' b (n + 1) (fun j => S j || j == k) → w.grownBy w' (some b) → wpList Tryd.prog ops Q rest (a.put o.dst undef) w') :
    wpList Tryd.prog ops Q (o :: rest) a w := by
  obtain ⟨D, hown, hM, hat⟩ := h
  exact wpList_insert_own w hg m x v _ hop 3 4 int_law Tryd.underlying34 RB b n D hm hown hn _ _ _ hx hv (int_key hk) _ [] (plainElem_bool Tryd.underlying4 true) fun w' h1 h2 => hK w' ⟨_, h1, hM.put _ _, BMap.put_at hk hM hat⟩ h2
end Go.Proofs.YthghnihlfdoefaaDoor
