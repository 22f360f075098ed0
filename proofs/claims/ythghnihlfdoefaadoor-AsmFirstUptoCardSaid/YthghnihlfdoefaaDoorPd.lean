/- Maps that a call makes: from string to int. -/
import Derived.Test.YthghnihlfdoefaaDoorPi
import Derived.Test.YthghnihlfdoefaaDoorPl
import Derived.StringKeys
import Derived.Test.YthghnihlfdoefaaDoorPc
namespace Go.Proofs.YthghnihlfdoefaaDoor
open Go.RowKit Go.Joins Go.ChangeShapes Go.WideShapes Go.Deep Go.Maps
set_option linter.unusedVariables false
set_option linter.unusedSimpArgs false
set_option maxRecDepth 100000

theorem str_key {s : ByteArray} (h : s.size ≤ maxLen) : keyOf Tryd.prog 9 (.string s) = some (.string s.data.toList) := Go.WideMaps.keyOf_string_mk Tryd.underlying9 h
theorem str_law : Keyed Tryd.prog 9 := string_keyed Tryd.underlying9
noncomputable def RI : Value → Option (DataW Unit × List MemPlace) := plainElem Tryd.prog 3
def SMap (w : World) (b n : Nat) (F : List UInt8 → Option Nat) : Prop :=
  ∃ D, w.ownsMap Tryd.prog 9 RI b n D ∧ IsMap D ∧ ∀ s : List UInt8, s.length ≤ maxLen → Maps.has D (.string s) = (F s).isSome ∧ D.atKey (.string s) (.lit (.int .i64 0)) = .lit (.int .i64 (((F s).getD 0 : Nat) : Int))
theorem SMap.made (w : World) : SMap (w.alloc (.map #[] 0)) w.heap.size 0 (fun _ => none) := ⟨_, World.ownsMap_made w _ _ _, isMap_empty, fun _ _ => ⟨rfl, rfl⟩⟩
theorem SMap.look {w : World} {b n : Nat} {F : List UInt8 → Option Nat} (h : SMap w b n F) (s : ByteArray) (hs : s.size ≤ maxLen) :
    (Instr.lookup 62 (.map (some b)) (.string s) true).run Tryd.prog w = .ok (.tuple #[.int .i64 (((F s.data.toList).getD 0 : Nat) : Int), .bool (F s.data.toList).isSome]) w := by
  obtain ⟨D, hown, _, hat⟩ := h
  obtain ⟨h1, h2⟩ := hat s.data.toList (by rw [Array.length_toList]; exact hs)
  have hz : (zeroValue 3).run Tryd.prog w = .ok (.int .i64 0) w := Tryd.zeroValue3 w
  obtain ⟨v, ps, hrun, hv⟩ := hown.look_ok str_law Tryd.underlying62 hz (plainElem_int Tryd.underlying3 (by decide)) (str_key hs)
  obtain ⟨c, rfl, hc, _⟩ := plainElem_int_inv Tryd.underlying3 hv
  have hc1 := congrArg Prod.fst hc
  simp only at hc1
  rw [h2] at hc1
  injection hc1 with hc1
  injection hc1 with _ hc1
  rw [hrun, h1, ← hc1]
theorem SMap.kept {w w' : World} {b n : Nat} {F : List UInt8 → Option Nat} (h : SMap w b n F) (hk : w'.heap[b]? = w.heap[b]?) : SMap w' b n F := by
  obtain ⟨D, ⟨es, cl, h1, h2, h3, h4⟩, hm, hat⟩ := h
  exact ⟨D, ⟨es, cl, hk.trans h1, h2, h3, h4⟩, hm, hat⟩
theorem SMap.lt {w : World} {b n : Nat} {F : List UInt8 → Option Nat} (h : SMap w b n F) : b < w.heap.size := by
  obtain ⟨D, h, _⟩ := h
  exact h.lt
theorem SMap.below {w w' : World} {b n B : Nat} {F : List UInt8 → Option Nat} (h : SMap w b n F) (hb : Below B w w') (hB : b < B) : SMap w' b n F := h.kept (hb.block b hB)
theorem SMap.drewN {w : World} {b n : Nat} {F : List UInt8 → Option Nat} (h : SMap w b n F) (k : Nat) : SMap (w.drewN k) b n F := h.kept rfl
theorem SMap.congr {w : World} {b n : Nat} {F F' : List UInt8 → Option Nat} (h : SMap w b n F) (e : ∀ k, F k = F' k) : SMap w b n F' := by
  obtain ⟨D, h1, h2, h3⟩ := h
  exact ⟨D, h1, h2, fun k hk => by rw [← e]; exact h3 k hk⟩
/-- The map's block is no block of cells. -/
theorem SMap.ne_blk {w : World} {b n g : Nat} {F : List UInt8 → Option Nat} {t : TypeId} {cs : Array Value} (h : SMap w b n F) (hg : Blk w g t cs) : b ≠ g := by
  obtain ⟨D, ⟨es, cl, h1, _⟩, _⟩ := h
  rintro rfl
  have h2 : w.heap[b]? = some (.cells cs t (0, 0)) := hg
  rw [h1] at h2
  cases h2
theorem SMap.ne_own {w : World} {b n B m size : Nat} {F : List UInt8 → Option Nat} {e : TypeId} {v : Value} {xs : List Value} (h : SMap w b n F) (ho : w.ownsRow B e size v m xs) : v.ownBlock ≠ some b := fun hh => by
  obtain ⟨cs, hc⟩ := own_blk ho hh
  exact h.ne_blk hc rfl
theorem wpList_smap_put (w : World) {ops : Array Oper} {rest : List Oper} {o : Oper} {a : Act} {Q : Exit → Act → World → Prop}
    (hg : o.guard = none) (m x v : Operand) (hop : o.op = Op.mapUpdate 62 m x v) (b n : Nat) (F : List UInt8 → Option Nat)
    (hm : a.eval m = .map (some b)) (h : SMap w b n F) (hn : n < maxLen) (s : ByteArray) (hs : s.size ≤ maxLen) (k : Nat) (hk : k ≤ 9223372036854775807) (hx : a.eval x = .string s) (hv : a.eval v = .int .i64 (k : Int))
    (hK : ∀ w', SMap w' b (n + 1) (fun j => if j = s.data.toList then some k else F j) → w.grownBy w' (some b) → wpList Tryd.prog ops Q rest (a.put o.dst undef) w') :
    wpList Tryd.prog ops Q (o :: rest) a w := by
  obtain ⟨D, hown, hM, hat⟩ := h
  refine wpList_mapUpdate_own w hg m x v _ hop 9 3 str_law Tryd.underlying62 RI b n D hm hown hn _ _ _ hx hv (str_key hs) _ [] (plainElem_int Tryd.underlying3 (i64_wf ⟨by omega, by omega⟩)) fun w' h1 h2 => hK w' ⟨_, h1, hM.put _ _, fun j hj => ?_⟩ h2
  by_cases e : j = s.data.toList
  · subst e
    rw [has_put_same hM (str_law.key (str_key hs)), atKey_put_same hM (str_law.key (str_key hs))]
    simp
  · have hne : Lit.string j ≠ Lit.string s.data.toList := by intro h; injection h with h; exact e h
    rw [has_put_other hne, atKey_put_other hne]
    simp only [if_neg e]
    exact hat j hj
end Go.Proofs.YthghnihlfdoefaaDoor

/- asm's reader: what it holds; an instruction. -/
namespace Go.Proofs.YthghnihlfdoefaaDoor
open Go.RowKit Go.Joins Go.ChangeShapes Go.WideShapes Go.Deep Go.Maps
set_option linter.unusedVariables false
set_option linter.unusedSimpArgs false
set_option maxRecDepth 100000

def insl (x : Ins) : List Value := [.int .i64 x.code, .int .i64 x.operand, .int .i64 x.pos, .string ⟨x.name.s.toArray⟩, .int .i64 x.name.pos]
theorem insl_len (x : Ins) : (insl x).length = 5 := rfl
theorem info_ins : (Tryd.prog.info? 73).map (fun i => (i.zero, i.size, i.bytes)) = some (some (.agg #[.int .i64 0, .int .i64 0, .int .i64 0, .string ⟨#[]⟩, .int .i64 0]), 5, 48) := by kernel_rfl
structure RdIs (B : Nat) (w : World) (rb mc ml : Nat) (lv : Value) (r : RSt) : Prop where
  blk : Blk w rb 65 #[.map (some mc), .map (some ml), lv, .int .i64 (r.size : Int)]
  codes : SMap w mc 41 codeF
  labs : SMap w ml r.labels.length (labF2 r.labels)
  own : w.ownsRow B 73 5 lv r.ins.length (rows insl r.ins)
  rbB : B ≤ rb
  mcB : B ≤ mc
  mlB : B ≤ ml
  ne : mc ≠ ml
  size : r.size ≤ 512
  len : r.ins.length ≤ r.size
theorem ins_cells {w : World} {B n : Nat} {A : Option Addr} {l : List Ins} (hT : Reads w B 5 A n (rows insl l)) (i : Nat) (hi : i < l.length) :
    ∃ b off q, A = some ⟨b, off, none⟩ ∧ b < B ∧ w.cell? ⟨b, off + i * 5, none⟩ = some (.int .i64 (l[i]).code) ∧ w.cell? ⟨b, off + i * 5 + 1, none⟩ = some (.int .i64 (l[i]).operand) ∧ w.cell? ⟨b, off + i * 5 + 2, none⟩ = some (.int .i64 (l[i]).pos) ∧
      w.cell? ⟨b, off + i * 5 + 3, none⟩ = some (.string q) ∧ w.cell? ⟨b, off + i * 5 + 4, none⟩ = some (.int .i64 (l[i]).name.pos) ∧ q = ⟨(l[i]).name.s.toArray⟩ ∧ i < n := by
  have hl := hT.1
  rw [rows_length insl 5 insl_len] at hl
  obtain ⟨b, off, rfl, hb, hc⟩ := reads_flat hT (by omega) (by omega)
  have key : ∀ (k : Nat) (v : Value), k < 5 → (insl (l[i]))[k]? = some v → w.cell? ⟨b, off + (i * 5 + k), none⟩ = some v := fun k v hk hv => hc (i * 5 + k) v ((rows_at insl 5 insl_len l i k hi hk).trans hv)
  exact ⟨b, off, _, rfl, hb, key 0 _ (by omega) rfl, key 1 _ (by omega) rfl, key 2 _ (by omega) rfl, key 3 _ (by omega) rfl, key 4 _ (by omega) rfl, rfl, by omega⟩
theorem size_tok (w : World) : (sizeOf 71).run Tryd.prog w = .ok 2 w := by kernel_rfl
theorem elem_tok : Tryd.prog.elem 68 = 71 := by kernel_rfl
/-- The tokens behind the first. -/
theorem tok_tail {w : World} {B n c : Nat} {A : Option Addr} {u : Tok} {rest : List Tok} (hT : Reads w B 2 A n (rows tkc (u :: rest))) (hc : n ≤ c) :
    ∃ A', (∀ W, (Instr.sliceAt 68 (.slice A n c) (some (.int .i64 1)) none none).run Tryd.prog W = .ok (.slice A' rest.length (c - 1)) W) ∧ Reads w B 2 A' rest.length (rows tkc rest) ∧ rest.length ≤ c - 1 := by
  have hl := hT.1
  rw [rows_length tkc 2 tkc_len, List.length_cons] at hl
  have hn : n = rest.length + 1 := by omega
  refine ⟨if c = 1 then A else A.map (·.add (1 * 2)), fun W => ?_, ?_, by omega⟩
  · rw [run_sliceAt_slice W _ _ _ _ _ (by rw [elem_tok]; exact Tryd.underlying68), run_slice_l W 68 A n c (by rw [elem_tok]; exact Tryd.underlying68) .i64 1 (by omega) (by omega), elem_tok, size_tok]
    show Result.ok (sliced A 1 n c 2) W = _
    unfold sliced
    rw [show n - 1 = rest.length by omega]
  · have := hT.cut (k := 1) (cap := c) (by omega) hc
    rw [show n - 1 = rest.length by omega] at this
    exact this
end Go.Proofs.YthghnihlfdoefaaDoor
