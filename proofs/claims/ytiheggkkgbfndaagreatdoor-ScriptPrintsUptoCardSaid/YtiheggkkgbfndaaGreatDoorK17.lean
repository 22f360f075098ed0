/- Maps that a call makes: from string to int. -/
import Derived.Test.YtiheggkkgbfndaaGreatDoorK07
import Derived.Test.YtiheggkkgbfndaaGreatDoorK05
import Derived.StringKeys
import Derived.Test.YtiheggkkgbfndaaGreatDoorK16
import Derived.Deep.QuietTactic
import Derived.BigQuiet
import Derived.StillTailTactics
import Derived.RangeFuncOwn
namespace Go.Proofs.YtiheggkkgbfndaaGreatDoor
open Go.RowKit Go.Joins Go.ChangeShapes Go.WideShapes Go.Deep Go.Maps
set_option linter.unusedVariables false
set_option linter.unusedSimpArgs false
set_option maxRecDepth 100000
theorem str_key {s : ByteArray} (h : s.size ≤ maxLen) : keyOf Tryz.prog 9 (.string s) = some (.string s.data.toList) := Go.WideMaps.keyOf_string_mk Tryz.underlying9 h
theorem str_law : Keyed Tryz.prog 9 := string_keyed Tryz.underlying9
noncomputable def RI : Value → Option (DataW Unit × List MemPlace) := plainElem Tryz.prog 3
def SMap (w : World) (b n : Nat) (F : List UInt8 → Option Nat) : Prop :=
 ∃ D, w.ownsMap Tryz.prog 9 RI b n D ∧ IsMap D ∧ ∀ s : List UInt8, s.length ≤ maxLen → Maps.has D (.string s) = (F s).isSome ∧ D.atKey (.string s) (.lit (.int .i64 0)) = .lit (.int .i64 (((F s).getD 0 : Nat) : Int))
theorem SMap.made (w : World) : SMap (w.alloc (.map #[] 0)) w.heap.size 0 (fun _ => none) := ⟨_, World.ownsMap_made w _ _ _, isMap_empty, fun _ _ => ⟨rfl, rfl⟩⟩
theorem SMap.look {w : World} {b n : Nat} {F : List UInt8 → Option Nat} (h : SMap w b n F) (s : ByteArray) (hs : s.size ≤ maxLen) :
  (Instr.lookup 194 (.map (some b)) (.string s) true).run Tryz.prog w = .ok (.tuple #[.int .i64 (((F s.data.toList).getD 0 : Nat) : Int), .bool (F s.data.toList).isSome]) w := by
 obtain ⟨D, hown, _, hat⟩ := h
 obtain ⟨h1, h2⟩ := hat s.data.toList (by rw [Array.length_toList]; exact hs)
 have hz : (zeroValue 3).run Tryz.prog w = .ok (.int .i64 0) w := Tryz.zeroValue3 w
 obtain ⟨v, ps, hrun, hv⟩ := hown.look_ok str_law Tryz.underlying194 hz (plainElem_int Tryz.underlying3 (by decide)) (str_key hs)
 obtain ⟨c, rfl, hc, _⟩ := plainElem_int_inv Tryz.underlying3 hv
 have hc1 := congrArg Prod.fst hc
 simp only at hc1
 rw [h2] at hc1
 injection hc1 with hc1
 injection hc1 with _ hc1
 rw [hrun, h1, ← hc1]
theorem SMap.kept {w w' : World} {b n : Nat} {F : List UInt8 → Option Nat} (h : SMap w b n F) (hk : w'.heap[b]? = w.heap[b]?) : SMap w' b n F := by
 obtain ⟨D, ⟨es, cl, h1, h2, h3, h4⟩, hm, hat⟩ := h
 exact ⟨D, ⟨es, cl, hk.trans h1, h2, h3, h4⟩, hm, hat⟩
theorem SMap.lt {w : World} {b n : Nat} {F : List UInt8 → Option Nat} (h : SMap w b n F) : b < w.heap.size := by
 obtain ⟨D, h, _⟩ := h
 exact h.lt
theorem SMap.below {w w' : World} {b n B : Nat} {F : List UInt8 → Option Nat} (h : SMap w b n F) (hb : Below B w w') (hB : b < B) : SMap w' b n F := h.kept (hb.block b hB)
theorem SMap.drewN {w : World} {b n : Nat} {F : List UInt8 → Option Nat} (h : SMap w b n F) (k : Nat) : SMap (w.drewN k) b n F := h.kept rfl
theorem SMap.congr {w : World} {b n : Nat} {F F' : List UInt8 → Option Nat} (h : SMap w b n F) (e : ∀ k, F k = F' k) : SMap w b n F' := by
 obtain ⟨D, h1, h2, h3⟩ := h
 exact ⟨D, h1, h2, fun k hk => by rw [← e]; exact h3 k hk⟩
theorem SMap.ne_blk {w : World} {b n g : Nat} {F : List UInt8 → Option Nat} {t : TypeId} {cs : Array Value} (h : SMap w b n F) (hg : Blk w g t cs) : b ≠ g := by
 obtain ⟨D, ⟨es, cl, h1, _⟩, _⟩ := h
 rintro rfl
 have h2 : w.heap[b]? = some (.cells cs t (0, 0)) := hg
 rw [h1] at h2
 cases h2
theorem SMap.ne_own {w : World} {b n B m size : Nat} {F : List UInt8 → Option Nat} {e : TypeId} {v : Value} {xs : List Value} (h : SMap w b n F) (ho : w.ownsRow B e size v m xs) : v.ownBlock ≠ some b := fun hh => by
 obtain ⟨cs, hc⟩ := own_blk ho hh
 exact h.ne_blk hc rfl
theorem wpList_smap_put (w : World) {ops : Array Oper} {rest : List Oper} {o : Oper} {a : Act} {Q : Exit → Act → World → Prop}
  (hg : o.guard = none) (m x v : Operand) (hop : o.op = Op.mapUpdate 194 m x v) (b n : Nat) (F : List UInt8 → Option Nat)
  (hm : a.eval m = .map (some b)) (h : SMap w b n F) (hn : n < maxLen) (s : ByteArray) (hs : s.size ≤ maxLen) (k : Nat) (hk : k ≤ 9223372036854775807) (hx : a.eval x = .string s) (hv : a.eval v = .int .i64 (k : Int))
  (hK : ∀ w', SMap w' b (n + 1) (fun j => if j = s.data.toList then some k else F j) → w.grownBy w' (some b) → wpList Tryz.prog ops Q rest (a.put o.dst undef) w') :
  wpList Tryz.prog ops Q (o :: rest) a w := by
 obtain ⟨D, hown, hM, hat⟩ := h
 refine wpList_mapUpdate_own w hg m x v _ hop 9 3 str_law Tryz.underlying194 RI b n D hm hown hn _ _ _ hx hv (str_key hs) _ [] (plainElem_int Tryz.underlying3 (i64_wf ⟨by omega, by omega⟩)) fun w' h1 h2 => hK w' ⟨_, h1, hM.put _ _, fun j hj => ?_⟩ h2
 by_cases e : j = s.data.toList
 ·subst e
  rw [has_put_same hM (str_law.key (str_key hs)), atKey_put_same hM (str_law.key (str_key hs))]
  simp
 ·have hne : Lit.string j ≠ Lit.string s.data.toList := by intro h; injection h with h; exact e h
  rw [has_put_other hne, atKey_put_other hne]
  simp only [if_neg e]
  exact hat j hj
def insl (x : Ins) : List Value := [.int .i64 x.code, .int .i64 x.operand, .int .i64 x.pos, .string ⟨x.name.s.toArray⟩, .int .i64 x.name.pos]
theorem insl_len (x : Ins) : (insl x).length = 5 := rfl
theorem info_ins : (Tryz.prog.info? 204).map (fun i => (i.zero, i.size, i.bytes)) = some (some (.agg #[.int .i64 0, .int .i64 0, .int .i64 0, .string ⟨#[]⟩, .int .i64 0]), 5, 48) := by kernel_rfl
structure RdIs (B : Nat) (w : World) (rb mc ml : Nat) (lv : Value) (r : RSt) : Prop where
 blk : Blk w rb 197 #[.map (some mc), .map (some ml), lv, .int .i64 (r.size : Int)]
 codes : SMap w mc 41 codeF
 labs : SMap w ml r.labels.length (labF2 r.labels)
 own : w.ownsRow B 204 5 lv r.ins.length (rows insl r.ins)
 rbB : B ≤ rb
 mcB : B ≤ mc
 mlB : B ≤ ml
 ne : mc ≠ ml
 size : r.size ≤ 512
 len : r.ins.length ≤ r.size
theorem ins_cells {w : World} {B n : Nat} {A : Option Addr} {l : List Ins} (hT : Reads w B 5 A n (rows insl l)) (i : Nat) (hi : i < l.length) :
  ∃ b off q, A = some ⟨b, off, none⟩ ∧ b < B ∧ w.cell? ⟨b, off + i * 5, none⟩ = some (.int .i64 (l[i]).code) ∧ w.cell? ⟨b, off + i * 5 + 1, none⟩ = some (.int .i64 (l[i]).operand) ∧ w.cell? ⟨b, off + i * 5 + 2, none⟩ = some (.int .i64 (l[i]).pos) ∧
   w.cell? ⟨b, off + i * 5 + 3, none⟩ = some (.string q) ∧ w.cell? ⟨b, off + i * 5 + 4, none⟩ = some (.int .i64 (l[i]).name.pos) ∧ q = ⟨(l[i]).name.s.toArray⟩ ∧ i < n := by
 have hl := hT.1
 rw [rows_length insl 5 insl_len] at hl
 obtain ⟨b, off, rfl, hb, hc⟩ := reads_flat hT (by omega) (by omega)
 have key : ∀ (k : Nat) (v : Value), k < 5 → (insl (l[i]))[k]? = some v → w.cell? ⟨b, off + (i * 5 + k), none⟩ = some v := fun k v hk hv => hc (i * 5 + k) v ((rows_at insl 5 insl_len l i k hi hk).trans hv)
 exact ⟨b, off, _, rfl, hb, key 0 _ (by omega) rfl, key 1 _ (by omega) rfl, key 2 _ (by omega) rfl, key 3 _ (by omega) rfl, key 4 _ (by omega) rfl, rfl, by omega⟩
theorem size_tok (w : World) : (sizeOf 202).run Tryz.prog w = .ok 2 w := by kernel_rfl
theorem elem_tok : Tryz.prog.elem 199 = 202 := by kernel_rfl
theorem tok_tail {w : World} {B n c : Nat} {A : Option Addr} {u : Tok} {rest : List Tok} (hT : Reads w B 2 A n (rows tkc (u :: rest))) (hc : n ≤ c) :
  ∃ A', (∀ W, (Instr.sliceAt 199 (.slice A n c) (some (.int .i64 1)) none none).run Tryz.prog W = .ok (.slice A' rest.length (c - 1)) W) ∧ Reads w B 2 A' rest.length (rows tkc rest) ∧ rest.length ≤ c - 1 := by
 have hl := hT.1
 rw [rows_length tkc 2 tkc_len, List.length_cons] at hl
 have hn : n = rest.length + 1 := by omega
 refine ⟨if c = 1 then A else A.map (·.add (1 * 2)), fun W => ?_, ?_, by omega⟩
 ·rw [run_sliceAt_slice W _ _ _ _ _ (by rw [elem_tok]; exact Tryz.underlying199), run_slice_l W 199 A n c (by rw [elem_tok]; exact Tryz.underlying199) .i64 1 (by omega) (by omega), elem_tok, size_tok]
  show Result.ok (sliced A 1 n c 2) W = _
  unfold sliced
  rw [show n - 1 = rest.length by omega]
 ·have := hT.cut (k := 1) (cap := c) (by omega) hc
  rw [show n - 1 = rest.length by omega] at this
  exact this
theorem RdIs.below {B B' : Nat} {w w' : World} {rb mc ml : Nat} {lv : Value} {r : RSt} (h : RdIs B w rb mc ml lv r) (hb : Below w.heap.size w w') : RdIs B w' rb mc ml lv r :=
 ⟨h.blk.below hb h.blk.lt, h.codes.below hb h.codes.lt, h.labs.below hb h.labs.lt, own_beb h.own hb, h.rbB, h.mcB, h.mlB, h.ne, h.size, h.len⟩
theorem codeF_lt {s : List UInt8} {c : Nat} (h : codeF s = some c) : c < 41 := List.mem_range.1 (List.mem_of_find?_eq_some h)
theorem rsize_snoc (labels : List (List UInt8 × Nat)) (r : RSt) (x : Ins) : RSt.size ⟨labels, r.ins ++ [x]⟩ = r.size + (1 + widthF (shapeF x.code)) := by
 unfold RSt.size
 rw [List.map_append]
 exact sizeF_snoc _ _
def RdS (rb ml : Nat) (lv : Value) (q : Nat) : Prop := q = rb ∨ q = ml ∨ lv.ownBlock = some q
theorem RdIs.appended {B : Nat} {w W2 WA w3 : World} {rb mc ml gg cap sz : Nat} {lv : Value} {r : RSt} {x : Ins} (hW : Frm w W2 (RdS rb ml lv)) (hA : Below W2.heap.size W2 WA) (hg : WA.grownBy w3 lv.ownBlock)
  (hR2 : Blk W2 rb 197 #[.map (some mc), .map (some ml), lv, .int .i64 (sz : Int)]) (hown : W2.ownsRow B 204 5 lv r.ins.length (rows insl r.ins)) (hR3 : Blk w3 rb 197 #[.map (some mc), .map (some ml), lv, .int .i64 (sz : Int)])
  (hown3 : w3.ownsRow B 204 5 (.slice (some ⟨gg, 0, none⟩) (r.ins.length + 1) cap) (r.ins.length + 1) (rows insl r.ins ++ insl x)) (hC : SMap W2 mc 41 codeF) (hL : SMap W2 ml r.labels.length (labF2 r.labels))
  (rm : B ≤ rb ∧ B ≤ mc ∧ B ≤ ml ∧ mc ≠ ml ∧ r.ins.length ≤ r.size) (hsz : sz = r.size + (1 + widthF (shapeF x.code))) (h512 : sz ≤ 512) (hB : B ≤ w.heap.size) :
  (Below B w (w3.setCell ⟨rb, 2, none⟩ (.slice (some ⟨gg, 0, none⟩) (r.ins.length + 1) cap)) ∧ Frm w (w3.setCell ⟨rb, 2, none⟩ (.slice (some ⟨gg, 0, none⟩) (r.ins.length + 1) cap)) (RdS rb ml lv)) ∧ RdIs B (w3.setCell ⟨rb, 2, none⟩ (.slice (some ⟨gg, 0, none⟩) (r.ins.length + 1) cap)) rb mc ml (.slice (some ⟨gg, 0, none⟩) (r.ins.length + 1) cap) ⟨r.labels, r.ins ++ [x]⟩ := by
 obtain ⟨h1, h2, h3, h4, h5⟩ := rm
 have hBW : B ≤ W2.heap.size := Nat.le_trans hB hW.size
 have hF : Frm w (w3.setCell ⟨rb, 2, none⟩ (.slice (some ⟨gg, 0, none⟩) (r.ins.length + 1) cap)) (RdS rb ml lv) :=
  ((hW.trans (Frm.of_below (S := fun _ => False) hA) fun q h => h.elim).grown hg fun q h => .inl (.inr (.inr h))).set rb 2 _ (.inl (.inl rfl))
 have hkeep : ∀ q, q < W2.heap.size → lv.ownBlock ≠ some q → q ≠ rb → (w3.setCell ⟨rb, 2, none⟩ (.slice (some ⟨gg, 0, none⟩) (r.ins.length + 1) cap)).heap[q]? = W2.heap[q]? := fun q hq ho hr =>
  (Below.heap_setCell w3 ⟨rb, 2, none⟩ _ q hr).trans ((hg.block q (Nat.lt_of_lt_of_le hq hA.size) (fun h => ho h.symm)).trans (hA.block q hq))
 refine ⟨⟨hF.below hB fun q h => ?_, hF⟩, ?_⟩
 ·rcases h with rfl | rfl | h
  ·exact h1
  ·exact h3
  ·exact (hown.lt q h).1
 refine ⟨?_, hC.kept (hkeep mc hC.lt (hC.ne_own hown) (hC.ne_blk hR2)), hL.kept (hkeep ml hL.lt (hL.ne_own hown) (hL.ne_blk hR2)), ?_, h1, h2, h3, h4, ?_, ?_⟩
 ·rw [rsize_snoc, ← hsz]
  exact hR3.set_ 2 _
 ·rw [List.length_append, rows_snoc]
  exact own_set hown3 hR3 (by decide) _
 ·rw [rsize_snoc, ← hsz]; exact h512
 ·rw [rsize_snoc, List.length_append, List.length_singleton]; omega
def operL (r : RSt) (u : Tok) (k : Nat) : List Tok → Except (Nat × Nat) RSt
 | [] => .error (9, u.pos + u.s.length)
 | u' :: rest' => match oprL k u' with
  | .error e => .error (e, u'.pos)
  | .ok (o, nm) => endL r u k o nm rest'
theorem operL_err {r : RSt} {u u2 : Tok} {rest : List Tok} {k e : Nat} (h : oprL k u2 = .error e) : operL r u k (u2 :: rest) = .error (e, u2.pos) := by
 unfold operL
 simp only [h]
theorem operL_ok {r : RSt} {u u2 nm : Tok} {rest : List Tok} {k : Nat} {o : Int} (h : oprL k u2 = .ok (o, nm)) : operL r u k (u2 :: rest) = endL r u k o nm rest := by
 unfold operL
 simp only [h]
theorem insL_code {r : RSt} {u : Tok} {rest : List Tok} {k wd : Nat} (h : codeF u.s = some k) (hw : wd = widthF (shapeF k)) : insL r u rest = if 0 < wd then operL r u k rest else endL r u k 0 noTok rest := by
 subst hw
 unfold insL
 rw [h]
 cases rest <;> rfl
def insPost (B : Nat) (w : World) (rb mc ml : Nat) (lv : Value) (x : Except (Nat × Nat) RSt) (e : Ending) (w' : World) : Prop := Below B w w' ∧ match x with
 | .error y => e = .panicked [{ v := faultV y.1 y.2, recovered := false }]
 | .ok r' => e = .returned (.tuple #[]) ∧ ∃ lv', RdIs B w' rb mc ml lv' r' ∧ Frm w w' (RdS rb ml lv)
set_option maxHeartbeats 4000000 in
theorem instr_asm {B : Nat} {w : World} (hE : EnvP B w) {rb mc ml : Nat} {lv : Value} {r : RSt} (hR : RdIs B w rb mc ml lv r) (u : Tok) (rest : List Tok) (A : Option Addr) (n c : Nat)
  (hT : Reads w w.heap.size 2 A n (rows tkc (u :: rest))) (hc : n ≤ c) (hu : ∀ t ∈ u :: rest, t.s.length ≤ 4294967296 ∧ t.pos ≤ 4294967296) (hn : n ≤ 4294967296) :
  Calls Tryz.prog 162 #[.pointer (some ⟨rb, 0, none⟩), .slice A n c] w (insPost B w rb mc ml lv (insL r u rest)) := by
 obtain ⟨A1, hsl, hT1, hc1⟩ := tok_tail hT hc
 have hl := hT.1
 rw [rows_length tkc 2 tkc_len, List.length_cons] at hl
 have hnl : n = rest.length + 1 := by omega
 obtain ⟨bt, off, rfl, hbt, hcell⟩ := reads_flat hT (by omega) (by omega)
 obtain ⟨s, hs⟩ : ∃ s : ByteArray, s = ⟨u.s.toArray⟩ := ⟨_, rfl⟩
 have c0 : w.cell? ⟨bt, off, none⟩ = some (.string s) := hs ▸ hcell 0 _ rfl
 have c1 : w.cell? ⟨bt, off + 1, none⟩ = some (.int .i64 u.pos) := hcell 1 _ rfl
 have hsl2 : s.data.toList = u.s := by rw [hs]
 have hu1 := hu u (List.mem_cons_self ..)
 have hss : s.size ≤ maxLen := by
  have : s.size = s.data.toList.length := Array.length_toList.symm
  rw [this, hsl2]; unfold maxLen; omega
 have hlk := fun nq => (hR.codes.drewN nq).look s hss
 rw [hsl2] at hlk
 have r0 : w.cell? ⟨rb, 0, none⟩ = some (.map (some mc)) := (hR.blk.cell 0).trans rfl
 have r2 : w.cell? ⟨rb, 2, none⟩ = some lv := (hR.blk.cell 2).trans rfl
 have r3 : w.cell? ⟨rb, 3, none⟩ = some (.int .i64 (r.size : Int)) := (hR.blk.cell 3).trans rfl
 have hrl := hR.blk.lt
 have HS := Lib.hid hs
 have HSL2 := Lib.hid hsl2
 have HNL := Lib.hid hnl
 have HRS := Lib.hid hR.size
 have hn1 : 1 ≤ n := by omega
 clear hs hsl2 hnl hl hcell
 cases hcode : codeF u.s with
 | none =>
  have HI : Hid (insL r u rest = .error (9, u.pos)) := Lib.hid (by unfold insL; rw [hcode])
  simp only [hcode] at hlk
  clear hcode
  go_enter Tryz.func162, Tryz.ntmps162
  go_upto_region 0 with fail
  go_quiet (fail)
  go_wp2_with (go_at_call 139; refine (fail_any _ _ _).mono ?_; rintro r w2 ⟨hr, hw⟩; subst hr; subst hw)
  refine ⟨rfl, below_drewN (Below.refl _ _) _, ?_⟩
  rw [HI.out]
  rfl
 | some k =>
  have hk := codeF_lt hcode
  have HCO := Lib.hid hcode
  simp only [hcode] at hlk
  clear hcode
  go_enter Tryz.func162, Tryz.ntmps162
  go_upto_region 0 with fail
  go_quiet (fail)
  go_upto_region 3 with fail
  obtain ⟨wq, hwq⟩ : ∃ wq, wq = w.drewN nq := ⟨_, rfl⟩
  rw [← hwq]
  have hBq : Below w.heap.size w wq := hwq ▸ below_drewN (Below.refl _ _) _
  have hRq := hR.below (B' := B) hBq
  have hEq : EnvP B wq := hE.below (hBq.mono hE.size)
  have hzq : wq.heap.size = w.heap.size := by rw [hwq]; rfl
  have HT1 := Lib.hid (hT1.below hBq)
  have c0 : wq.cell? ⟨bt, off, none⟩ = some (.string s) := hwq ▸ c0
  have c1 : wq.cell? ⟨bt, off + 1, none⟩ = some (.int .i64 u.pos) := hwq ▸ c1
  have r3 : wq.cell? ⟨rb, 3, none⟩ = some (.int .i64 (r.size : Int)) := (hRq.blk.cell 3).trans rfl
  have hrl : rb < wq.heap.size := hRq.blk.lt
  have hbt : bt < wq.heap.size := by omega
  have HBQ := Lib.hid hBq
  have HZQ := Lib.hid hzq
  clear hlk hT1 hT hBq hzq hwq
  go_upto_region 4 with fail
  have HBY := Lib.hid (fun W hS => bytes_c k hk W hS)
  obtain ⟨wd, hwd⟩ : ∃ wd, wd = widthF (shapeF k) := ⟨_, rfl⟩
  rw [← hwd] at HBY
  have hw8 : wd ≤ 8 := by rw [hwd]; unfold widthF; split <;> (try split) <;> (try split) <;> omega
  have HWD := Lib.hid hwd
  have hBx : Below wq.heap.size wq (wq.alloc (.cells #[.int .i64 k, .int .i64 0, .int .i64 r.size, .string ⟨#[]⟩, .int .i64 0] 204)) := (Below.refl _ _).alloc (Nat.le_refl _) _
  have hXB : Blk (wq.alloc (.cells #[.int .i64 k, .int .i64 0, .int .i64 r.size, .string ⟨#[]⟩, .int .i64 0] 204)) wq.heap.size 204 (insC k 0 r.size noTok) := Blk.new wq _ _
  have hEx := hEq.below (hBx.mono hEq.size)
  have HRX := Lib.hid hRq
  clear hwd
  go_upto_region 6 with (first | (go_at_call 65; refine (HBY.out _ hEx.env.here.shapes).mono ?_; rintro e w1 ⟨rfl, hb1⟩) | (refine wpList_slice_g rfl 199 (.tmp 37) (some (.const (.int .i64 1))) none rfl rfl rfl rfl (hsl _) ?_))
  obtain ⟨xb, hxb⟩ : ∃ xb, xb = wq.heap.size := ⟨_, rfl⟩
  rw [← hxb] at hXB ⊢
  have hq1 : Below wq.heap.size wq w1 := hBx.trans (hb1.mono (by simp))
  have hRt := HRX.out.below (B' := B) hq1
  have hXt := hXB.below hb1 (by simp; omega)
  have hEw := hEq.below (hq1.mono hEq.size)
  have hlw : w.heap.size ≤ w1.heap.size := by have := hq1.size; have := HZQ.out; omega
  have HW0 : Hid (w.heap.size ≤ w1.heap.size) := Lib.hid hlw
  have HTT := Lib.hid (HT1.out.below (hq1.mono (by have := HZQ.out; omega)))
  have c0 : w1.cell? ⟨bt, off, none⟩ = some (.string s) := (hq1.cell (p := ⟨bt, off, none⟩) hbt).trans c0
  have c1 : w1.cell? ⟨bt, off + 1, none⟩ = some (.int .i64 u.pos) := (hq1.cell (p := ⟨bt, off + 1, none⟩) hbt).trans c1
  have hbt1 : bt < w1.heap.size := Nat.lt_of_lt_of_le hbt hq1.size
  have hbw : Below w.heap.size w w1 := HBQ.out.trans (hq1.mono (by have := HZQ.out; omega))
  have HXL : Hid (w.heap.size ≤ xb) := Lib.hid (by have := HZQ.out; omega)
  have hins := insL_code (r := r) (rest := rest) HCO.out HWD.out
  have HQ1 := Lib.hid hq1
  have HQX : Hid (wq.heap.size ≤ xb) := Lib.hid (by rw [hxb]; exact Nat.le_refl _)
  have HSS : Hid (s.size = u.s.length) := Lib.hid (by rw [← HSL2.out, Array.length_toList]; rfl)
  have hs47 : u.pos + s.size ≤ 9223372036854775807 := by have := HSS.out; omega
  clear hBx hXB hEx hb1 hxb r3 hrl hq1 hsl hEq hR
  by_cases hwd : 0 < wd
  ·have f1 : decide ((1 : Int) < 1 + (wd : Int)) = true := decide_eq_true (by omega)
   rw [if_pos hwd] at hins
   have HINS := Lib.hid hins
   clear hins hwd
   cases rest with
   | nil =>
    have HI : Hid (insL r u [] = .error (9, u.pos + u.s.length)) := Lib.hid HINS.out
    have HW := Lib.hid hbw
    clear hbw
    go_wp2_with (first | (go_at_call 170; refine (end_any s u.pos hs47 _).mono ?_; rintro e w2 ⟨rfl, hb2⟩) | (go_at_call 139; refine (fail_any _ _ _).mono ?_; rintro r w2 ⟨hr, hw⟩; subst hr; subst hw))
    refine ⟨rfl, (HW.out.mono hE.size).trans (hb2.mono (Nat.le_trans hE.size hlw)), ?_⟩
    rw [HI.out]
    show _ = Ending.panicked [{ v := faultV ((9 : Nat) : Int) ((u.pos + u.s.length : Nat) : Int), recovered := false }]
    rw [← HSS.out, Int.natCast_add]
    rfl
   | cons u2 rest2 =>
    obtain ⟨A2, hsl2x, hT2, hc2⟩ := tok_tail HTT.out hc1
    obtain ⟨b2, o2, rfl, hb2, hcell2⟩ := reads_flat HTT.out (by simp) (by omega)
    obtain ⟨s2, hs2⟩ : ∃ s2 : ByteArray, s2 = ⟨u2.s.toArray⟩ := ⟨_, rfl⟩
    have y0 : w1.cell? ⟨b2, o2, none⟩ = some (.string s2) := hs2 ▸ hcell2 0 _ rfl
    have y1 : w1.cell? ⟨b2, o2 + 1, none⟩ = some (.int .i64 u2.pos) := hcell2 1 _ rfl
    have hb2w : b2 < w1.heap.size := Nat.lt_of_lt_of_le hb2 hlw
    have hu2 := hu u2 (by simp)
    have HOP := Lib.hid (operand_asm hEw k hk r.size u2 hu2.1 xb (by have := HXL.out; have := hE.size; omega) hXt)
    rw [← hs2] at HOP
    obtain ⟨nx, hnx⟩ : ∃ nx, nx = (u2 :: rest2).length := ⟨_, rfl⟩
    have hn0 : 1 ≤ nx := by rw [hnx]; simp
    have g1 : ((nx : Int) == 0) = false := by simp; omega
    rw [← hnx] at hsl2x ⊢
    have HNX := Lib.hid hnx
    have HW1 := Lib.hid hbw
    clear hcell2 hs2 hnx hbw
    cases hop : oprL k u2 with
    | error e =>
     have HI : Hid (insL r u (u2 :: rest2) = .error (e, u2.pos)) := Lib.hid (HINS.out.trans (operL_err hop))
     have HOP2 : Hid (Calls Tryz.prog 171 #[.pointer (some ⟨xb, 0, none⟩), .agg #[.string s2, .int .i64 u2.pos]] w1 fun r w' => Frm w1 w' (fun q => q = xb) ∧ r = .panicked [{ v := faultV e u2.pos, recovered := false }]) := Lib.hid (HOP.out.mono fun r w' h => ⟨h.1, by have := h.2; rw [hop] at this; exact this⟩)
     clear hop HOP
     go_wp2_with (go_at_call 171; refine HOP2.out.mono ?_; rintro e w2 ⟨hF, rfl⟩)
     refine ⟨rfl, (HW1.out.mono hE.size).trans (hF.below (Nat.le_trans hE.size hlw) (fun q h => h ▸ Nat.le_trans hE.size HXL.out)), ?_⟩
     rw [HI.out]
    | ok z =>
     obtain ⟨o, nm⟩ := z
     have hdone : insL r u (u2 :: rest2) = endL r u k o nm rest2 := HINS.out.trans (operL_ok hop)
     have HOP2 : Hid (Calls Tryz.prog 171 #[.pointer (some ⟨xb, 0, none⟩), .agg #[.string s2, .int .i64 u2.pos]] w1 fun r' w' => Frm w1 w' (fun q => q = xb) ∧ r' = .returned (.tuple #[]) ∧ Blk w' xb 204 (insC k o r.size nm)) := Lib.hid (HOP.out.mono fun r w' h => ⟨h.1, by have := h.2; rw [hop] at this; exact this⟩)
     have HD := Lib.hid hdone
     clear hop HOP hdone
     go_upto_region 11 with (first | (go_at_call 171; refine HOP2.out.mono ?_; rintro e w2 ⟨hF, rfl, hX2⟩) | (refine wpList_slice_g rfl 199 (.tmp 53) (some (.const (.int .i64 1))) none rfl rfl rfl rfl (hsl2x _) ?_))
     have hb2q : Below wq.heap.size w1 w2 := hF.below HQ1.out.size (fun q h => h ▸ HQX.out)
     have hRt := HRX.out.below (B' := B) (HQ1.out.trans hb2q)
     have hXt := hX2
     have hzw : w.heap.size ≤ wq.heap.size := HBQ.out.size
     have hbw : Below w.heap.size w w2 := HW1.out.trans (hb2q.mono hzw)
     have hlw2 : w.heap.size ≤ w2.heap.size := Nat.le_trans hlw hF.size
     have HW0 : Hid (w.heap.size ≤ w2.heap.size) := Lib.hid hlw2
     have HTT := Lib.hid (hT2.below (hb2q.mono hzw))
     have c0 : w2.cell? ⟨bt, off, none⟩ = some (.string s) := (hb2q.cell (p := ⟨bt, off, none⟩) hbt).trans c0
     have c1 : w2.cell? ⟨bt, off + 1, none⟩ = some (.int .i64 u.pos) := (hb2q.cell (p := ⟨bt, off + 1, none⟩) hbt).trans c1
     have hbt1 : bt < w2.heap.size := Nat.lt_of_lt_of_le hbt1 hF.size
     have hdone := HD.out
     have hut : ∀ t ∈ rest2, t.s.length ≤ 4294967296 ∧ t.pos ≤ 4294967296 := fun t ht => hu t (List.mem_cons_of_mem _ (List.mem_cons_of_mem _ ht))
     clear hF hX2 hT2 hb2q hsl2x y0 y1 hzw hlw2
     have HHD := Lib.hid hdone
     have r3 : (w2).cell? ⟨rb, 3, none⟩ = some (.int .i64 (r.size : Int)) := (hRt.blk.cell 3).trans rfl
     have hrl : rb < (w2).heap.size := hRt.blk.lt
     have HRT := Lib.hid hRt
     have HXT := Lib.hid hXt
     have HW := Lib.hid hbw
     have HU : Hid (∀ t ∈ rest2, t.s.length ≤ 4294967296 ∧ t.pos ≤ 4294967296) := Lib.hid hut
     clear hdone hRt hXt hbw hut
     cases rest2 with
     | cons x rx =>
      have HI := Lib.hid (HHD.out.trans (show endL r u k (o) nm (x :: rx) = .error (9, x.pos) from rfl))
      obtain ⟨b2, o2, rfl, hb2, hcell2⟩ := reads_flat HTT.out (by simp) (by omega)
      have x1 : (w2).cell? ⟨b2, o2 + 1, none⟩ = some (.int .i64 x.pos) := hcell2 1 _ rfl
      have hb2w : b2 < (w2).heap.size := Nat.lt_of_lt_of_le hb2 HW0.out
      have g1 : decide ((0 : Int) < ((x :: rx).length : Int)) = true := decide_eq_true (by rw [List.length_cons]; omega)
      have g2 : decide (0 < (x :: rx).length) = true := decide_eq_true (by simp)
      have hlx : 0 < (x :: rx).length := by simp
      obtain ⟨nx, hnx⟩ : ∃ nx, nx = (x :: rx).length := ⟨_, rfl⟩
      rw [← hnx] at g1 g2 hlx ⊢
      clear hcell2 hnx
      go_wp2_with (go_at_call 139; refine (fail_any _ _ _).mono ?_; rintro r w2 ⟨hr, hw⟩; subst hr; subst hw)
      refine ⟨rfl, HW.out.mono hE.size, ?_⟩
      rw [HI.out]
      rfl
     | nil =>
      by_cases hfull : 512 < r.size + (1 + wd)
      ·have HI := Lib.hid (HHD.out.trans (show endL r u k (o) nm [] = .error (2, u.pos) by unfold endL; rw [← HWD.out, if_pos hfull]))
       have q1 : decide ((512 : Int) < (r.size : Int) + (1 + (wd : Int))) = true := decide_eq_true (by omega)
       have hrs := HRS.out
       clear hfull
       go_wp2_with (go_at_call 139; refine (fail_any _ _ _).mono ?_; rintro r w2 ⟨hr, hw⟩; subst hr; subst hw)
       refine ⟨rfl, HW.out.mono hE.size, ?_⟩
       rw [HI.out]
       rfl
      ·have HI := Lib.hid (HHD.out.trans (show endL r u k (o) nm [] = .ok ⟨r.labels, r.ins ++ [⟨k, o, r.size, nm⟩]⟩ by unfold endL; rw [← HWD.out, if_neg hfull]))
       have q1 : decide ((512 : Int) < (r.size : Int) + (1 + (wd : Int))) = false := decide_eq_false (by omega)
       have hrs := HRS.out
       have f3 : (w2).frozen? ⟨rb, 3, none⟩ = false := HRT.out.blk.frozen 3
       have HF := Lib.hid hfull
       clear hfull
       go_upto_region 16 with fail
       obtain ⟨sz, hsz⟩ : ∃ sz, sz = r.size + (1 + wd) := ⟨_, rfl⟩
       obtain ⟨W2, hW2⟩ : ∃ W2, W2 = (w2).setCell ⟨rb, 3, none⟩ (.int .i64 ((r.size : Int) + (1 + (wd : Int)))) := ⟨_, rfl⟩
       rw [← hW2]
       have hR2 : Blk W2 rb 197 #[.map (some mc), .map (some ml), lv, .int .i64 (sz : Int)] := by
        rw [hW2, hsz]
        have := HRT.out.blk.set_ 3 (.int .i64 ((r.size : Int) + (1 + (wd : Int))))
        rw [show (((r.size + (1 + wd) : Nat)) : Int) = (r.size : Int) + (1 + (wd : Int)) by omega]
        exact this
       have hX2 : Blk W2 xb 204 (insC k o r.size nm) := hW2 ▸ HXT.out.far (p := ⟨rb, 3, none⟩) (HXT.out.ne_ HRT.out.blk (by decide)) _
       have hown : W2.ownsRow B 204 5 lv r.ins.length (rows insl r.ins) := hW2 ▸ own_set HRT.out.own HRT.out.blk (by decide) _
       have HC2 : Hid (SMap W2 mc 41 codeF) := Lib.hid (HRT.out.codes.kept (by rw [hW2]; exact Below.heap_setCell _ ⟨rb, 3, none⟩ _ mc (HRT.out.codes.ne_blk HRT.out.blk)))
       have HL2 : Hid (SMap W2 ml r.labels.length (labF2 r.labels)) := Lib.hid (HRT.out.labs.kept (by rw [hW2]; exact Below.heap_setCell _ ⟨rb, 3, none⟩ _ ml (HRT.out.labs.ne_blk HRT.out.blk)))
       have HW2 : Hid (Frm w W2 (RdS rb ml lv)) := Lib.hid (hW2 ▸ (Frm.of_below (S := RdS rb ml lv) HW.out).set rb 3 _ (.inl (.inl rfl)))
       have HSZ := Lib.hid hsz
       have HRM := Lib.hid (And.intro HRT.out.rbB (And.intro HRT.out.mcB (And.intro HRT.out.mlB (And.intro HRT.out.ne HRT.out.len))))
       have hwB : B ≤ w.heap.size := hE.size
       have hWB : B ≤ W2.heap.size := Nat.le_trans hwB HW2.out.size
       have m2 : W2.cell? ⟨rb, 2, none⟩ = some lv := (hR2.cell 2).trans rfl
       have n0 : W2.cell? ⟨xb, 0, none⟩ = some (.int .i64 k) := (hX2.cell 0).trans rfl
       obtain ⟨ov, hov⟩ : ∃ ov : Int, ov = o := ⟨_, rfl⟩
       obtain ⟨sv, hsv⟩ : ∃ sv : ByteArray, sv = ⟨(nm).s.toArray⟩ := ⟨_, rfl⟩
       obtain ⟨np, hnp⟩ : ∃ np : Int, np = (nm).pos := ⟨_, rfl⟩
       have HXS : Hid (insl ⟨k, o, r.size, nm⟩ = [.int .i64 k, .int .i64 ov, .int .i64 r.size, .string sv, .int .i64 np]) := Lib.hid (by rw [hov, hsv, hnp]; rfl)
       have n1 : W2.cell? ⟨xb, 1, none⟩ = some (.int .i64 ov) := hov ▸ (hX2.cell 1).trans rfl
       have n2 : W2.cell? ⟨xb, 2, none⟩ = some (.int .i64 r.size) := (hX2.cell 2).trans rfl
       have n3 : W2.cell? ⟨xb, 3, none⟩ = some (.string sv) := hsv ▸ (hX2.cell 3).trans rfl
       have n4 : W2.cell? ⟨xb, 4, none⟩ = some (.int .i64 np) := hnp ▸ (hX2.cell 4).trans rfl
       have hxl : xb < W2.heap.size := hX2.lt
       have hrl2 : rb < W2.heap.size := hR2.lt
       have hnb := own_ne_blk hown hR2 (by decide)
       have hlen := HRT.out.len
       have hc63 : r.ins.length + 1 ≤ maxLen := by unfold maxLen; omega
       have hcby : (r.ins.length + 1) * 48 ≤ 140737488355328 := by omega
       have h1c : ∀ v ∈ [Value.int .i64 k, .int .i64 ov, .int .i64 r.size, .string sv, .int .i64 np], v.oneCell' = true := by intro v hv; simp at hv; rcases hv with rfl | rfl | rfl | rfl | rfl <;> rfl
       obtain ⟨i0, hi, hz0, hz1, hz2⟩ := info_parts info_ins
       clear hW2 hsz r3 hrl f3 c0 c1 q1 hov hsv hnp
       go_region_law
        (refine step_append_lies _ (by rfl) _ _ _ (by rfl) B 204 i0 _ 5 48 Tryz.underlying195 hi hz0 hz1 hz2 rfl (by omega) lv r.ins.length (rows insl r.ins) (by rfl) (show _ from hown.alloc _)
          ⟨W2.heap.size, 0, none⟩ 1 1 [.int .i64 k, .int .i64 ov, .int .i64 r.size, .string sv, .int .i64 np] (by rfl) (by rfl) (World.news_of_block (cs := #[.int .i64 k, .int .i64 ov, .int .i64 r.size, .string sv, .int .i64 np]) (t := 204) (fr := (0, 0)) (heap_alloc_new W2 _)) h1c
          (by omega) hc63 hcby (by simp; omega) (W2.heap.size + 1) (by simp) ?_; intro gg cap w3 hown3 hgrow hat hlt3; have hR3 : Blk w3 rb 197 #[.map (some mc), .map (some ml), lv, .int .i64 (sz : Int)] := (hgrow.block rb (by simp; omega) (fun hh => hnb hh.symm)).trans ((Below.heap_alloc W2 _ rb hrl2).trans hR2); have m23 : w3.cell? ⟨rb, 2, none⟩ = some lv := (hR3.cell 2).trans rfl; have f23 : w3.frozen? ⟨rb, 2, none⟩ = false := hR3.frozen 2; have hrl3 : rb < w3.heap.size := hR3.lt)
       all_goals go_wp2_with fail
       all_goals go_end0
       all_goals (rw [← HXS.out] at hown3)
       all_goals (have hfin := RdIs.appended HW2.out (by first | exact ((Below.refl _ _).alloc (Nat.le_refl _) _).drew | exact ((Below.refl _ _).drew.alloc (Nat.le_refl _) _) | exact ((Below.refl _ _).alloc (Nat.le_refl _) _)) hgrow hR2 hown hR3 hown3 HC2.out HL2.out HRM.out (HSZ.out.trans (by rw [HWD.out])) (by have := HSZ.out; have := HF.out; omega) hwB)
       all_goals (refine ⟨hfin.1.1, ?_⟩)
       all_goals (rw [HI.out])
       all_goals exact ⟨rfl, _, hfin.2, hfin.1.2⟩
  ·have f1 : decide ((1 : Int) < 1 + (wd : Int)) = false := decide_eq_false (by omega)
   rw [if_neg hwd] at hins
   have hut : ∀ t ∈ rest, t.s.length ≤ 4294967296 ∧ t.pos ≤ 4294967296 := fun t ht => hu t (List.mem_cons_of_mem _ ht)
   obtain ⟨rt, hrt⟩ : ∃ rt, rt = rest := ⟨_, rfl⟩
   rw [← hrt] at hut HTT hc1
   have hdone : insL r u rest = endL r u k 0 noTok rt := hrt ▸ hins
   have hc2 : rt.length ≤ c - 1 := hrt ▸ hc1
   have hnr : rest.length = rt.length := by rw [hrt]
   rw [hnr]
   clear hins hwd hrt hc1 hnr
   have HHD := Lib.hid hdone
   have r3 : (w1).cell? ⟨rb, 3, none⟩ = some (.int .i64 (r.size : Int)) := (hRt.blk.cell 3).trans rfl
   have hrl : rb < (w1).heap.size := hRt.blk.lt
   have HRT := Lib.hid hRt
   have HXT := Lib.hid hXt
   have HW := Lib.hid hbw
   have HU : Hid (∀ t ∈ rt, t.s.length ≤ 4294967296 ∧ t.pos ≤ 4294967296) := Lib.hid hut
   clear hdone hRt hXt hbw hut
   cases rt with
   | cons x rx =>
    have HI := Lib.hid (HHD.out.trans (show endL r u k (0) noTok (x :: rx) = .error (9, x.pos) from rfl))
    obtain ⟨b2, o2, rfl, hb2, hcell2⟩ := reads_flat HTT.out (by simp) (by omega)
    have x1 : (w1).cell? ⟨b2, o2 + 1, none⟩ = some (.int .i64 x.pos) := hcell2 1 _ rfl
    have hb2w : b2 < (w1).heap.size := Nat.lt_of_lt_of_le hb2 HW0.out
    have g1 : decide ((0 : Int) < ((x :: rx).length : Int)) = true := decide_eq_true (by rw [List.length_cons]; omega)
    have g2 : decide (0 < (x :: rx).length) = true := decide_eq_true (by simp)
    have hlx : 0 < (x :: rx).length := by simp
    obtain ⟨nx, hnx⟩ : ∃ nx, nx = (x :: rx).length := ⟨_, rfl⟩
    rw [← hnx] at g1 g2 hlx ⊢
    clear hcell2 hnx
    go_wp2_with (go_at_call 139; refine (fail_any _ _ _).mono ?_; rintro r w2 ⟨hr, hw⟩; subst hr; subst hw)
    refine ⟨rfl, HW.out.mono hE.size, ?_⟩
    rw [HI.out]
    rfl
   | nil =>
    by_cases hfull : 512 < r.size + (1 + wd)
    ·have HI := Lib.hid (HHD.out.trans (show endL r u k (0) noTok [] = .error (2, u.pos) by unfold endL; rw [← HWD.out, if_pos hfull]))
     have q1 : decide ((512 : Int) < (r.size : Int) + (1 + (wd : Int))) = true := decide_eq_true (by omega)
     have hrs := HRS.out
     clear hfull
     go_wp2_with (go_at_call 139; refine (fail_any _ _ _).mono ?_; rintro r w2 ⟨hr, hw⟩; subst hr; subst hw)
     refine ⟨rfl, HW.out.mono hE.size, ?_⟩
     rw [HI.out]
     rfl
    ·have HI := Lib.hid (HHD.out.trans (show endL r u k (0) noTok [] = .ok ⟨r.labels, r.ins ++ [⟨k, 0, r.size, noTok⟩]⟩ by unfold endL; rw [← HWD.out, if_neg hfull]))
     have q1 : decide ((512 : Int) < (r.size : Int) + (1 + (wd : Int))) = false := decide_eq_false (by omega)
     have hrs := HRS.out
     have f3 : (w1).frozen? ⟨rb, 3, none⟩ = false := HRT.out.blk.frozen 3
     have HF := Lib.hid hfull
     clear hfull
     go_upto_region 16 with fail
     obtain ⟨sz, hsz⟩ : ∃ sz, sz = r.size + (1 + wd) := ⟨_, rfl⟩
     obtain ⟨W2, hW2⟩ : ∃ W2, W2 = (w1).setCell ⟨rb, 3, none⟩ (.int .i64 ((r.size : Int) + (1 + (wd : Int)))) := ⟨_, rfl⟩
     rw [← hW2]
     have hR2 : Blk W2 rb 197 #[.map (some mc), .map (some ml), lv, .int .i64 (sz : Int)] := by
      rw [hW2, hsz]
      have := HRT.out.blk.set_ 3 (.int .i64 ((r.size : Int) + (1 + (wd : Int))))
      rw [show (((r.size + (1 + wd) : Nat)) : Int) = (r.size : Int) + (1 + (wd : Int)) by omega]
      exact this
     have hX2 : Blk W2 xb 204 (insC k 0 r.size noTok) := hW2 ▸ HXT.out.far (p := ⟨rb, 3, none⟩) (HXT.out.ne_ HRT.out.blk (by decide)) _
     have hown : W2.ownsRow B 204 5 lv r.ins.length (rows insl r.ins) := hW2 ▸ own_set HRT.out.own HRT.out.blk (by decide) _
     have HC2 : Hid (SMap W2 mc 41 codeF) := Lib.hid (HRT.out.codes.kept (by rw [hW2]; exact Below.heap_setCell _ ⟨rb, 3, none⟩ _ mc (HRT.out.codes.ne_blk HRT.out.blk)))
     have HL2 : Hid (SMap W2 ml r.labels.length (labF2 r.labels)) := Lib.hid (HRT.out.labs.kept (by rw [hW2]; exact Below.heap_setCell _ ⟨rb, 3, none⟩ _ ml (HRT.out.labs.ne_blk HRT.out.blk)))
     have HW2 : Hid (Frm w W2 (RdS rb ml lv)) := Lib.hid (hW2 ▸ (Frm.of_below (S := RdS rb ml lv) HW.out).set rb 3 _ (.inl (.inl rfl)))
     have HSZ := Lib.hid hsz
     have HRM := Lib.hid (And.intro HRT.out.rbB (And.intro HRT.out.mcB (And.intro HRT.out.mlB (And.intro HRT.out.ne HRT.out.len))))
     have hwB : B ≤ w.heap.size := hE.size
     have hWB : B ≤ W2.heap.size := Nat.le_trans hwB HW2.out.size
     have m2 : W2.cell? ⟨rb, 2, none⟩ = some lv := (hR2.cell 2).trans rfl
     have n0 : W2.cell? ⟨xb, 0, none⟩ = some (.int .i64 k) := (hX2.cell 0).trans rfl
     obtain ⟨ov, hov⟩ : ∃ ov : Int, ov = 0 := ⟨_, rfl⟩
     obtain ⟨sv, hsv⟩ : ∃ sv : ByteArray, sv = ⟨(noTok).s.toArray⟩ := ⟨_, rfl⟩
     obtain ⟨np, hnp⟩ : ∃ np : Int, np = (noTok).pos := ⟨_, rfl⟩
     have HXS : Hid (insl ⟨k, 0, r.size, noTok⟩ = [.int .i64 k, .int .i64 ov, .int .i64 r.size, .string sv, .int .i64 np]) := Lib.hid (by rw [hov, hsv, hnp]; rfl)
     have n1 : W2.cell? ⟨xb, 1, none⟩ = some (.int .i64 ov) := hov ▸ (hX2.cell 1).trans rfl
     have n2 : W2.cell? ⟨xb, 2, none⟩ = some (.int .i64 r.size) := (hX2.cell 2).trans rfl
     have n3 : W2.cell? ⟨xb, 3, none⟩ = some (.string sv) := hsv ▸ (hX2.cell 3).trans rfl
     have n4 : W2.cell? ⟨xb, 4, none⟩ = some (.int .i64 np) := hnp ▸ (hX2.cell 4).trans rfl
     have hxl : xb < W2.heap.size := hX2.lt
     have hrl2 : rb < W2.heap.size := hR2.lt
     have hnb := own_ne_blk hown hR2 (by decide)
     have hlen := HRT.out.len
     have hc63 : r.ins.length + 1 ≤ maxLen := by unfold maxLen; omega
     have hcby : (r.ins.length + 1) * 48 ≤ 140737488355328 := by omega
     have h1c : ∀ v ∈ [Value.int .i64 k, .int .i64 ov, .int .i64 r.size, .string sv, .int .i64 np], v.oneCell' = true := by intro v hv; simp at hv; rcases hv with rfl | rfl | rfl | rfl | rfl <;> rfl
     obtain ⟨i0, hi, hz0, hz1, hz2⟩ := info_parts info_ins
     clear hW2 hsz r3 hrl f3 c0 c1 q1 hov hsv hnp
     go_region_law
      (refine step_append_lies _ (by rfl) _ _ _ (by rfl) B 204 i0 _ 5 48 Tryz.underlying195 hi hz0 hz1 hz2 rfl (by omega) lv r.ins.length (rows insl r.ins) (by rfl) (show _ from hown.alloc _)
        ⟨W2.heap.size, 0, none⟩ 1 1 [.int .i64 k, .int .i64 ov, .int .i64 r.size, .string sv, .int .i64 np] (by rfl) (by rfl) (World.news_of_block (cs := #[.int .i64 k, .int .i64 ov, .int .i64 r.size, .string sv, .int .i64 np]) (t := 204) (fr := (0, 0)) (heap_alloc_new W2 _)) h1c
        (by omega) hc63 hcby (by simp; omega) (W2.heap.size + 1) (by simp) ?_; intro gg cap w3 hown3 hgrow hat hlt3; have hR3 : Blk w3 rb 197 #[.map (some mc), .map (some ml), lv, .int .i64 (sz : Int)] := (hgrow.block rb (by simp; omega) (fun hh => hnb hh.symm)).trans ((Below.heap_alloc W2 _ rb hrl2).trans hR2); have m23 : w3.cell? ⟨rb, 2, none⟩ = some lv := (hR3.cell 2).trans rfl; have f23 : w3.frozen? ⟨rb, 2, none⟩ = false := hR3.frozen 2; have hrl3 : rb < w3.heap.size := hR3.lt)
     all_goals go_wp2_with fail
     all_goals go_end0
     all_goals (rw [← HXS.out] at hown3)
     all_goals (have hfin := RdIs.appended HW2.out (by first | exact ((Below.refl _ _).alloc (Nat.le_refl _) _).drew | exact ((Below.refl _ _).drew.alloc (Nat.le_refl _) _) | exact ((Below.refl _ _).alloc (Nat.le_refl _) _)) hgrow hR2 hown hR3 hown3 HC2.out HL2.out HRM.out (HSZ.out.trans (by rw [HWD.out])) (by have := HSZ.out; have := HF.out; omega) hwB)
     all_goals (refine ⟨hfin.1.1, ?_⟩)
     all_goals (rw [HI.out])
     all_goals exact ⟨rfl, _, hfin.2, hfin.1.2⟩
theorem SMap.obj {w : World} {b n : Nat} {F : List UInt8 → Option Nat} (h : SMap w b n F) : ∃ o : Obj, w.heap[b]? = some o ∧ o.isCells = false := by
 obtain ⟨D, ⟨es, cl, h1, _⟩, _⟩ := h
 exact ⟨_, h1, rfl⟩
theorem Reads.past {w w' : World} {B size n b : Nat} {A : Option Addr} {xs : List Value} (h : Reads w B size A n xs) (hg : w.grownBy w' (some b)) (hm : ∃ o : Obj, w.heap[b]? = some o ∧ o.isCells = false) : Reads w' B size A n xs := by
 refine ⟨h.1, fun hn => ?_⟩
 obtain ⟨ad, e1, e2, e3⟩ := h.2 hn
 exact ⟨ad, e1, e2, fun j u hu => cell_kept (e3 j u hu) hg fun r hr => by injection hr with hr; subst hr; exact hm⟩
theorem labF2_snoc (l : List (List UInt8 × Nat)) (nm : List UInt8) (k : Nat) (h : labF2 l nm = none) (j : List UInt8) : labF2 (l ++ [(nm, k)]) j = if j = nm then some k else labF2 l j := by
 unfold labF2 at h ⊢
 rw [List.find?_append]
 by_cases e : j = nm
 ·subst e
  rw [Option.map_eq_none_iff] at h
  rw [h, if_pos rfl]
  simp
 ·rw [if_neg e]
  have : ([(nm, k)] : List (List UInt8 × Nat)).find? (fun p => p.1 == j) = none := by
   simp
   exact fun h => e h.symm
  rw [this]
  simp
theorem RdIs.labelled {B : Nat} {w w2 : World} {rb mc ml : Nat} {lv : Value} {r : RSt} {nm : List UInt8} (hR : RdIs B w rb mc ml lv r) (hg : w.grownBy w2 (some ml)) (hS : SMap w2 ml (r.labels.length + 1) (fun j => if j = nm then some r.size else labF2 r.labels j)) (hn : labF2 r.labels nm = none) (hB : B ≤ w.heap.size) :
  Below B w w2 ∧ RdIs B w2 rb mc ml lv ⟨r.labels ++ [(nm, r.size)], r.ins⟩ := by
 have hk : ∀ q, q < w.heap.size → q ≠ ml → w2.heap[q]? = w.heap[q]? := fun q hq hne => hg.block q hq fun h => hne (by injection h)
 refine ⟨⟨hg.os, hg.tape, hg.output, hg.size, fun q hq => hk q (by omega) (by have := hR.mlB; omega)⟩, ?_⟩
 exact ⟨(hk rb hR.blk.lt (Ne.symm (hR.labs.ne_blk hR.blk))).trans hR.blk, hR.codes.kept (hk mc hR.codes.lt hR.ne), (by rw [List.length_append]; exact hS.congr fun j => (labF2_snoc _ _ _ hn j).symm),
  own_keep hR.own fun b hb => hk b (hR.own.lt b hb).2 (fun e => hR.labs.ne_own hR.own (e ▸ hb)), hR.rbB, hR.mcB, hR.mlB, hR.ne, hR.size, hR.len⟩
def labRest (r : RSt) (nm : List UInt8) : List Tok → Except (Nat × Nat) RSt
 | [] => .ok ⟨r.labels ++ [(nm, r.size)], r.ins⟩
 | u :: rest' => insL ⟨r.labels ++ [(nm, r.size)], r.ins⟩ u rest'
theorem lineL_lab (r : RSt) (u : Tok) (rest : List Tok) (h : (u.s.getLast? == some 58) = true) : lineL r (u :: rest) = if nameF u.s.dropLast = false then .error (9, u.pos) else if (labF2 r.labels u.s.dropLast).isSome then .error (11, u.pos) else labRest r u.s.dropLast rest := by
 unfold lineL
 simp only [h, if_true]
 cases rest <;> rfl
set_option maxHeartbeats 4000000 in
theorem line_asm {B : Nat} {w : World} (hE : EnvP B w) {rb mc ml : Nat} {lv : Value} {r : RSt} (hR : RdIs B w rb mc ml lv r) (l : List Tok) (A : Option Addr) (n c : Nat)
  (hT : Reads w w.heap.size 2 A n (rows tkc l)) (hc : n ≤ c) (hu : ∀ t ∈ l, t.s.length ≤ 4294967296 ∧ t.pos ≤ 4294967296) (hn : n ≤ 4294967296) (hlab : r.labels.length ≤ 4294967296) :
  Calls Tryz.prog 137 #[.pointer (some ⟨rb, 0, none⟩), .slice A n c] w (insPost B w rb mc ml lv (lineL r l)) := by
 have hl := hT.1
 rw [rows_length tkc 2 tkc_len] at hl
 cases l with
 | nil =>
  have hn0 : n = 0 := by simp at hl; omega
  have z1 : ((n : Int) == 0) = true := by simp; omega
  have HR := Lib.hid hR
  clear hl hn0
  go_enter Tryz.func137, Tryz.ntmps137
  go_wp2
  go_end0
  exact ⟨Below.refl _ _, rfl, lv, HR.out, Frm.refl _ _⟩
 | cons u rest =>
  have hnl : n = rest.length + 1 := by rw [List.length_cons] at hl; omega
  have z1 : ((n : Int) == 0) = false := by simp; omega
  have z2 : decide ((0 : Int) < (n : Int)) = true := decide_eq_true (by omega)
  have z3 : decide (0 < n) = true := decide_eq_true (by omega)
  obtain ⟨A1, hsl, hT1, hc1⟩ := tok_tail hT hc
  have HI := Lib.hid (instr_asm hE hR u rest A n c hT hc hu hn)
  obtain ⟨bt, off, rfl, hbt, hcell⟩ := reads_flat hT (by omega) (by omega)
  obtain ⟨s, hs⟩ : ∃ s : ByteArray, s = ⟨u.s.toArray⟩ := ⟨_, rfl⟩
  have c0 : w.cell? ⟨bt, off, none⟩ = some (.string s) := hs ▸ hcell 0 _ rfl
  have c1 : w.cell? ⟨bt, off + 1, none⟩ = some (.int .i64 u.pos) := hcell 1 _ rfl
  have hsl2 : s.data.toList = u.s := by rw [hs]
  have hu1 := hu u (List.mem_cons_self ..)
  have hss : s.size ≤ 4294967296 := by
   have : s.size = s.data.toList.length := Array.length_toList.symm
   rw [this, hsl2]; exact hu1.1
  have hcs0 := Tryz.strings_CutSuffix s ⟨#[58]⟩ w (by omega)
  have hsx : Go.Lib.hasSuffix s.data.toList (⟨#[58]⟩ : ByteArray).data.toList = (u.s.getLast? == some 58) := by rw [hsl2]; exact suffix_one 58 u.s
  rw [hsx] at hcs0
  have hn1 : 1 ≤ n := by omega
  clear hcell hs hl
  cases hlast : (u.s.getLast? == some 58) with
  | false =>
   have HL : Hid (lineL r (u :: rest) = insL r u rest) := Lib.hid (by unfold lineL; simp only [hlast]; rfl)
   rw [hlast] at hcs0
   obtain ⟨q, hq⟩ : ∃ q : ByteArray, q = ⟨(Go.Lib.trimSuffix s.data.toList (⟨#[58]⟩ : ByteArray).data.toList).toArray⟩ := ⟨_, rfl⟩
   rw [← hq] at hcs0
   have HCS := Lib.hid hcs0
   clear hcs0 hsx hlast hq hT hT1 hsl hnl hsl2 hR
   cases hx : insL r u rest with
   | error y =>
    have HIX := Lib.hid (HI.out.mono (fun e w' h => (by have h2 := h.2; rw [hx] at h2; exact ⟨h.1, h2⟩ : Below B w w' ∧ e = .panicked [{ v := faultV y.1 y.2, recovered := false }])))
    have HXX := Lib.hid (HL.out.trans hx)
    clear hx
    go_enter Tryz.func137, Tryz.ntmps137
    go_wp2_with (first | (go_at_call 160; refine HCS.out.mono ?_; rintro e w1 ⟨rfl, hw⟩; obtain rfl := hw.symm) | (go_at_call 162; refine HIX.out.mono ?_; rintro e w3 ⟨hb3, rfl, hr3⟩) | (go_at_call 162; refine HIX.out.mono ?_; rintro e w3 ⟨hb3, rfl⟩))
    refine ⟨rfl, hb3, ?_⟩
    rw [HXX.out]
   | ok r' =>
    have HIX := Lib.hid (HI.out.mono (fun e w' h => (by have h2 := h.2; rw [hx] at h2; exact ⟨h.1, h2.1, h2.2⟩ : Below B w w' ∧ e = .returned (.tuple #[]) ∧ ∃ lv', RdIs B w' rb mc ml lv' r' ∧ Frm w w' (RdS rb ml lv))))
    have HXX := Lib.hid (HL.out.trans hx)
    clear hx
    go_enter Tryz.func137, Tryz.ntmps137
    go_wp2_with (first | (go_at_call 160; refine HCS.out.mono ?_; rintro e w1 ⟨rfl, hw⟩; obtain rfl := hw.symm) | (go_at_call 162; refine HIX.out.mono ?_; rintro e w3 ⟨hb3, rfl, hr3⟩) | (go_at_call 162; refine HIX.out.mono ?_; rintro e w3 ⟨hb3, rfl⟩))
    go_end0
    refine ⟨hb3, ?_⟩
    rw [HXX.out]
    obtain ⟨lv3, hr4, hf4⟩ := hr3
    exact ⟨rfl, lv3, hr4, hf4⟩
  | true =>
   have htr : Go.Lib.trimSuffix s.data.toList (⟨#[58]⟩ : ByteArray).data.toList = u.s.dropLast := by rw [hsl2]; exact trim_one 58 u.s (by rw [suffix_one, hlast])
   obtain ⟨nm, hnm⟩ : ∃ nm, nm = u.s.dropLast := ⟨_, rfl⟩
   rw [htr, hlast, ← hnm] at hcs0
   obtain ⟨q, hq⟩ : ∃ q : ByteArray, q = ⟨nm.toArray⟩ := ⟨_, rfl⟩
   rw [← hq] at hcs0
   have hql : q.data.toList = nm := by rw [hq]
   have hqs : q.size ≤ 4294967296 := by
    have e1 : q.size = q.data.toList.length := Array.length_toList.symm
    rw [e1, hql, hnm, List.length_dropLast]; omega
   have HCS := Lib.hid hcs0
   have HNM0 := Lib.hid (fun W => named_any q (by omega) W)
   rw [hql] at HNM0
   have hline := lineL_lab r u rest hlast
   rw [← hnm] at hline
   have r1 : w.cell? ⟨rb, 1, none⟩ = some (.map (some ml)) := (hR.blk.cell 1).trans rfl
   have r3 : w.cell? ⟨rb, 3, none⟩ = some (.int .i64 (r.size : Int)) := (hR.blk.cell 3).trans rfl
   have hrl := hR.blk.lt
   have hlk := hR.labs.look q (by unfold maxLen; omega)
   rw [hql] at hlk
   have HLK := Lib.hid hlk
   have HQL := Lib.hid hql
   have HNL := Lib.hid hnl
   clear hcs0 hsx hlast htr hnm hq hlk hsl2 hql hnl
   cases hname : nameF nm with
   | false =>
    have HL : Hid (lineL r (u :: rest) = .error (9, u.pos)) := Lib.hid (hline.trans (if_pos hname))
    rw [hname] at HNM0
    have HNM := Lib.hid HNM0.out
    clear HNM0 hname hline hT hT1 hsl HI HLK
    go_enter Tryz.func137, Tryz.ntmps137
    go_wp2_with (first | (go_at_call 160; refine HCS.out.mono ?_; rintro e w1 ⟨rfl, hw⟩; obtain rfl := hw.symm) | (go_at_call 161; refine (HNM.out _).mono ?_; rintro e w1 ⟨rfl, hw⟩; obtain rfl := hw.symm) | (go_at_call 139; refine (fail_any _ _ _).mono ?_; rintro e w1 ⟨rfl, hw⟩; obtain rfl := hw.symm))
    refine ⟨rfl, Below.refl _ _, ?_⟩
    rw [HL.out]
    rfl
   | true =>
    rw [hname] at HNM0
    have HNM := Lib.hid HNM0.out
    rw [if_neg (by rw [hname]; exact Bool.noConfusion)] at hline
    clear HNM0 hname
    cases hlab2 : labF2 r.labels nm with
    | some k =>
     have HL : Hid (lineL r (u :: rest) = .error (11, u.pos)) := Lib.hid (hline.trans (if_pos (by rw [hlab2]; rfl)))
     have hlk := HLK.out
     simp only [hlab2] at hlk
     clear hline hT hT1 hsl HI HLK hlab2
     go_enter Tryz.func137, Tryz.ntmps137
     go_wp2_with (first | (go_at_call 160; refine HCS.out.mono ?_; rintro e w1 ⟨rfl, hw⟩; obtain rfl := hw.symm) | (go_at_call 161; refine (HNM.out _).mono ?_; rintro e w1 ⟨rfl, hw⟩; obtain rfl := hw.symm) | (go_at_call 139; refine (fail_any _ _ _).mono ?_; rintro e w1 ⟨rfl, hw⟩; obtain rfl := hw.symm))
     refine ⟨rfl, Below.refl _ _, ?_⟩
     rw [HL.out]
     rfl
    | none =>
     have HL : Hid (lineL r (u :: rest) = labRest r nm rest) := Lib.hid (hline.trans (if_neg (by rw [hlab2]; exact Bool.noConfusion)))
     have hlk := HLK.out
     simp only [hlab2] at hlk
     have HLN := Lib.hid hlab2
     have HR := Lib.hid hR
     have HT1 := Lib.hid hT1
     have hls : r.labels.length < maxLen := by unfold maxLen; omega
     have hqm : q.size ≤ maxLen := by unfold maxLen; omega
     have hsz : r.size ≤ 9223372036854775807 := by have := hR.size; omega
     have hLM := hR.labs
     clear hline hT hT1 HI HLK hlab2 hR
     go_enter Tryz.func137, Tryz.ntmps137
     go_upto_region 8 with (first | (go_at_call 160; refine HCS.out.mono ?_; rintro e w1 ⟨rfl, hw⟩; obtain rfl := hw.symm) | (go_at_call 161; refine (HNM.out _).mono ?_; rintro e w1 ⟨rfl, hw⟩; obtain rfl := hw.symm))
     refine wp_region_still_tail 9 (by kernel_rfl) (by kernel_rfl) ?_
     change wpStill _ _ (World.drew _) (fun a' => wpList _ _ _ _ a' (World.drew _)) _ _
     simp only [List.take_succ_cons, List.take_zero, List.drop_succ_cons, List.drop_zero]
     repeat still_step
     refine wpStill_nil ?_
     go_upto_region 10 with (first | (refine wpList_smap_put _ rfl (.tmp 46) (.tmp 47) (.tmp 51) rfl ml r.labels.length (labF2 r.labels) rfl (hLM.drewN 1) hls q hqm r.size hsz rfl rfl ?_; intro w2 hm2 hg2) | (refine wpList_slice_g rfl 199 (.tmp 52) (some (.const (.int .i64 1))) none rfl rfl rfl rfl (hsl _) ?_))
     rw [HQL.out] at hm2
     have hg : w.grownBy w2 (some ml) := ⟨hg2.os, hg2.tape, hg2.output, hg2.size, hg2.block⟩
     obtain ⟨hbw, hR2⟩ := HR.out.labelled hg hm2 HLN.out hE.size
     have HFL : Hid (Frm w w2 (RdS rb ml lv)) := Lib.hid ((Frm.refl w (RdS rb ml lv)).grown hg (fun q h => by injection h with h; exact .inl (.inr (.inl h.symm))))
     have hE2 := hE.below hbw
     have hT2 : Reads w2 w2.heap.size 2 A1 rest.length (rows tkc rest) := (HT1.out.past hg HR.out.labs.obj).more hg.size
     have HB2 := Lib.hid hbw
     have HR2 := Lib.hid hR2
     clear hg hg2 hm2 r1 r3 hrl c0 c1 hbw hlk
     cases rest with
     | nil =>
      go_wp2
      go_end0
      refine ⟨HB2.out, ?_⟩
      rw [HL.out]
      exact ⟨rfl, lv, HR2.out, HFL.out⟩
     | cons u2 rest2 =>
      have HI := Lib.hid (instr_asm hE2 HR2.out u2 rest2 A1 (u2 :: rest2).length (c - 1) hT2 hc1 (fun t ht => hu t (List.mem_cons_of_mem _ ht)) (by have := HNL.out; omega))
      have HTT := Lib.hid hT2
      obtain ⟨nx, hnx⟩ : ∃ nx, nx = (u2 :: rest2).length := ⟨_, rfl⟩
      have g1 : decide ((0 : Int) < (nx : Int)) = true := decide_eq_true (by rw [hnx, List.length_cons]; omega)
      have g2 : decide (0 < nx) = true := decide_eq_true (by rw [hnx, List.length_cons]; omega)
      rw [← hnx] at HI ⊢
      clear hT2 hE2 hR2 hnx hsl
      cases hx : insL ⟨r.labels ++ [(nm, r.size)], r.ins⟩ u2 rest2 with
      | error y =>
       have HIX := Lib.hid (HI.out.mono (fun e w' h => (by have h2 := h.2; rw [hx] at h2; exact ⟨h.1, h2⟩ : Below B w2 w' ∧ e = .panicked [{ v := faultV y.1 y.2, recovered := false }])))
       have HXX := Lib.hid (HL.out.trans hx)
       clear hx
       go_wp2_with (first | (go_at_call 162; refine HIX.out.mono ?_; rintro e w3 ⟨hb3, rfl, hr3⟩) | (go_at_call 162; refine HIX.out.mono ?_; rintro e w3 ⟨hb3, rfl⟩))
       refine ⟨rfl, HB2.out.trans hb3, ?_⟩
       rw [HXX.out]
      | ok r' =>
       have HIX := Lib.hid (HI.out.mono (fun e w' h => (by have h2 := h.2; rw [hx] at h2; exact ⟨h.1, h2.1, h2.2⟩ : Below B w2 w' ∧ e = .returned (.tuple #[]) ∧ ∃ lv', RdIs B w' rb mc ml lv' r' ∧ Frm w2 w' (RdS rb ml lv))))
       have HXX := Lib.hid (HL.out.trans hx)
       clear hx
       go_wp2_with (first | (go_at_call 162; refine HIX.out.mono ?_; rintro e w3 ⟨hb3, rfl, hr3⟩) | (go_at_call 162; refine HIX.out.mono ?_; rintro e w3 ⟨hb3, rfl⟩))
       go_end0
       refine ⟨HB2.out.trans hb3, ?_⟩
       rw [HXX.out]
       obtain ⟨lv3, hr4, hf4⟩ := hr3
       exact ⟨rfl, lv3, hr4, HFL.out.trans hf4 (fun q h => .inl h)⟩
end Go.Proofs.YtiheggkkgbfndaaGreatDoor
