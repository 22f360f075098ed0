/- carouselref14: leads, target, Words. -/
import Derived.Test.YtiheggkkgbfndaaGreatDoorJ14
import Derived.StillTailTactics
import Derived.Test.YtiheggkkgbfndaaGreatDoorJ08
import Derived.Test.YtiheggkkgbfndaaGreatDoorJ09
import Derived.Test.YtiheggkkgbfndaaGreatDoorJ21
import Derived.Test.YtiheggkkgbfndaaGreatDoorJ13
import Derived.Test.YtiheggkkgbfndaaGreatDoorJ02
import Derived.BigQuiet
namespace Go.Proofs.YtiheggkkgbfndaaGreatDoor
open Go.RowKit Go.Joins Go.ChangeShapes Go.WideShapes Go.Deep Go.Maps Go.Sort
set_option linter.unusedVariables false
set_option linter.unusedSimpArgs false
set_option maxRecDepth 100000
theorem rleads_any (c : Nat) (w : World) : Calls Tryz.prog 104 #[.int .i64 c] w fun r w' => r = .returned (.bool (leadsF c)) ∧ w' = w := by
 by_cases h24 : c = 24
 ·subst h24
  go_enter Tryz.func104, Tryz.ntmps104
  go_wp2
  go_ret
  exact ⟨rfl, rfl⟩
 ·by_cases h25 : c = 25
  ·subst h25
   go_enter Tryz.func104, Tryz.ntmps104
   go_wp2
   go_ret
   exact ⟨rfl, rfl⟩
  ·by_cases h26 : c = 26
   ·subst h26
    go_enter Tryz.func104, Tryz.ntmps104
    go_wp2
    go_ret
    exact ⟨rfl, rfl⟩
   ·have d1 : ((c : Int) == 24) = false := by simp; omega
    have d2 : ((c : Int) == 25) = false := by simp; omega
    have d3 : ((c : Int) == 26) = false := by simp; omega
    have HL : Hid (leadsF c = false) := Lib.hid (by simp [leadsF, h24, h25, h26])
    go_enter Tryz.func104, Tryz.ntmps104
    go_wp2
    go_ret
    exact ⟨by rw [HL.out]; rfl, rfl⟩
def plc (l : List Nat) : List Value := l.map fun (p : Nat) => .int .i64 (p : Int)
theorem plc_at (l : List Nat) (i : Nat) (h : i < l.length) : (plc l)[i]? = some (.int .i64 (l[i] : Int)) := by simp [plc, h]
theorem plc_snoc (l : List Nat) (x : Nat) : plc (l ++ [x]) = plc l ++ [.int .i64 (x : Int)] := by simp [plc]
set_option maxHeartbeats 1000000 in
theorem rwords_any (w : World) : Calls Tryz.prog 75 #[] w fun e w' => e = .returned (.slice (some ⟨w.heap.size, 0, none⟩) 41 41) ∧ w' = w.alloc (.cells wordV.toArray 9) := by
 go_enter Tryz.func75, Tryz.ntmps75
 go_wp2
 go_ret
 exact ⟨rfl, rfl⟩
theorem info_int : (Tryz.prog.info? 3).map (fun i => (i.zero, i.size, i.bytes)) = some (some (.int .i64 0), 1, 8) := by kernel_rfl
end Go.Proofs.YtiheggkkgbfndaaGreatDoor
namespace Go.Proofs.YtiheggkkgbfndaaGreatDoor
open Go.RowKit Go.Joins Go.ChangeShapes Go.WideShapes Go.Deep
set_option linter.unusedVariables false
set_option linter.unusedSimpArgs false
set_option maxRecDepth 100000
def codeV : Option Nat → Int
 | some k => k
 | none => -1
theorem codeF_none {s : List UInt8} (h : ∀ j, j < 41 → wordsB.getD j [] ≠ s) : codeF s = none := by
 unfold codeF
 rw [List.find?_eq_none]
 intro j hj
 simp only [beq_iff_eq]
 exact h j (List.mem_range.1 hj)
theorem codeF_hit {s : List UInt8} (i : Nat) (hi : i < 41) (h : ∀ j, j < i → wordsB.getD j [] ≠ s) (e : wordsB.getD i [] = s) : codeF s = some i := by
 unfold codeF
 rw [List.find?_range_eq_some]
 refine ⟨by rw [beq_iff_eq]; exact e, List.mem_range.2 hi, fun j hj => ?_⟩
 have := h j hj
 simpa using this
theorem word_at (i : Nat) (hi : i < 41) : ∃ q : ByteArray, wordV[i]? = some (.string q) ∧ q.data.toList = wordsB.getD i [] := by
 refine ⟨⟨(wordsB.getD i []).toArray⟩, ?_, by simp⟩
 unfold wordV
 rw [List.getElem?_map, List.getElem?_eq_getElem (by rw [words_len]; exact hi), List.getD_eq_getElem?_getD, List.getElem?_eq_getElem (by rw [words_len]; exact hi)]
 rfl
set_option maxHeartbeats 1000000 in
theorem rcode_any (s : ByteArray) (w : World) :
  Calls Tryz.prog 142 #[.string s] w fun e w' => e = .returned (.int .i64 (codeV (codeF s.data.toList))) ∧ Below w.heap.size w w' := by
 have HW := Lib.hid (rwords_any w)
 go_enter Tryz.func142, Tryz.ntmps142
 go_wp2_with (go_at_call 75; refine HW.out.mono ?_; rintro e w1 ⟨rfl, rfl⟩)
 obtain ⟨w1, hw1⟩ : ∃ w1, w1 = w.alloc (.cells wordV.toArray 9) := ⟨_, rfl⟩
 rw [← hw1]
 have hK : Blk w1 w.heap.size 9 wordV.toArray := hw1 ▸ Blk.new w _ _
 have hB : Below w.heap.size w w1 := hw1 ▸ (Below.refl _ _).alloc (Nat.le_refl _) _
 have hl := hK.lt
 obtain ⟨A, hA⟩ : ∃ A, A = w.heap.size := ⟨_, rfl⟩
 rw [← hA] at hK hB hl ⊢
 have HA := Lib.hid hA
 clear hw1 hA
 go_loopg [4] 41 (fun gk iv wr => ∃ i : Nat, iv = .int .i64 i ∧ i ≤ 41 ∧ gk = 41 - i ∧ wr = w1 ∧ ∀ j, j < i → wordsB.getD j [] ≠ s.data.toList)
 case atStart => exact ⟨0, rfl, Nat.zero_le _, rfl, rfl, fun j h => absurd h (by omega)⟩
 case round =>
  obtain ⟨i, rfl, hi, hgk, rfl, hno⟩ := hrel
  have HG := Lib.hid hgk
  have HNO := Lib.hid hno
  have HB := Lib.hid hB
  clear hgk hno hB
  by_cases hil : i < 41
  ·have e1 : decide ((i : Int) < 41) = true := decide_eq_true (by omega)
   have e2 : decide (i < 41) = true := decide_eq_true hil
   obtain ⟨q, hq, hql⟩ := word_at i hil
   have cx : wr.cell? ⟨A, i, none⟩ = some (.string q) := by rw [hK.cell i]; simpa using hq
   have HQ := Lib.hid hql
   clear hq hql
   by_cases e : q = s
   ·subst e
    have HC : Hid (codeF q.data.toList = some i) := Lib.hid (codeF_hit i hil HNO.out HQ.out.symm)
    go_wp2
    go_ret
    exact ⟨by rw [HC.out]; rfl, HA.out ▸ HB.out⟩
   ·have e4 : (q.toList == s.toList) = false := by
     rw [beq_eq_false_iff_ne, ByteArray.toList_eq, ByteArray.toList_eq]
     exact fun h => e (bytes_inj h)
    have HE := Lib.hid e
    clear e
    go_wp2
    go_roundg (41 - (i + 1))
    case measure => have := HG.out; omega
    case rel =>
     refine ⟨i + 1, by simp, by omega, rfl, rfl, fun j hj => ?_⟩
     by_cases hji : j = i
     ·subst hji
      rw [← HQ.out]
      exact fun h => HE.out (bytes_inj h)
     ·exact HNO.out j (by omega)
  ·have e1 : decide ((i : Int) < 41) = false := decide_eq_false (by omega)
   have e2 : decide (i < 41) = false := decide_eq_false (by omega)
   obtain rfl : i = 41 := by omega
   have HC : Hid (codeF s.data.toList = none) := Lib.hid (codeF_none HNO.out)
   go_wp2
   go_ret
   exact ⟨by rw [HC.out]; rfl, HA.out ▸ HB.out⟩
def labTok (p : List UInt8 × Nat) : Tok := ⟨p.1, p.2⟩
def labV : Option Nat → Int
 | some k => k
 | none => -1
theorem labF2_hit (l : List (List UInt8 × Nat)) (s : List UInt8) (i : Nat) (hi : i < l.length) (h : ∀ j (hj : j < l.length), j < i → l[j].1 ≠ s) (e : l[i].1 = s) : labF2 l s = some l[i].2 := by
 unfold labF2
 have : l.find? (fun p => p.1 == s) = some l[i] := by
  rw [List.find?_eq_some_iff_getElem]
  refine ⟨by simpa using e, i, hi, rfl, fun j hj => ?_⟩
  have := h j (by omega) hj
  simpa using this
 rw [this]
 rfl
theorem labF2_none (l : List (List UInt8 × Nat)) (s : List UInt8) (h : ∀ j (hj : j < l.length), l[j].1 ≠ s) : labF2 l s = none := by
 unfold labF2
 rw [Option.map_eq_none_iff, List.find?_eq_none]
 intro p hp
 obtain ⟨j, hj, rfl⟩ := List.mem_iff_getElem.1 hp
 simpa using h j hj
theorem tk_cells {w : World} {B n : Nat} {A : Option Addr} {l : List Tok} (hT : Reads w B 2 A n (rows tkc l)) (i : Nat) (hi : i < l.length) :
  ∃ b off q, A = some ⟨b, off, none⟩ ∧ b < B ∧ w.cell? ⟨b, off + i * 2, none⟩ = some (.string q) ∧ w.cell? ⟨b, off + i * 2 + 1, none⟩ = some (.int .i64 l[i].pos) ∧ q.data.toList = l[i].s ∧ i < n := by
 have hl := hT.1
 rw [rows_length tkc 2 tkc_len] at hl
 obtain ⟨b, off, rfl, hb, hc⟩ := reads_flat hT (by omega) (by omega)
 refine ⟨b, off, ⟨l[i].s.toArray⟩, rfl, hb, ?_, ?_, by simp, by omega⟩
 ·have := hc (i * 2) (.string ⟨l[i].s.toArray⟩) (by
   have := rows_at tkc 2 tkc_len l i 0 hi (by omega)
   simpa [tkc] using this)
  exact this
 ·have := hc (i * 2 + 1) (.int .i64 l[i].pos) (by
   have := rows_at tkc 2 tkc_len l i 1 hi (by omega)
   simpa [tkc] using this)
  exact this
set_option maxHeartbeats 1000000 in
theorem rlabel_any {w : World} {ab n c : Nat} {ov av nv : Value} {A : Option Addr} {z : Int} {ls : List (List UInt8 × Nat)} (hK : Blk w ab 151 #[ov, av, nv, .int .i64 z, .slice A n c]) (hT : Reads w w.heap.size 2 A n (rows tkc (ls.map labTok))) (hn : ls.length ≤ 4294967296) (s : ByteArray) :
  Calls Tryz.prog 114 #[.pointer (some ⟨ab, 0, none⟩), .string s] w fun e w' => e = .returned (.int .i64 (labV (labF2 ls s.data.toList))) ∧ w' = w := by
 have hnl : n = ls.length := by
  have := hT.1
  rw [rows_length tkc 2 tkc_len, List.length_map] at this
  omega
 have x4 : w.cell? ⟨ab, 4, none⟩ = some (.slice A n c) := (hK.cell 4).trans rfl
 have hal := hK.lt
 clear hK
 go_enter Tryz.func114, Tryz.ntmps114
 go_wp2_with fail
 go_loopg [5] n (fun gk iv wr => ∃ i : Nat, iv = .int .i64 i ∧ i ≤ n ∧ gk = n - i ∧ wr = w ∧ ∀ j (hj : j < ls.length), j < i → ls[j].1 ≠ s.data.toList)
 case atStart => exact ⟨0, rfl, Nat.zero_le _, rfl, rfl, fun j _ h => absurd h (by omega)⟩
 case round =>
  obtain ⟨i, rfl, hi, hgk, rfl, hno⟩ := hrel
  have HG := Lib.hid hgk
  have HNO := Lib.hid hno
  have HNL := Lib.hid hnl
  clear hgk hno hnl
  by_cases hil : i < n
  ·have e1 : decide ((i : Int) < (n : Int)) = true := decide_eq_true (by omega)
   have e2 : decide (i < n) = true := decide_eq_true hil
   have hil2 : i < ls.length := by rw [← HNL.out]; exact hil
   obtain ⟨b, off, q, rfl, hb, c0, c1', hql, _⟩ := tk_cells hT i (by rw [List.length_map]; exact hil2)
   have hq2 : q.data.toList = (ls[i]).1 := by rw [hql, List.getElem_map]; rfl
   have c1 : wr.cell? ⟨b, off + i * 2 + 1, none⟩ = some (.int .i64 (ls[i]).2) := by rw [c1', List.getElem_map]; rfl
   obtain ⟨k, hk⟩ : ∃ k, k = (ls[i]).2 := ⟨_, rfl⟩
   rw [← hk] at c1
   have HK := Lib.hid hk
   have HQ := Lib.hid hq2
   have HT := Lib.hid hT
   have HIL := Lib.hid hil2
   clear hql hq2 hk hT c1'
   by_cases e : q = s
   ·subst e
    have HC : Hid (labF2 ls q.data.toList = some k) := Lib.hid (by rw [HK.out]; exact labF2_hit ls _ i HIL.out HNO.out HQ.out.symm)
    go_wp2
    go_ret
    exact ⟨by rw [HC.out]; rfl, rfl⟩
   ·have e4 : (q.toList == s.toList) = false := by
     rw [beq_eq_false_iff_ne, ByteArray.toList_eq, ByteArray.toList_eq]
     exact fun h => e (bytes_inj h)
    have HE := Lib.hid e
    clear e
    go_wp2
    go_roundg (n - (i + 1))
    case measure => have := HG.out; omega
    case rel =>
     refine ⟨i + 1, by simp, by omega, rfl, rfl, fun j hj hji => ?_⟩
     by_cases hji : j = i
     ·subst hji
      rw [← HQ.out]
      exact fun h => HE.out (bytes_inj h)
     ·exact HNO.out j hj (by omega)
  ·have e1 : decide ((i : Int) < (n : Int)) = false := decide_eq_false (by omega)
   have e2 : decide (i < n) = false := decide_eq_false (by omega)
   have HC : Hid (labF2 ls s.data.toList = none) := Lib.hid (labF2_none _ _ fun j hj => HNO.out j hj (by have := HNL.out; omega))
   go_wp2
   go_ret
   exact ⟨by rw [HC.out]; rfl, rfl⟩
structure RaRaw (B : Nat) (w : World) (ab : Nat) (ov av nv lv : Value) (z : Int) (Lo : List AOp) (La : List Nat) (Ln Ll : List Tok) : Prop where
 blk : Blk w ab 151 #[ov, av, nv, .int .i64 z, lv]
 ops : w.ownsRow B 113 2 ov Lo.length (rows opc Lo)
 ats : w.ownsRow B 3 1 av La.length (plc La)
 nms : w.ownsRow B 159 2 nv Ln.length (rows tkc Ln)
 lbs : w.ownsRow B 159 2 lv Ll.length (rows tkc Ll)
 ne : ∀ q, nv.ownBlock = some q → lv.ownBlock ≠ some q
theorem RaRaw.keep {B : Nat} {w w' : World} {ab : Nat} {ov av nv lv : Value} {z : Int} {Lo : List AOp} {La : List Nat} {Ln Ll : List Tok} (h : RaRaw B w ab ov av nv lv z Lo La Ln Ll) (hb : Below w.heap.size w w') : RaRaw B w' ab ov av nv lv z Lo La Ln Ll :=
 ⟨h.blk.below hb h.blk.lt, own_beb h.ops hb, own_beb h.ats hb, own_beb h.nms hb, own_beb h.lbs hb, h.ne⟩
structure RaIs (B : Nat) (w : World) (ab : Nat) (ov av nv lv : Value) (r : RSt) : Prop where
 raw : RaRaw B w ab ov av nv lv (r.size : Int) (r.ins.map Ins.op) (r.ins.map Ins.pos) (r.ins.map Ins.name) (r.labels.map labTok)
 size : r.size ≤ 512
 len : r.ins.length ≤ r.size
theorem RaIs.keep {B : Nat} {w w' : World} {ab : Nat} {ov av nv lv : Value} {r : RSt} (h : RaIs B w ab ov av nv lv r) (hb : Below w.heap.size w w') : RaIs B w' ab ov av nv lv r := ⟨h.raw.keep hb, h.size, h.len⟩
def RaS (ab B : Nat) (q : Nat) : Prop := q = ab ∨ B ≤ q
theorem put_frm {W WA w3 : World} {B ab k : Nat} {xv u : Value} (hB : B ≤ W.heap.size) (hA : Below W.heap.size W WA) (hg : WA.grownBy w3 xv.ownBlock) (hx : ∀ q, xv.ownBlock = some q → B ≤ q) :
    Frm W (w3.setCell ⟨ab, k, none⟩ u) (RaS ab B) ∧ ∀ q, q < W.heap.size → xv.ownBlock ≠ some q → q ≠ ab → (w3.setCell ⟨ab, k, none⟩ u).heap[q]? = W.heap[q]? :=
  ⟨((((Frm.refl W (RaS ab B)).trans (Frm.of_below (S := fun _ => False) hA) fun q h => h.elim).grown hg fun q h => .inl (.inr (hx q h))).set ab k u (.inl (.inl rfl))),
   fun q hq ho hr => (Below.heap_setCell w3 ⟨ab, k, none⟩ u q hr).trans ((hg.block q (Nat.lt_of_lt_of_le hq hA.size) (fun h => ho h.symm)).trans (hA.block q hq))⟩
section
variable {B : Nat} {W WA w3 : World} {ab gg cap : Nat} {ov av nv lv : Value} {z : Int} {Lo : List AOp} {La : List Nat} {Ln Ll : List Tok}
theorem RaRaw.blk3 (h : RaRaw B W ab ov av nv lv z Lo La Ln Ll) (hA : Below W.heap.size W WA) {xv : Value} (hx : xv.ownBlock ≠ some ab) (hg : WA.grownBy w3 xv.ownBlock) : Blk w3 ab 151 #[ov, av, nv, .int .i64 z, lv] :=
 (hg.block ab (Nat.lt_of_lt_of_le h.blk.lt hA.size) (fun hh => hx hh.symm)).trans ((hA.block ab h.blk.lt).trans h.blk)
theorem RaRaw.put_ops (h : RaRaw B W ab ov av nv lv z Lo La Ln Ll) (hB : B ≤ W.heap.size) (hA : Below W.heap.size W WA) (hg : WA.grownBy w3 ov.ownBlock) {m : Nat} (hm : m = Lo.length + 1) {o : AOp} (hown3 : w3.ownsRow B 113 2 (.slice (some ⟨gg, 0, none⟩) m cap) m (rows opc Lo ++ opc o)) :
  RaRaw B (w3.setCell ⟨ab, 0, none⟩ (.slice (some ⟨gg, 0, none⟩) m cap)) ab (.slice (some ⟨gg, 0, none⟩) m cap) av nv lv z (Lo ++ [o]) La Ln Ll ∧ Frm W (w3.setCell ⟨ab, 0, none⟩ (.slice (some ⟨gg, 0, none⟩) m cap)) (RaS ab B) := by
 obtain ⟨hF, hk⟩ := put_frm (k := 0) (ab := ab) (u := .slice (some ⟨gg, 0, none⟩) m cap) hB hA hg fun q hq => (h.ops.lt q hq).1
 have h3 := h.blk3 hA (own_ne_blk h.ops h.blk (by decide)) hg
 refine ⟨⟨h3.set_ 0 _, ?_, own_keep h.ats fun q hq => hk q (h.ats.lt q hq).2 (own_ne h.ats h.ops (by decide) hq) (fun e => own_ne_blk h.ats h.blk (by decide) (e ▸ hq)), own_keep h.nms fun q hq => hk q (h.nms.lt q hq).2 (own_ne h.nms h.ops (by decide) hq) (fun e => own_ne_blk h.nms h.blk (by decide) (e ▸ hq)), own_keep h.lbs fun q hq => hk q (h.lbs.lt q hq).2 (own_ne h.lbs h.ops (by decide) hq) (fun e => own_ne_blk h.lbs h.blk (by decide) (e ▸ hq)), h.ne⟩, hF⟩
 subst hm
 rw [List.length_append, List.length_singleton, rows_snoc]
 exact own_set hown3 h3 (by decide) _
theorem RaRaw.put_ats (h : RaRaw B W ab ov av nv lv z Lo La Ln Ll) (hB : B ≤ W.heap.size) (hA : Below W.heap.size W WA) (hg : WA.grownBy w3 av.ownBlock) {m : Nat} (hm : m = La.length + 1) {p : Nat} (hown3 : w3.ownsRow B 3 1 (.slice (some ⟨gg, 0, none⟩) m cap) m (plc La ++ [.int .i64 (p : Int)])) :
  RaRaw B (w3.setCell ⟨ab, 1, none⟩ (.slice (some ⟨gg, 0, none⟩) m cap)) ab ov (.slice (some ⟨gg, 0, none⟩) m cap) nv lv z Lo (La ++ [p]) Ln Ll ∧ Frm W (w3.setCell ⟨ab, 1, none⟩ (.slice (some ⟨gg, 0, none⟩) m cap)) (RaS ab B) := by
 obtain ⟨hF, hk⟩ := put_frm (k := 1) (ab := ab) (u := .slice (some ⟨gg, 0, none⟩) m cap) hB hA hg fun q hq => (h.ats.lt q hq).1
 have h3 := h.blk3 hA (own_ne_blk h.ats h.blk (by decide)) hg
 refine ⟨⟨h3.set_ 1 _, own_keep h.ops fun q hq => hk q (h.ops.lt q hq).2 (own_ne h.ops h.ats (by decide) hq) (fun e => own_ne_blk h.ops h.blk (by decide) (e ▸ hq)), ?_, own_keep h.nms fun q hq => hk q (h.nms.lt q hq).2 (own_ne h.nms h.ats (by decide) hq) (fun e => own_ne_blk h.nms h.blk (by decide) (e ▸ hq)), own_keep h.lbs fun q hq => hk q (h.lbs.lt q hq).2 (own_ne h.lbs h.ats (by decide) hq) (fun e => own_ne_blk h.lbs h.blk (by decide) (e ▸ hq)), h.ne⟩, hF⟩
 subst hm
 rw [List.length_append, List.length_singleton, plc_snoc]
 exact own_set hown3 h3 (by decide) _
theorem RaRaw.put_nms (h : RaRaw B W ab ov av nv lv z Lo La Ln Ll) (hB : B ≤ W.heap.size) (hA : Below W.heap.size W WA) (hg : WA.grownBy w3 nv.ownBlock) (hat : nv.ownBlock = some gg ∨ W.heap.size ≤ gg) {m : Nat} (hm : m = Ln.length + 1) {t : Tok} (hown3 : w3.ownsRow B 159 2 (.slice (some ⟨gg, 0, none⟩) m cap) m (rows tkc Ln ++ tkc t)) :
  RaRaw B (w3.setCell ⟨ab, 2, none⟩ (.slice (some ⟨gg, 0, none⟩) m cap)) ab ov av (.slice (some ⟨gg, 0, none⟩) m cap) lv z Lo La (Ln ++ [t]) Ll ∧ Frm W (w3.setCell ⟨ab, 2, none⟩ (.slice (some ⟨gg, 0, none⟩) m cap)) (RaS ab B) := by
 obtain ⟨hF, hk⟩ := put_frm (k := 2) (ab := ab) (u := .slice (some ⟨gg, 0, none⟩) m cap) hB hA hg fun q hq => (h.nms.lt q hq).1
 have h3 := h.blk3 hA (own_ne_blk h.nms h.blk (by decide)) hg
 refine ⟨⟨h3.set_ 2 _, own_keep h.ops fun q hq => hk q (h.ops.lt q hq).2 (own_ne h.ops h.nms (by decide) hq) (fun e => own_ne_blk h.ops h.blk (by decide) (e ▸ hq)), own_keep h.ats fun q hq => hk q (h.ats.lt q hq).2 (own_ne h.ats h.nms (by decide) hq) (fun e => own_ne_blk h.ats h.blk (by decide) (e ▸ hq)), ?_, own_keep h.lbs fun q hq => hk q (h.lbs.lt q hq).2 (fun e => h.ne q e hq) (fun e => own_ne_blk h.lbs h.blk (by decide) (e ▸ hq)), ?_⟩, hF⟩
 ·subst hm
  rw [List.length_append, List.length_singleton, rows_snoc]
  exact own_set hown3 h3 (by decide) _
 ·intro q hq he
  have : gg = q := by simpa [Value.ownBlock] using hq
  subst this
  rcases hat with h1 | h1
  ·exact h.ne gg h1 he
  ·exact absurd (h.lbs.lt gg he).2 (by omega)
theorem RaRaw.put_lbs (h : RaRaw B W ab ov av nv lv z Lo La Ln Ll) (hB : B ≤ W.heap.size) (hA : Below W.heap.size W WA) (hg : WA.grownBy w3 lv.ownBlock) (hat : lv.ownBlock = some gg ∨ W.heap.size ≤ gg) {m : Nat} (hm : m = Ll.length + 1) {t : Tok} (hown3 : w3.ownsRow B 159 2 (.slice (some ⟨gg, 0, none⟩) m cap) m (rows tkc Ll ++ tkc t)) :
  RaRaw B (w3.setCell ⟨ab, 4, none⟩ (.slice (some ⟨gg, 0, none⟩) m cap)) ab ov av nv (.slice (some ⟨gg, 0, none⟩) m cap) z Lo La Ln (Ll ++ [t]) ∧ Frm W (w3.setCell ⟨ab, 4, none⟩ (.slice (some ⟨gg, 0, none⟩) m cap)) (RaS ab B) := by
 obtain ⟨hF, hk⟩ := put_frm (k := 4) (ab := ab) (u := .slice (some ⟨gg, 0, none⟩) m cap) hB hA hg fun q hq => (h.lbs.lt q hq).1
 have h3 := h.blk3 hA (own_ne_blk h.lbs h.blk (by decide)) hg
 refine ⟨⟨h3.set_ 4 _, own_keep h.ops fun q hq => hk q (h.ops.lt q hq).2 (own_ne h.ops h.lbs (by decide) hq) (fun e => own_ne_blk h.ops h.blk (by decide) (e ▸ hq)), own_keep h.ats fun q hq => hk q (h.ats.lt q hq).2 (own_ne h.ats h.lbs (by decide) hq) (fun e => own_ne_blk h.ats h.blk (by decide) (e ▸ hq)), own_keep h.nms fun q hq => hk q (h.nms.lt q hq).2 (fun e => h.ne q hq e) (fun e => own_ne_blk h.nms h.blk (by decide) (e ▸ hq)), ?_, ?_⟩, hF⟩
 ·subst hm
  rw [List.length_append, List.length_singleton, rows_snoc]
  exact own_set hown3 h3 (by decide) _
 ·intro q hq he
  have : gg = q := by simpa [Value.ownBlock] using he
  subst this
  rcases hat with h1 | h1
  ·exact h.ne gg hq h1
  ·exact absurd (h.nms.lt gg hq).2 (by omega)
theorem RaRaw.put_size (h : RaRaw B W ab ov av nv lv z Lo La Ln Ll) (z' : Int) : RaRaw B (W.setCell ⟨ab, 3, none⟩ (.int .i64 z')) ab ov av nv lv z' Lo La Ln Ll ∧ Frm W (W.setCell ⟨ab, 3, none⟩ (.int .i64 z')) (RaS ab B) :=
 ⟨⟨h.blk.set_ 3 _, own_set h.ops h.blk (by decide) _, own_set h.ats h.blk (by decide) _, own_set h.nms h.blk (by decide) _, own_set h.lbs h.blk (by decide) _, h.ne⟩, (Frm.refl W (RaS ab B)).set ab 3 _ (.inl (.inl rfl))⟩
end
theorem reads_frm {w w' : World} {B ab size n : Nat} {A : Option Addr} {xs : List Value} (h : Reads w B size A n xs) (hA : ∀ ad, A = some ad → ad.block ≠ ab) (hf : Frm w w' (RaS ab B)) (hB : B ≤ w.heap.size) : Reads w' B size A n xs :=
 ⟨h.1, fun hn => by
  obtain ⟨ad, e, hb, hc⟩ := h.2 hn
  refine ⟨ad, e, hb, fun j u hu => ?_⟩
  have hbl : w'.heap[(ad.add j).block]? = w.heap[(ad.add j).block]? := by
   rw [block_of_add]
   refine hf.block ad.block (by omega) fun hh => ?_
   rcases hh with h1 | h1
   ·exact hA ad e h1
   ·omega
  exact (World.cell?_of_block hbl).trans (hc j u hu)⟩
def labL (r : RSt) (l : List Tok) : Except (Nat × Nat) (List Tok × RSt) := match l with
 | [] => .ok ([], r)
 | t :: rest => if t.s.getLast? == some 58 then (
   if nameF t.s.dropLast = false then .error (9, t.pos)
   else if (labF2 r.labels t.s.dropLast).isSome then .error (11, t.pos)
   else .ok (rest, ⟨r.labels ++ [(t.s.dropLast, r.size)], r.ins⟩))
  else .ok (t :: rest, r)
theorem lineL_labL (r : RSt) (l : List Tok) : lineL r l = match labL r l with
  | .error e => .error e
  | .ok ([], r') => .ok r'
  | .ok (t :: rest, r') => insL r' t rest := by
 unfold lineL labL
 cases l with
 | nil => rfl
 | cons t rest =>
  simp only
  split
  ·split
   ·rfl
   ·split
    ·rfl
    ·cases rest <;> rfl
  ·rfl
def LblPost (B : Nat) (w : World) (ab : Nat) (x : Except (Nat × Nat) (List Tok × RSt)) (e : Ending) (w' : World) : Prop := match x with
 | .error y => e = .returned (.tuple #[.slice none 0 0, .int .i64 y.1, .int .i64 y.2]) ∧ Frm w w' (RaS ab B)
 | .ok (l', r') => ∃ (A' : Option Addr) (n' c' : Nat) (ov av nv lv : Value), e = .returned (.tuple #[.slice A' n' c', .int .i64 0, .int .i64 0]) ∧ n' ≤ c' ∧ RaIs B w' ab ov av nv lv r' ∧ Reads w' B 2 A' n' (rows tkc l') ∧ (∀ ad, A' = some ad → ad.block ≠ ab) ∧ Frm w w' (RaS ab B)
theorem last_idx (s : ByteArray) (h : 0 < s.size) : ∃ x : UInt8, s.data.toList.getLast? = some x ∧ ∀ W : World, (Instr.index 9 (.string s) (.int .i64 ((s.size : Int) - 1))).run Tryz.prog W = .ok (.int .u8 (x.toNat : Int)) W := by
 refine ⟨s[s.size - 1], ?_, fun W => ?_⟩
 ·rw [List.getLast?_eq_getElem?, Array.length_toList, List.getElem?_eq_getElem (by rw [Array.length_toList]; show s.data.size - 1 < s.data.size; have : 0 < s.data.size := h; omega)]
  rfl
 ·rw [run_index_string (P := Tryz.prog) W 9 s .i64 _ Tryz.underlying9, dif_pos ⟨by omega, by omega⟩]
  have : ((s.size : Int) - 1).toNat = s.size - 1 := by omega
  simp only [this]
theorem elem_rtok : Tryz.prog.elem 149 = 159 := by kernel_rfl
theorem size_rtok (w : World) : (sizeOf 159).run Tryz.prog w = .ok 2 w := by kernel_rfl
theorem info_rtok : (Tryz.prog.info? 159).map (fun i => (i.zero, i.size, i.bytes)) = some (some (.agg #[.string ⟨#[]⟩, .int .i64 0]), 2, 24) := by kernel_rfl
theorem rtok_tail {w : World} {B n c : Nat} {A : Option Addr} {u : Tok} {rest : List Tok} (hT : Reads w B 2 A n (rows tkc (u :: rest))) (hc : n ≤ c) :
  ∃ A', (∀ W, (Instr.sliceAt 149 (.slice A n c) (some (.int .i64 1)) none none).run Tryz.prog W = .ok (.slice A' rest.length (c - 1)) W) ∧ Reads w B 2 A' rest.length (rows tkc rest) ∧ rest.length ≤ c - 1 ∧ ∀ ad', A' = some ad' → ∃ ad, A = some ad ∧ ad'.block = ad.block := by
 have hl := hT.1
 rw [rows_length tkc 2 tkc_len, List.length_cons] at hl
 have hn : n = rest.length + 1 := by omega
 refine ⟨if c = 1 then A else A.map (·.add (1 * 2)), fun W => ?_, ?_, by omega, fun ad' h => ?_⟩
 ·rw [run_sliceAt_slice W _ _ _ _ _ (by rw [elem_rtok]; exact Tryz.underlying149), run_slice_l W 149 A n c (by rw [elem_rtok]; exact Tryz.underlying149) .i64 1 (by omega) (by omega), elem_rtok, size_rtok]
  show Result.ok (sliced A 1 n c 2) W = _
  unfold sliced
  rw [show n - 1 = rest.length by omega]
 ·have := hT.cut (k := 1) (cap := c) (by omega) hc
  rw [show n - 1 = rest.length by omega] at this
  exact this
 ·split at h
  ·exact ⟨ad', h, rfl⟩
  ·cases A with
   | none => cases h
   | some ad =>
    injection h with h
    subst h
    exact ⟨ad, rfl, block_of_add _ _⟩
end Go.Proofs.YtiheggkkgbfndaaGreatDoor
