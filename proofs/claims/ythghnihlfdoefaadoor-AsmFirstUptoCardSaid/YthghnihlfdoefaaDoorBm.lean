/- asm's reader: an instruction. -/
import Derived.Test.YthghnihlfdoefaaDoorPd
import Derived.Deep.QuietTactic
import Derived.BigQuiet
namespace Go.Proofs.YthghnihlfdoefaaDoor
open Go.RowKit Go.Joins Go.ChangeShapes Go.WideShapes Go.Deep Go.Maps
set_option linter.unusedVariables false
set_option linter.unusedSimpArgs false
set_option maxRecDepth 100000

theorem RdIs.below {B B' : Nat} {w w' : World} {rb mc ml : Nat} {lv : Value} {r : RSt} (h : RdIs B w rb mc ml lv r) (hb : Below w.heap.size w w') : RdIs B w' rb mc ml lv r :=
  ⟨h.blk.below hb h.blk.lt, h.codes.below hb h.codes.lt, h.labs.below hb h.labs.lt, own_beb h.own hb, h.rbB, h.mcB, h.mlB, h.ne, h.size, h.len⟩
theorem codeF_lt {s : List UInt8} {c : Nat} (h : codeF s = some c) : c < 41 := List.mem_range.1 (List.mem_of_find?_eq_some h)
theorem rsize_snoc (labels : List (List UInt8 × Nat)) (r : RSt) (x : Ins) : RSt.size ⟨labels, r.ins ++ [x]⟩ = r.size + (1 + widthF (shapeF x.code)) := by
  unfold RSt.size
  rw [List.map_append]
  exact sizeF_snoc _ _
/-- What the reader may write. -/
def RdS (rb ml : Nat) (lv : Value) (q : Nat) : Prop := q = rb ∨ q = ml ∨ lv.ownBlock = some q
theorem RdIs.appended {B : Nat} {w W2 WA w3 : World} {rb mc ml gg cap sz : Nat} {lv : Value} {r : RSt} {x : Ins} (hW : Frm w W2 (RdS rb ml lv)) (hA : Below W2.heap.size W2 WA) (hg : WA.grownBy w3 lv.ownBlock)
    (hR2 : Blk W2 rb 65 #[.map (some mc), .map (some ml), lv, .int .i64 (sz : Int)]) (hown : W2.ownsRow B 73 5 lv r.ins.length (rows insl r.ins)) (hR3 : Blk w3 rb 65 #[.map (some mc), .map (some ml), lv, .int .i64 (sz : Int)])
    (hown3 : w3.ownsRow B 73 5 (.slice (some ⟨gg, 0, none⟩) (r.ins.length + 1) cap) (r.ins.length + 1) (rows insl r.ins ++ insl x)) (hC : SMap W2 mc 41 codeF) (hL : SMap W2 ml r.labels.length (labF2 r.labels))
    (rm : B ≤ rb ∧ B ≤ mc ∧ B ≤ ml ∧ mc ≠ ml ∧ r.ins.length ≤ r.size) (hsz : sz = r.size + (1 + widthF (shapeF x.code))) (h512 : sz ≤ 512) (hB : B ≤ w.heap.size) :
    (Below B w (w3.setCell ⟨rb, 2, none⟩ (.slice (some ⟨gg, 0, none⟩) (r.ins.length + 1) cap)) ∧ Frm w (w3.setCell ⟨rb, 2, none⟩ (.slice (some ⟨gg, 0, none⟩) (r.ins.length + 1) cap)) (RdS rb ml lv)) ∧ RdIs B (w3.setCell ⟨rb, 2, none⟩ (.slice (some ⟨gg, 0, none⟩) (r.ins.length + 1) cap)) rb mc ml (.slice (some ⟨gg, 0, none⟩) (r.ins.length + 1) cap) ⟨r.labels, r.ins ++ [x]⟩ := by
  obtain ⟨h1, h2, h3, h4, h5⟩ := rm
  have hBW : B ≤ W2.heap.size := Nat.le_trans hB hW.size
  have hF : Frm w (w3.setCell ⟨rb, 2, none⟩ (.slice (some ⟨gg, 0, none⟩) (r.ins.length + 1) cap)) (RdS rb ml lv) :=
    ((hW.trans (Frm.of_below (S := fun _ => False) hA) fun q h => h.elim).grown hg fun q h => .inl (.inr (.inr h))).set rb 2 _ (.inl (.inl rfl))
  have hkeep : ∀ q, q < W2.heap.size → lv.ownBlock ≠ some q → q ≠ rb → (w3.setCell ⟨rb, 2, none⟩ (.slice (some ⟨gg, 0, none⟩) (r.ins.length + 1) cap)).heap[q]? = W2.heap[q]? := fun q hq ho hr =>
    (Below.heap_setCell w3 ⟨rb, 2, none⟩ _ q hr).trans ((hg.block q (Nat.lt_of_lt_of_le hq hA.size) (fun h => ho h.symm)).trans (hA.block q hq))
  refine ⟨⟨hF.below hB fun q h => ?_, hF⟩, ?_⟩
  · rcases h with rfl | rfl | h
    · exact h1
    · exact h3
    · exact (hown.lt q h).1
  refine ⟨?_, hC.kept (hkeep mc hC.lt (hC.ne_own hown) (hC.ne_blk hR2)), hL.kept (hkeep ml hL.lt (hL.ne_own hown) (hL.ne_blk hR2)), ?_, h1, h2, h3, h4, ?_, ?_⟩
  · rw [rsize_snoc, ← hsz]
    exact hR3.set_ 2 _
  · rw [List.length_append, rows_snoc]
    exact own_set hown3 hR3 (by decide) _
  · rw [rsize_snoc, ← hsz]; exact h512
  · rw [rsize_snoc, List.length_append, List.length_singleton]; omega
def operL (r : RSt) (u : Tok) (k : Nat) : List Tok → Except (Nat × Nat) RSt
  | [] => .error (9, u.pos + u.s.length)
  | u' :: rest' => match oprL k u' with
    | .error e => .error (e, u'.pos)
    | .ok (o, nm) => endL r u k o nm rest'
theorem operL_err {r : RSt} {u u2 : Tok} {rest : List Tok} {k e : Nat} (h : oprL k u2 = .error e) : operL r u k (u2 :: rest) = .error (e, u2.pos) := by
  unfold operL
  simp only [h]
theorem operL_ok {r : RSt} {u u2 nm : Tok} {rest : List Tok} {k : Nat} {o : Int} (h : oprL k u2 = .ok (o, nm)) : operL r u k (u2 :: rest) = endL r u k o nm rest := by
  unfold operL
  simp only [h]
theorem insL_code {r : RSt} {u : Tok} {rest : List Tok} {k wd : Nat} (h : codeF u.s = some k) (hw : wd = widthF (shapeF k)) : insL r u rest = if 0 < wd then operL r u k rest else endL r u k 0 noTok rest := by
  subst hw
  unfold insL
  rw [h]
  cases rest <;> rfl
def insPost (B : Nat) (w : World) (rb mc ml : Nat) (lv : Value) (x : Except (Nat × Nat) RSt) (e : Ending) (w' : World) : Prop := Below B w w' ∧ match x with
  | .error y => e = .panicked [{ v := faultV y.1 y.2, recovered := false }]
  | .ok r' => e = .returned (.tuple #[]) ∧ ∃ lv', RdIs B w' rb mc ml lv' r' ∧ Frm w w' (RdS rb ml lv)
set_option maxHeartbeats 4000000 in
theorem instr_asm {B : Nat} {w : World} (hE : EnvP B w) {rb mc ml : Nat} {lv : Value} {r : RSt} (hR : RdIs B w rb mc ml lv r) (u : Tok) (rest : List Tok) (A : Option Addr) (n c : Nat)
    (hT : Reads w w.heap.size 2 A n (rows tkc (u :: rest))) (hc : n ≤ c) (hu : ∀ t ∈ u :: rest, t.s.length ≤ 4294967296 ∧ t.pos ≤ 4294967296) (hn : n ≤ 4294967296) :
    Calls Tryd.prog 49 #[.pointer (some ⟨rb, 0, none⟩), .slice A n c] w (insPost B w rb mc ml lv (insL r u rest)) := by
  obtain ⟨A1, hsl, hT1, hc1⟩ := tok_tail hT hc
  have hl := hT.1
  rw [rows_length tkc 2 tkc_len, List.length_cons] at hl
  have hnl : n = rest.length + 1 := by omega
  obtain ⟨bt, off, rfl, hbt, hcell⟩ := reads_flat hT (by omega) (by omega)
  obtain ⟨s, hs⟩ : ∃ s : ByteArray, s = ⟨u.s.toArray⟩ := ⟨_, rfl⟩
  have c0 : w.cell? ⟨bt, off, none⟩ = some (.string s) := hs ▸ hcell 0 _ rfl
  have c1 : w.cell? ⟨bt, off + 1, none⟩ = some (.int .i64 u.pos) := hcell 1 _ rfl
  have hsl2 : s.data.toList = u.s := by rw [hs]
  have hu1 := hu u (List.mem_cons_self ..)
  have hss : s.size ≤ maxLen := by
    have : s.size = s.data.toList.length := Array.length_toList.symm
    rw [this, hsl2]; unfold maxLen; omega
  have hlk := fun nq => (hR.codes.drewN nq).look s hss
  rw [hsl2] at hlk
  have r0 : w.cell? ⟨rb, 0, none⟩ = some (.map (some mc)) := (hR.blk.cell 0).trans rfl
  have r2 : w.cell? ⟨rb, 2, none⟩ = some lv := (hR.blk.cell 2).trans rfl
  have r3 : w.cell? ⟨rb, 3, none⟩ = some (.int .i64 (r.size : Int)) := (hR.blk.cell 3).trans rfl
  have hrl := hR.blk.lt
  have HS := Lib.hid hs
  have HSL2 := Lib.hid hsl2
  have HNL := Lib.hid hnl
  have HRS := Lib.hid hR.size
  have hn1 : 1 ≤ n := by omega
  clear hs hsl2 hnl hl hcell
  cases hcode : codeF u.s with
  | none =>
    have HI : Hid (insL r u rest = .error (9, u.pos)) := Lib.hid (by unfold insL; rw [hcode])
    simp only [hcode] at hlk
    clear hcode
    go_enter Tryd.func49, Tryd.ntmps49
    go_upto_region 0 with fail
    go_quiet (fail)
    go_wp2_with (go_at_call 32; refine (fail_any _ _ _).mono ?_; rintro r w2 ⟨hr, hw⟩; subst hr; subst hw)
    refine ⟨rfl, below_drewN (Below.refl _ _) _, ?_⟩
    rw [HI.out]
    rfl
  | some k =>
    have hk := codeF_lt hcode
    have HCO := Lib.hid hcode
    simp only [hcode] at hlk
    clear hcode
    go_enter Tryd.func49, Tryd.ntmps49
    go_upto_region 0 with fail
    go_quiet (fail)
    go_upto_region 3 with fail
    obtain ⟨wq, hwq⟩ : ∃ wq, wq = w.drewN nq := ⟨_, rfl⟩
    rw [← hwq]
    have hBq : Below w.heap.size w wq := hwq ▸ below_drewN (Below.refl _ _) _
    have hRq := hR.below (B' := B) hBq
    have hEq : EnvP B wq := hE.below (hBq.mono hE.size)
    have hzq : wq.heap.size = w.heap.size := by rw [hwq]; rfl
    have HT1 := Lib.hid (hT1.below hBq)
    have c0 : wq.cell? ⟨bt, off, none⟩ = some (.string s) := hwq ▸ c0
    have c1 : wq.cell? ⟨bt, off + 1, none⟩ = some (.int .i64 u.pos) := hwq ▸ c1
    have r3 : wq.cell? ⟨rb, 3, none⟩ = some (.int .i64 (r.size : Int)) := (hRq.blk.cell 3).trans rfl
    have hrl : rb < wq.heap.size := hRq.blk.lt
    have hbt : bt < wq.heap.size := by omega
    have HBQ := Lib.hid hBq
    have HZQ := Lib.hid hzq
    clear hlk hT1 hT hBq hzq hwq
    go_upto_region 4 with fail
    have HBY := Lib.hid (fun W hS => bytes_c k hk W hS)
    obtain ⟨wd, hwd⟩ : ∃ wd, wd = widthF (shapeF k) := ⟨_, rfl⟩
    rw [← hwd] at HBY
    have hw8 : wd ≤ 8 := by rw [hwd]; unfold widthF; split <;> (try split) <;> (try split) <;> omega
    have HWD := Lib.hid hwd
    have hBx : Below wq.heap.size wq (wq.alloc (.cells #[.int .i64 k, .int .i64 0, .int .i64 r.size, .string ⟨#[]⟩, .int .i64 0] 73)) := (Below.refl _ _).alloc (Nat.le_refl _) _
    have hXB : Blk (wq.alloc (.cells #[.int .i64 k, .int .i64 0, .int .i64 r.size, .string ⟨#[]⟩, .int .i64 0] 73)) wq.heap.size 73 (insC k 0 r.size noTok) := Blk.new wq _ _
    have hEx := hEq.below (hBx.mono hEq.size)
    have HRX := Lib.hid hRq
    clear hwd
    go_upto_region 6 with (first | (go_at_call 16; refine (HBY.out _ hEx.env.here.shapes).mono ?_; rintro e w1 ⟨rfl, hb1⟩) | (refine wpList_slice_g rfl 68 (.tmp 37) (some (.const (.int .i64 1))) none rfl rfl rfl rfl (hsl _) ?_))
    obtain ⟨xb, hxb⟩ : ∃ xb, xb = wq.heap.size := ⟨_, rfl⟩
    rw [← hxb] at hXB ⊢
    have hq1 : Below wq.heap.size wq w1 := hBx.trans (hb1.mono (by simp))
    have hRt := HRX.out.below (B' := B) hq1
    have hXt := hXB.below hb1 (by simp; omega)
    have hEw := hEq.below (hq1.mono hEq.size)
    have hlw : w.heap.size ≤ w1.heap.size := by have := hq1.size; have := HZQ.out; omega
    have HW0 : Hid (w.heap.size ≤ w1.heap.size) := Lib.hid hlw
    have HTT := Lib.hid (HT1.out.below (hq1.mono (by have := HZQ.out; omega)))
    have c0 : w1.cell? ⟨bt, off, none⟩ = some (.string s) := (hq1.cell (p := ⟨bt, off, none⟩) hbt).trans c0
    have c1 : w1.cell? ⟨bt, off + 1, none⟩ = some (.int .i64 u.pos) := (hq1.cell (p := ⟨bt, off + 1, none⟩) hbt).trans c1
    have hbt1 : bt < w1.heap.size := Nat.lt_of_lt_of_le hbt hq1.size
    have hbw : Below w.heap.size w w1 := HBQ.out.trans (hq1.mono (by have := HZQ.out; omega))
    have HXL : Hid (w.heap.size ≤ xb) := Lib.hid (by have := HZQ.out; omega)
    have hins := insL_code (r := r) (rest := rest) HCO.out HWD.out
    have HQ1 := Lib.hid hq1
    have HQX : Hid (wq.heap.size ≤ xb) := Lib.hid (by rw [hxb]; exact Nat.le_refl _)
    have HSS : Hid (s.size = u.s.length) := Lib.hid (by rw [← HSL2.out, Array.length_toList]; rfl)
    have hs47 : u.pos + s.size ≤ 9223372036854775807 := by have := HSS.out; omega
    clear hBx hXB hEx hb1 hxb r3 hrl hq1 hsl hEq hR
    by_cases hwd : 0 < wd
    · have f1 : decide ((1 : Int) < 1 + (wd : Int)) = true := decide_eq_true (by omega)
      rw [if_pos hwd] at hins
      have HINS := Lib.hid hins
      clear hins hwd
      cases rest with
      | nil =>
        have HI : Hid (insL r u [] = .error (9, u.pos + u.s.length)) := Lib.hid HINS.out
        have HW := Lib.hid hbw
        clear hbw
        go_wp2_with (first | (go_at_call 69; refine (end_any s u.pos hs47 _).mono ?_; rintro e w2 ⟨rfl, hb2⟩) | (go_at_call 32; refine (fail_any _ _ _).mono ?_; rintro r w2 ⟨hr, hw⟩; subst hr; subst hw))
        refine ⟨rfl, (HW.out.mono hE.size).trans (hb2.mono (Nat.le_trans hE.size hlw)), ?_⟩
        rw [HI.out]
        show _ = Ending.panicked [{ v := faultV ((9 : Nat) : Int) ((u.pos + u.s.length : Nat) : Int), recovered := false }]
        rw [← HSS.out, Int.natCast_add]
        rfl
      | cons u2 rest2 =>
        obtain ⟨A2, hsl2x, hT2, hc2⟩ := tok_tail HTT.out hc1
        obtain ⟨b2, o2, rfl, hb2, hcell2⟩ := reads_flat HTT.out (by simp) (by omega)
        obtain ⟨s2, hs2⟩ : ∃ s2 : ByteArray, s2 = ⟨u2.s.toArray⟩ := ⟨_, rfl⟩
        have y0 : w1.cell? ⟨b2, o2, none⟩ = some (.string s2) := hs2 ▸ hcell2 0 _ rfl
        have y1 : w1.cell? ⟨b2, o2 + 1, none⟩ = some (.int .i64 u2.pos) := hcell2 1 _ rfl
        have hb2w : b2 < w1.heap.size := Nat.lt_of_lt_of_le hb2 hlw
        have hu2 := hu u2 (by simp)
        have HOP := Lib.hid (operand_asm hEw k hk r.size u2 hu2.1 xb (by have := HXL.out; have := hE.size; omega) hXt)
        rw [← hs2] at HOP
        obtain ⟨nx, hnx⟩ : ∃ nx, nx = (u2 :: rest2).length := ⟨_, rfl⟩
        have hn0 : 1 ≤ nx := by rw [hnx]; simp
        have g1 : ((nx : Int) == 0) = false := by simp; omega
        rw [← hnx] at hsl2x ⊢
        have HNX := Lib.hid hnx
        have HW1 := Lib.hid hbw
        clear hcell2 hs2 hnx hbw
        cases hop : oprL k u2 with
        | error e =>
          have HI : Hid (insL r u (u2 :: rest2) = .error (e, u2.pos)) := Lib.hid (HINS.out.trans (operL_err hop))
          have HOP2 : Hid (Calls Tryd.prog 70 #[.pointer (some ⟨xb, 0, none⟩), .agg #[.string s2, .int .i64 u2.pos]] w1 fun r w' => Frm w1 w' (fun q => q = xb) ∧ r = .panicked [{ v := faultV e u2.pos, recovered := false }]) := Lib.hid (HOP.out.mono fun r w' h => ⟨h.1, by have := h.2; rw [hop] at this; exact this⟩)
          clear hop HOP
          go_wp2_with (go_at_call 70; refine HOP2.out.mono ?_; rintro e w2 ⟨hF, rfl⟩)
          refine ⟨rfl, (HW1.out.mono hE.size).trans (hF.below (Nat.le_trans hE.size hlw) (fun q h => h ▸ Nat.le_trans hE.size HXL.out)), ?_⟩
          rw [HI.out]
        | ok z =>
          obtain ⟨o, nm⟩ := z
          have hdone : insL r u (u2 :: rest2) = endL r u k o nm rest2 := HINS.out.trans (operL_ok hop)
          have HOP2 : Hid (Calls Tryd.prog 70 #[.pointer (some ⟨xb, 0, none⟩), .agg #[.string s2, .int .i64 u2.pos]] w1 fun r' w' => Frm w1 w' (fun q => q = xb) ∧ r' = .returned (.tuple #[]) ∧ Blk w' xb 73 (insC k o r.size nm)) := Lib.hid (HOP.out.mono fun r w' h => ⟨h.1, by have := h.2; rw [hop] at this; exact this⟩)
          have HD := Lib.hid hdone
          clear hop HOP hdone
          go_upto_region 11 with (first | (go_at_call 70; refine HOP2.out.mono ?_; rintro e w2 ⟨hF, rfl, hX2⟩) | (refine wpList_slice_g rfl 68 (.tmp 53) (some (.const (.int .i64 1))) none rfl rfl rfl rfl (hsl2x _) ?_))
          have hb2q : Below wq.heap.size w1 w2 := hF.below HQ1.out.size (fun q h => h ▸ HQX.out)
          have hRt := HRX.out.below (B' := B) (HQ1.out.trans hb2q)
          have hXt := hX2
          have hzw : w.heap.size ≤ wq.heap.size := HBQ.out.size
          have hbw : Below w.heap.size w w2 := HW1.out.trans (hb2q.mono hzw)
          have hlw2 : w.heap.size ≤ w2.heap.size := Nat.le_trans hlw hF.size
          have HW0 : Hid (w.heap.size ≤ w2.heap.size) := Lib.hid hlw2
          have HTT := Lib.hid (hT2.below (hb2q.mono hzw))
          have c0 : w2.cell? ⟨bt, off, none⟩ = some (.string s) := (hb2q.cell (p := ⟨bt, off, none⟩) hbt).trans c0
          have c1 : w2.cell? ⟨bt, off + 1, none⟩ = some (.int .i64 u.pos) := (hb2q.cell (p := ⟨bt, off + 1, none⟩) hbt).trans c1
          have hbt1 : bt < w2.heap.size := Nat.lt_of_lt_of_le hbt1 hF.size
          have hdone := HD.out
          have hut : ∀ t ∈ rest2, t.s.length ≤ 4294967296 ∧ t.pos ≤ 4294967296 := fun t ht => hu t (List.mem_cons_of_mem _ (List.mem_cons_of_mem _ ht))
          clear hF hX2 hT2 hb2q hsl2x y0 y1 hzw hlw2
          have HHD := Lib.hid hdone
          have r3 : (w2).cell? ⟨rb, 3, none⟩ = some (.int .i64 (r.size : Int)) := (hRt.blk.cell 3).trans rfl
          have hrl : rb < (w2).heap.size := hRt.blk.lt
          have HRT := Lib.hid hRt
          have HXT := Lib.hid hXt
          have HW := Lib.hid hbw
          have HU : Hid (∀ t ∈ rest2, t.s.length ≤ 4294967296 ∧ t.pos ≤ 4294967296) := Lib.hid hut
          clear hdone hRt hXt hbw hut
          cases rest2 with
          | cons x rx =>
            have HI := Lib.hid (HHD.out.trans (show endL r u k (o) nm (x :: rx) = .error (9, x.pos) from rfl))
            obtain ⟨b2, o2, rfl, hb2, hcell2⟩ := reads_flat HTT.out (by simp) (by omega)
            have x1 : (w2).cell? ⟨b2, o2 + 1, none⟩ = some (.int .i64 x.pos) := hcell2 1 _ rfl
            have hb2w : b2 < (w2).heap.size := Nat.lt_of_lt_of_le hb2 HW0.out
            have g1 : decide ((0 : Int) < ((x :: rx).length : Int)) = true := decide_eq_true (by rw [List.length_cons]; omega)
            have g2 : decide (0 < (x :: rx).length) = true := decide_eq_true (by simp)
            have hlx : 0 < (x :: rx).length := by simp
            obtain ⟨nx, hnx⟩ : ∃ nx, nx = (x :: rx).length := ⟨_, rfl⟩
            rw [← hnx] at g1 g2 hlx ⊢
            clear hcell2 hnx
            go_wp2_with (go_at_call 32; refine (fail_any _ _ _).mono ?_; rintro r w2 ⟨hr, hw⟩; subst hr; subst hw)
            refine ⟨rfl, HW.out.mono hE.size, ?_⟩
            rw [HI.out]
            rfl
          | nil =>
            by_cases hfull : 512 < r.size + (1 + wd)
            · have HI := Lib.hid (HHD.out.trans (show endL r u k (o) nm [] = .error (2, u.pos) by unfold endL; rw [← HWD.out, if_pos hfull]))
              have q1 : decide ((512 : Int) < (r.size : Int) + (1 + (wd : Int))) = true := decide_eq_true (by omega)
              have hrs := HRS.out
              clear hfull
              go_wp2_with (go_at_call 32; refine (fail_any _ _ _).mono ?_; rintro r w2 ⟨hr, hw⟩; subst hr; subst hw)
              refine ⟨rfl, HW.out.mono hE.size, ?_⟩
              rw [HI.out]
              rfl
            · have HI := Lib.hid (HHD.out.trans (show endL r u k (o) nm [] = .ok ⟨r.labels, r.ins ++ [⟨k, o, r.size, nm⟩]⟩ by unfold endL; rw [← HWD.out, if_neg hfull]))
              have q1 : decide ((512 : Int) < (r.size : Int) + (1 + (wd : Int))) = false := decide_eq_false (by omega)
              have hrs := HRS.out
              have f3 : (w2).frozen? ⟨rb, 3, none⟩ = false := HRT.out.blk.frozen 3
              have HF := Lib.hid hfull
              clear hfull
              go_upto_region 16 with fail
              obtain ⟨sz, hsz⟩ : ∃ sz, sz = r.size + (1 + wd) := ⟨_, rfl⟩
              obtain ⟨W2, hW2⟩ : ∃ W2, W2 = (w2).setCell ⟨rb, 3, none⟩ (.int .i64 ((r.size : Int) + (1 + (wd : Int)))) := ⟨_, rfl⟩
              rw [← hW2]
              have hR2 : Blk W2 rb 65 #[.map (some mc), .map (some ml), lv, .int .i64 (sz : Int)] := by
                rw [hW2, hsz]
                have := HRT.out.blk.set_ 3 (.int .i64 ((r.size : Int) + (1 + (wd : Int))))
                rw [show (((r.size + (1 + wd) : Nat)) : Int) = (r.size : Int) + (1 + (wd : Int)) by omega]
                exact this
              have hX2 : Blk W2 xb 73 (insC k o r.size nm) := hW2 ▸ HXT.out.far (p := ⟨rb, 3, none⟩) (HXT.out.ne_ HRT.out.blk (by decide)) _
              have hown : W2.ownsRow B 73 5 lv r.ins.length (rows insl r.ins) := hW2 ▸ own_set HRT.out.own HRT.out.blk (by decide) _
              have HC2 : Hid (SMap W2 mc 41 codeF) := Lib.hid (HRT.out.codes.kept (by rw [hW2]; exact Below.heap_setCell _ ⟨rb, 3, none⟩ _ mc (HRT.out.codes.ne_blk HRT.out.blk)))
              have HL2 : Hid (SMap W2 ml r.labels.length (labF2 r.labels)) := Lib.hid (HRT.out.labs.kept (by rw [hW2]; exact Below.heap_setCell _ ⟨rb, 3, none⟩ _ ml (HRT.out.labs.ne_blk HRT.out.blk)))
              have HW2 : Hid (Frm w W2 (RdS rb ml lv)) := Lib.hid (hW2 ▸ (Frm.of_below (S := RdS rb ml lv) HW.out).set rb 3 _ (.inl (.inl rfl)))
              have HSZ := Lib.hid hsz
              have HRM := Lib.hid (And.intro HRT.out.rbB (And.intro HRT.out.mcB (And.intro HRT.out.mlB (And.intro HRT.out.ne HRT.out.len))))
              have hwB : B ≤ w.heap.size := hE.size
              have hWB : B ≤ W2.heap.size := Nat.le_trans hwB HW2.out.size
              have m2 : W2.cell? ⟨rb, 2, none⟩ = some lv := (hR2.cell 2).trans rfl
              have n0 : W2.cell? ⟨xb, 0, none⟩ = some (.int .i64 k) := (hX2.cell 0).trans rfl
              obtain ⟨ov, hov⟩ : ∃ ov : Int, ov = o := ⟨_, rfl⟩
              obtain ⟨sv, hsv⟩ : ∃ sv : ByteArray, sv = ⟨(nm).s.toArray⟩ := ⟨_, rfl⟩
              obtain ⟨np, hnp⟩ : ∃ np : Int, np = (nm).pos := ⟨_, rfl⟩
              have HXS : Hid (insl ⟨k, o, r.size, nm⟩ = [.int .i64 k, .int .i64 ov, .int .i64 r.size, .string sv, .int .i64 np]) := Lib.hid (by rw [hov, hsv, hnp]; rfl)
              have n1 : W2.cell? ⟨xb, 1, none⟩ = some (.int .i64 ov) := hov ▸ (hX2.cell 1).trans rfl
              have n2 : W2.cell? ⟨xb, 2, none⟩ = some (.int .i64 r.size) := (hX2.cell 2).trans rfl
              have n3 : W2.cell? ⟨xb, 3, none⟩ = some (.string sv) := hsv ▸ (hX2.cell 3).trans rfl
              have n4 : W2.cell? ⟨xb, 4, none⟩ = some (.int .i64 np) := hnp ▸ (hX2.cell 4).trans rfl
              have hxl : xb < W2.heap.size := hX2.lt
              have hrl2 : rb < W2.heap.size := hR2.lt
              have hnb := own_ne_blk hown hR2 (by decide)
              have hlen := HRT.out.len
              have hc63 : r.ins.length + 1 ≤ maxLen := by unfold maxLen; omega
              have hcby : (r.ins.length + 1) * 48 ≤ 140737488355328 := by omega
              have h1c : ∀ v ∈ [Value.int .i64 k, .int .i64 ov, .int .i64 r.size, .string sv, .int .i64 np], v.oneCell' = true := by intro v hv; simp at hv; rcases hv with rfl | rfl | rfl | rfl | rfl <;> rfl
              obtain ⟨i0, hi, hz0, hz1, hz2⟩ := info_parts info_ins
              clear hW2 hsz r3 hrl f3 c0 c1 q1 hov hsv hnp
              go_region_law
                (refine step_append_lies _ (by rfl) _ _ _ (by rfl) B 73 i0 _ 5 48 Tryd.underlying63 hi hz0 hz1 hz2 rfl (by omega) lv r.ins.length (rows insl r.ins) (by rfl) (show _ from hown.alloc _)
                    ⟨W2.heap.size, 0, none⟩ 1 1 [.int .i64 k, .int .i64 ov, .int .i64 r.size, .string sv, .int .i64 np] (by rfl) (by rfl) (World.news_of_block (cs := #[.int .i64 k, .int .i64 ov, .int .i64 r.size, .string sv, .int .i64 np]) (t := 73) (fr := (0, 0)) (heap_alloc_new W2 _)) h1c
                    (by omega) hc63 hcby (by simp; omega) (W2.heap.size + 1) (by simp) ?_; intro gg cap w3 hown3 hgrow hat hlt3; have hR3 : Blk w3 rb 65 #[.map (some mc), .map (some ml), lv, .int .i64 (sz : Int)] := (hgrow.block rb (by simp; omega) (fun hh => hnb hh.symm)).trans ((Below.heap_alloc W2 _ rb hrl2).trans hR2); have m23 : w3.cell? ⟨rb, 2, none⟩ = some lv := (hR3.cell 2).trans rfl; have f23 : w3.frozen? ⟨rb, 2, none⟩ = false := hR3.frozen 2; have hrl3 : rb < w3.heap.size := hR3.lt)
              all_goals go_wp2_with fail
              all_goals go_end0
              all_goals (rw [← HXS.out] at hown3)
              all_goals (have hfin := RdIs.appended HW2.out (by first | exact ((Below.refl _ _).alloc (Nat.le_refl _) _).drew | exact ((Below.refl _ _).drew.alloc (Nat.le_refl _) _) | exact ((Below.refl _ _).alloc (Nat.le_refl _) _)) hgrow hR2 hown hR3 hown3 HC2.out HL2.out HRM.out (HSZ.out.trans (by rw [HWD.out])) (by have := HSZ.out; have := HF.out; omega) hwB)
              all_goals (refine ⟨hfin.1.1, ?_⟩)
              all_goals (rw [HI.out])
              all_goals exact ⟨rfl, _, hfin.2, hfin.1.2⟩
    · have f1 : decide ((1 : Int) < 1 + (wd : Int)) = false := decide_eq_false (by omega)
      rw [if_neg hwd] at hins
      have hut : ∀ t ∈ rest, t.s.length ≤ 4294967296 ∧ t.pos ≤ 4294967296 := fun t ht => hu t (List.mem_cons_of_mem _ ht)
      obtain ⟨rt, hrt⟩ : ∃ rt, rt = rest := ⟨_, rfl⟩
      rw [← hrt] at hut HTT hc1
      have hdone : insL r u rest = endL r u k 0 noTok rt := hrt ▸ hins
      have hc2 : rt.length ≤ c - 1 := hrt ▸ hc1
      have hnr : rest.length = rt.length := by rw [hrt]
      rw [hnr]
      clear hins hwd hrt hc1 hnr
      have HHD := Lib.hid hdone
      have r3 : (w1).cell? ⟨rb, 3, none⟩ = some (.int .i64 (r.size : Int)) := (hRt.blk.cell 3).trans rfl
      have hrl : rb < (w1).heap.size := hRt.blk.lt
      have HRT := Lib.hid hRt
      have HXT := Lib.hid hXt
      have HW := Lib.hid hbw
      have HU : Hid (∀ t ∈ rt, t.s.length ≤ 4294967296 ∧ t.pos ≤ 4294967296) := Lib.hid hut
      clear hdone hRt hXt hbw hut
      cases rt with
      | cons x rx =>
        have HI := Lib.hid (HHD.out.trans (show endL r u k (0) noTok (x :: rx) = .error (9, x.pos) from rfl))
        obtain ⟨b2, o2, rfl, hb2, hcell2⟩ := reads_flat HTT.out (by simp) (by omega)
        have x1 : (w1).cell? ⟨b2, o2 + 1, none⟩ = some (.int .i64 x.pos) := hcell2 1 _ rfl
        have hb2w : b2 < (w1).heap.size := Nat.lt_of_lt_of_le hb2 HW0.out
        have g1 : decide ((0 : Int) < ((x :: rx).length : Int)) = true := decide_eq_true (by rw [List.length_cons]; omega)
        have g2 : decide (0 < (x :: rx).length) = true := decide_eq_true (by simp)
        have hlx : 0 < (x :: rx).length := by simp
        obtain ⟨nx, hnx⟩ : ∃ nx, nx = (x :: rx).length := ⟨_, rfl⟩
        rw [← hnx] at g1 g2 hlx ⊢
        clear hcell2 hnx
        go_wp2_with (go_at_call 32; refine (fail_any _ _ _).mono ?_; rintro r w2 ⟨hr, hw⟩; subst hr; subst hw)
        refine ⟨rfl, HW.out.mono hE.size, ?_⟩
        rw [HI.out]
        rfl
      | nil =>
        by_cases hfull : 512 < r.size + (1 + wd)
        · have HI := Lib.hid (HHD.out.trans (show endL r u k (0) noTok [] = .error (2, u.pos) by unfold endL; rw [← HWD.out, if_pos hfull]))
          have q1 : decide ((512 : Int) < (r.size : Int) + (1 + (wd : Int))) = true := decide_eq_true (by omega)
          have hrs := HRS.out
          clear hfull
          go_wp2_with (go_at_call 32; refine (fail_any _ _ _).mono ?_; rintro r w2 ⟨hr, hw⟩; subst hr; subst hw)
          refine ⟨rfl, HW.out.mono hE.size, ?_⟩
          rw [HI.out]
          rfl
        · have HI := Lib.hid (HHD.out.trans (show endL r u k (0) noTok [] = .ok ⟨r.labels, r.ins ++ [⟨k, 0, r.size, noTok⟩]⟩ by unfold endL; rw [← HWD.out, if_neg hfull]))
          have q1 : decide ((512 : Int) < (r.size : Int) + (1 + (wd : Int))) = false := decide_eq_false (by omega)
          have hrs := HRS.out
          have f3 : (w1).frozen? ⟨rb, 3, none⟩ = false := HRT.out.blk.frozen 3
          have HF := Lib.hid hfull
          clear hfull
          go_upto_region 16 with fail
          obtain ⟨sz, hsz⟩ : ∃ sz, sz = r.size + (1 + wd) := ⟨_, rfl⟩
          obtain ⟨W2, hW2⟩ : ∃ W2, W2 = (w1).setCell ⟨rb, 3, none⟩ (.int .i64 ((r.size : Int) + (1 + (wd : Int)))) := ⟨_, rfl⟩
          rw [← hW2]
          have hR2 : Blk W2 rb 65 #[.map (some mc), .map (some ml), lv, .int .i64 (sz : Int)] := by
            rw [hW2, hsz]
            have := HRT.out.blk.set_ 3 (.int .i64 ((r.size : Int) + (1 + (wd : Int))))
            rw [show (((r.size + (1 + wd) : Nat)) : Int) = (r.size : Int) + (1 + (wd : Int)) by omega]
            exact this
          have hX2 : Blk W2 xb 73 (insC k 0 r.size noTok) := hW2 ▸ HXT.out.far (p := ⟨rb, 3, none⟩) (HXT.out.ne_ HRT.out.blk (by decide)) _
          have hown : W2.ownsRow B 73 5 lv r.ins.length (rows insl r.ins) := hW2 ▸ own_set HRT.out.own HRT.out.blk (by decide) _
          have HC2 : Hid (SMap W2 mc 41 codeF) := Lib.hid (HRT.out.codes.kept (by rw [hW2]; exact Below.heap_setCell _ ⟨rb, 3, none⟩ _ mc (HRT.out.codes.ne_blk HRT.out.blk)))
          have HL2 : Hid (SMap W2 ml r.labels.length (labF2 r.labels)) := Lib.hid (HRT.out.labs.kept (by rw [hW2]; exact Below.heap_setCell _ ⟨rb, 3, none⟩ _ ml (HRT.out.labs.ne_blk HRT.out.blk)))
          have HW2 : Hid (Frm w W2 (RdS rb ml lv)) := Lib.hid (hW2 ▸ (Frm.of_below (S := RdS rb ml lv) HW.out).set rb 3 _ (.inl (.inl rfl)))
          have HSZ := Lib.hid hsz
          have HRM := Lib.hid (And.intro HRT.out.rbB (And.intro HRT.out.mcB (And.intro HRT.out.mlB (And.intro HRT.out.ne HRT.out.len))))
          have hwB : B ≤ w.heap.size := hE.size
          have hWB : B ≤ W2.heap.size := Nat.le_trans hwB HW2.out.size
          have m2 : W2.cell? ⟨rb, 2, none⟩ = some lv := (hR2.cell 2).trans rfl
          have n0 : W2.cell? ⟨xb, 0, none⟩ = some (.int .i64 k) := (hX2.cell 0).trans rfl
          obtain ⟨ov, hov⟩ : ∃ ov : Int, ov = 0 := ⟨_, rfl⟩
          obtain ⟨sv, hsv⟩ : ∃ sv : ByteArray, sv = ⟨(noTok).s.toArray⟩ := ⟨_, rfl⟩
          obtain ⟨np, hnp⟩ : ∃ np : Int, np = (noTok).pos := ⟨_, rfl⟩
          have HXS : Hid (insl ⟨k, 0, r.size, noTok⟩ = [.int .i64 k, .int .i64 ov, .int .i64 r.size, .string sv, .int .i64 np]) := Lib.hid (by rw [hov, hsv, hnp]; rfl)
          have n1 : W2.cell? ⟨xb, 1, none⟩ = some (.int .i64 ov) := hov ▸ (hX2.cell 1).trans rfl
          have n2 : W2.cell? ⟨xb, 2, none⟩ = some (.int .i64 r.size) := (hX2.cell 2).trans rfl
          have n3 : W2.cell? ⟨xb, 3, none⟩ = some (.string sv) := hsv ▸ (hX2.cell 3).trans rfl
          have n4 : W2.cell? ⟨xb, 4, none⟩ = some (.int .i64 np) := hnp ▸ (hX2.cell 4).trans rfl
          have hxl : xb < W2.heap.size := hX2.lt
          have hrl2 : rb < W2.heap.size := hR2.lt
          have hnb := own_ne_blk hown hR2 (by decide)
          have hlen := HRT.out.len
          have hc63 : r.ins.length + 1 ≤ maxLen := by unfold maxLen; omega
          have hcby : (r.ins.length + 1) * 48 ≤ 140737488355328 := by omega
          have h1c : ∀ v ∈ [Value.int .i64 k, .int .i64 ov, .int .i64 r.size, .string sv, .int .i64 np], v.oneCell' = true := by intro v hv; simp at hv; rcases hv with rfl | rfl | rfl | rfl | rfl <;> rfl
          obtain ⟨i0, hi, hz0, hz1, hz2⟩ := info_parts info_ins
          clear hW2 hsz r3 hrl f3 c0 c1 q1 hov hsv hnp
          go_region_law
            (refine step_append_lies _ (by rfl) _ _ _ (by rfl) B 73 i0 _ 5 48 Tryd.underlying63 hi hz0 hz1 hz2 rfl (by omega) lv r.ins.length (rows insl r.ins) (by rfl) (show _ from hown.alloc _)
                ⟨W2.heap.size, 0, none⟩ 1 1 [.int .i64 k, .int .i64 ov, .int .i64 r.size, .string sv, .int .i64 np] (by rfl) (by rfl) (World.news_of_block (cs := #[.int .i64 k, .int .i64 ov, .int .i64 r.size, .string sv, .int .i64 np]) (t := 73) (fr := (0, 0)) (heap_alloc_new W2 _)) h1c
                (by omega) hc63 hcby (by simp; omega) (W2.heap.size + 1) (by simp) ?_; intro gg cap w3 hown3 hgrow hat hlt3; have hR3 : Blk w3 rb 65 #[.map (some mc), .map (some ml), lv, .int .i64 (sz : Int)] := (hgrow.block rb (by simp; omega) (fun hh => hnb hh.symm)).trans ((Below.heap_alloc W2 _ rb hrl2).trans hR2); have m23 : w3.cell? ⟨rb, 2, none⟩ = some lv := (hR3.cell 2).trans rfl; have f23 : w3.frozen? ⟨rb, 2, none⟩ = false := hR3.frozen 2; have hrl3 : rb < w3.heap.size := hR3.lt)
          all_goals go_wp2_with fail
          all_goals go_end0
          all_goals (rw [← HXS.out] at hown3)
          all_goals (have hfin := RdIs.appended HW2.out (by first | exact ((Below.refl _ _).alloc (Nat.le_refl _) _).drew | exact ((Below.refl _ _).drew.alloc (Nat.le_refl _) _) | exact ((Below.refl _ _).alloc (Nat.le_refl _) _)) hgrow hR2 hown hR3 hown3 HC2.out HL2.out HRM.out (HSZ.out.trans (by rw [HWD.out])) (by have := HSZ.out; have := HF.out; omega) hwB)
          all_goals (refine ⟨hfin.1.1, ?_⟩)
          all_goals (rw [HI.out])
          all_goals exact ⟨rfl, _, hfin.2, hfin.1.2⟩
end Go.Proofs.YthghnihlfdoefaaDoor
