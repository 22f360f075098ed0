/- carouselref24.Print: walked (under way). -/
import Derived.Test.YtiheggkkgbfndaaGreatDoorK44
import Derived.Deep.RegionHeldLaw
namespace Go.Proofs.YtiheggkkgbfndaaGreatDoor
open Go.RowKit Go.Joins Go.ChangeShapes Go.WideShapes Go.Deep
set_option linter.unusedVariables false
set_option linter.unusedSimpArgs false
set_option maxRecDepth 100000

theorem rasm_any {B : Nat} (p : List UInt8) (w : World) (hE : EnvIn B w) (hs : p.length ≤ 4611686018427387904) : Calls Tryz.prog 39 #[.string ⟨p.toArray⟩] w (AsmPost p w) := by
 have hz : (⟨p.toArray⟩ : ByteArray).size = p.length := by rw [size_list]
 have hl := bytesL_length ⟨p.toArray⟩
 refine (rprint_any ⟨p.toArray⟩ w hE (by omega)).mono ?_
 rintro e w' ⟨hb, h⟩
 refine ⟨hb, ?_⟩
 rcases h with ⟨h1, rfl⟩ | ⟨h1, L, q, hD, hq, hat, rfl⟩ | ⟨h1, L, hD, rfl⟩
 ·refine .inr ⟨?_, 2, by decide, rfl⟩
  unfold progText
  rw [dif_neg]
  rintro ⟨L, h5, _⟩
  omega
 ·refine .inr ⟨?_, 10, by decide, rfl⟩
  unfold progText
  rw [dif_neg]
  rintro ⟨L', h5, hD'⟩
  obtain ⟨_, e⟩ := hD.det hD' (.inr hat) (.inl (by omega))
  omega
 ·rw [hz] at hD h1
  exact .inl ⟨_, progText_some h1 hD, h1, rfl⟩
structure CfgS (b a0 : Nat) (x0 x1 x2 x3 x5 : Int) (W0 w : World) : Prop where
 c0 : w.cell? ⟨b, 0, none⟩ = some (.int .i64 x0)
 c1 : w.cell? ⟨b, 1, none⟩ = some (.int .i64 x1)
 c2 : w.cell? ⟨b, 2, none⟩ = some (.int .i64 x2)
 c3 : w.cell? ⟨b, 3, none⟩ = some (.int .i64 x3)
 c5 : w.cell? ⟨b, 5, none⟩ = some (.int .i64 x5)
 bl : Below W0.heap.size W0 w
theorem CfgS.below {b a0 : Nat} {x0 x1 x2 x3 x5 : Int} {W0 w w' : World} (h : CfgS b a0 x0 x1 x2 x3 x5 W0 w) (hb : Below w.heap.size w w') : CfgS b a0 x0 x1 x2 x3 x5 W0 w' :=
 ⟨(hb.cell (World.block_lt_of_cell? w _ h.c0)).trans h.c0, (hb.cell (World.block_lt_of_cell? w _ h.c1)).trans h.c1, (hb.cell (World.block_lt_of_cell? w _ h.c2)).trans h.c2, (hb.cell (World.block_lt_of_cell? w _ h.c3)).trans h.c3, (hb.cell (World.block_lt_of_cell? w _ h.c5)).trans h.c5, h.bl.trans (hb.mono h.bl.size)⟩
structure RegS (b d o n c i : Nat) (k cap : Int) (W0 w : World) : Prop where
 c6 : w.cell? ⟨b, 6, none⟩ = some (.slice (some ⟨d, o, none⟩) n c)
 r0 : w.cell? ⟨d, o + i * 2, none⟩ = some (.int .i64 k)
 r1 : w.cell? ⟨d, o + i * 2 + 1, none⟩ = some (.int .i64 cap)
 bl : Below W0.heap.size W0 w
theorem RegS.below {b d o n c i : Nat} {k cap : Int} {W0 w w' : World} (h : RegS b d o n c i k cap W0 w) (hb : Below w.heap.size w w') : RegS b d o n c i k cap W0 w' :=
 ⟨(hb.cell (World.block_lt_of_cell? w _ h.c6)).trans h.c6, (hb.cell (World.block_lt_of_cell? w _ h.r0)).trans h.r0, (hb.cell (World.block_lt_of_cell? w _ h.r1)).trans h.r1, h.bl.trans (hb.mono h.bl.size)⟩
theorem kinds_len : ∀ k, k < 4 → (kindsL.getD k []).length ≤ 7 := by decide
set_option maxHeartbeats 8000000 in
theorem rsprint_any {B : Nat} (s : RSet) (l : List RLine) (C : Nat) (rv pv tv lv : Value) (w : World) (hC : C ≤ w.heap.size) (hS : RSetRd w C s rv pv tv) (hL : RLinesRd w C l lv) (hm : manyR l ≤ 9223372036854775807) (hE : EnvIn B w) (href : refOk s) (hlin : linedR l) (h64 : ∀ t ∈ s.thr, ∀ j ∈ t, ∀ v ∈ j.prog :: j.args, i64ok v) (hln : l.length ≤ 1000000000000) :
  Calls Tryz.prog 14 #[.agg (setupC s.cfg rv pv tv), lv] w fun e w' => PrintE s l e ∧ Below w.heap.size w w' := by
 have hmay := href.1
 obtain ⟨⟨a0, a1, a2, a3, a4, a5⟩, hcf⟩ : ∃ c, c = s.cfg := ⟨_, rfl⟩
 have HREF0 : ∀ W, Below w.heap.size w W → Calls Tryz.prog 15 #[.agg (setupC s.cfg rv pv tv)] W fun e w' => e = .returned (.int .i64 0) ∧ Below W.heap.size W w' := fun W hW => (rrefuses_any s w.heap.size rv pv tv W hW.size ((hS.more hC).below hW)).mono fun e w' ⟨h1, h2⟩ => by
  rcases h1 with ⟨_, h1⟩ | ⟨h1, _⟩
  ·exact ⟨h1, h2⟩
  ·exact absurd href h1
 have HLIN0 : ∀ W, Below w.heap.size w W → Calls Tryz.prog 36 #[lv] W fun e w' => e = .returned (.bool true) ∧ Below W.heap.size W w' := fun W hW => (rlined_any l w.heap.size lv W hW.size hm ((hL.more hC).below hW)).mono fun e w' ⟨h1, h2⟩ => ⟨by rw [h1, decide_eq_true hlin], h2⟩
 rw [← hcf] at HREF0 ⊢
 simp only [setupC] at HREF0 ⊢
 have HREF := Lib.hid HREF0
 have HLIN := Lib.hid HLIN0
 obtain ⟨w1, hw1⟩ : ∃ w1, w1 = w.alloc (.cells #[.int .i64 a0, .int .i64 a1, .int .i64 a2, .int .i64 a3, .bool a4, .int .i64 a5, rv, pv, tv] 29) := ⟨_, rfl⟩
 obtain ⟨b1, hb1⟩ : ∃ b1, b1 = w.heap.size := ⟨_, rfl⟩
 have HK1 : Hid (Blk w1 b1 29 #[.int .i64 a0, .int .i64 a1, .int .i64 a2, .int .i64 a3, .bool a4, .int .i64 a5, rv, pv, tv]) := Lib.hid (by rw [hw1, hb1]; exact Blk.new _ _ _)
 have HB1 : Hid (Below w.heap.size w w1) := Lib.hid (hw1 ▸ (Below.refl _ _).alloc (Nat.le_refl _) _)
 obtain ⟨Rr, nr, cr, hrv⟩ : ∃ R n c, rv = .slice R n c := by obtain ⟨⟨R, c, h, _⟩, _⟩ := hS; exact ⟨R, _, c, h⟩
 obtain ⟨Rp, np, cp, hpv⟩ : ∃ R n c, pv = .slice R n c := by obtain ⟨_, ⟨R, c, h, _⟩, _⟩ := hS; exact ⟨R, _, c, h⟩
 obtain ⟨Rt, nt, ct, htv⟩ : ∃ R n c, tv = .slice R n c := by obtain ⟨_, _, ⟨R, c, _, h, _⟩⟩ := hS; exact ⟨R, _, c, h⟩
 obtain ⟨Rl, nl, cl, hlv⟩ : ∃ R n c, lv = .slice R n c := by obtain ⟨_, R, c, _, h, _⟩ := hL; exact ⟨R, _, c, h⟩
 subst hrv hpv htv hlv
 have HRC : Hid (nr = s.regs.length ∧ nr ≤ 8 ∧ ∀ i, i < nr → ∃ (b off : Nat) (k : Nat) (cap : Int), Rr = some ⟨b, off, none⟩ ∧ b < w.heap.size ∧ s.regs[i]? = some ⟨(k : Int), cap⟩ ∧ 1 ≤ k ∧ k ≤ 4 ∧ i64ok cap ∧ ∀ W, Below w.heap.size w W → W.cell? ⟨b, off + i * 2, none⟩ = some (.int .i64 (k : Int)) ∧ W.cell? ⟨b, off + i * 2 + 1, none⟩ = some (.int .i64 cap)) := Lib.hid (by
  obtain ⟨⟨R, c, h, _, h3⟩, _⟩ := hS.more hC
  injection h with h1 h2 _
  subst h1
  have hco := hmay.1
  refine ⟨h2, by rw [h2]; exact hco.2.2.2.2.2.2.2.2.2.2.1, fun i hi => ?_⟩
  obtain ⟨x, hx⟩ : ∃ x, s.regs[i]? = some x := ⟨_, List.getElem?_eq_getElem (by omega)⟩
  obtain ⟨b, off, rfl, hb, hc⟩ := reg_cells' h3 rfl (by omega)
  obtain ⟨o1, o2, o3, o4⟩ := hco.2.2.2.2.2.2.2.2.2.2.2 x (List.mem_of_getElem? hx)
  obtain ⟨kd, cap⟩ := x
  simp only at o1 o2 o3 o4
  obtain ⟨k, rfl⟩ : ∃ k : Nat, kd = (k : Int) := ⟨kd.toNat, by omega⟩
  exact ⟨b, off, k, cap, rfl, hb, hx, by omega, by omega, by unfold i64ok; omega, fun W hW => ⟨(hW.cell (p := ⟨b, off + i * 2, none⟩) hb).trans (hc i _ hx).1, (hW.cell (p := ⟨b, off + i * 2 + 1, none⟩) hb).trans (hc i _ hx).2⟩⟩)
 have HPC : Hid (np = s.progs.length ∧ np ≤ 16 ∧ ∀ i, i < np → ∃ (b off : Nat) (p : List UInt8), Rp = some ⟨b, off, none⟩ ∧ b < w.heap.size ∧ s.progs[i]? = some p ∧ p.length ≤ 512 ∧ ∀ W, Below w.heap.size w W → W.cell? ⟨b, off + i, none⟩ = some (.string ⟨p.toArray⟩)) := Lib.hid (by
  obtain ⟨_, ⟨R, c, h, _, h3⟩, _⟩ := hS.more hC
  injection h with h1 h2 _
  subst h1
  refine ⟨h2, by rw [h2]; exact hmay.2.2.1, fun i hi => ?_⟩
  obtain ⟨b, off, g1, g2, g3⟩ := list_cells (α := List UInt8) (enc := stC) (l := s.progs) (f := fun x => .string ⟨x.toArray⟩) h3 (fun _ => rfl) rfl (by omega)
  obtain ⟨p, hp⟩ : ∃ x, s.progs[i]? = some x := ⟨_, List.getElem?_eq_getElem (by omega)⟩
  exact ⟨b, off, p, g1, g2, hp, href.2 p (List.mem_of_getElem? hp), fun W hW => (hW.cell g2).trans (g3 i p hp)⟩)
 have HTC : Hid (nt = s.thr.length ∧ nt ≤ 8 ∧ ThrCells w Rt s.thr nt) := Lib.hid (by
  obtain ⟨R, c, h, hT⟩ := thr_all (Nat.le_refl _) (hS.more hC)
  injection h with h1 h2 _
  subst h1
  rw [h2]
  exact ⟨rfl, hmay.2.1, hT⟩)
 have HLC : Hid (nl = l.length ∧ nl ≤ 1000000000000 ∧ LineCells w Rl l nl) := Lib.hid (by
  have hnl : nl = l.length := by obtain ⟨_, R, c, _, h, _⟩ := hL; injection h
  exact ⟨hnl, hnl ▸ hln, line_all (Nat.le_refl _) (hL.more hC) hnl.symm⟩)
 have HMY := Lib.hid hmay
 have HLN := Lib.hid hlin
 have HE := Lib.hid hE
 have HCF := Lib.hid hcf
 have H64 := Lib.hid h64
 have k0 : i64ok a0 := by have h := hmay.1; rw [← hcf] at h; have h1 := h.1; have h2 := h.2.1; simp only at h1 h2; unfold i64ok; omega
 have k1 : i64ok a1 := by have h := hmay.1; rw [← hcf] at h; have h1 := h.2.2.1; have h2 := h.2.2.2.1; simp only at h1 h2; unfold i64ok; omega
 have k2 : i64ok a2 := by have h := hmay.1; rw [← hcf] at h; have h1 := h.2.2.2.2.1; have h2 := h.2.2.2.2.2.1; simp only at h1 h2; unfold i64ok; omega
 have k3 : i64ok a3 := by have h := hmay.1; rw [← hcf] at h; have h1 := h.2.2.2.2.2.2.1; have h2 := h.2.2.2.2.2.2.2.1; simp only at h1 h2; unfold i64ok; omega
 have k5 : i64ok a5 := by have h := hmay.1; rw [← hcf] at h; have h1 := h.2.2.2.2.2.2.2.2.1; have h2 := h.2.2.2.2.2.2.2.2.2.1; simp only at h1 h2; unfold i64ok; omega
 have z0 : (⟨(Go.Lib.itoa a0).toArray⟩ : ByteArray).size ≤ 21 := by rw [size_list]; exact itoa_len a0 k0
 have z1 : (⟨(Go.Lib.itoa a1).toArray⟩ : ByteArray).size ≤ 21 := by rw [size_list]; exact itoa_len a1 k1
 have z2 : (⟨(Go.Lib.itoa a2).toArray⟩ : ByteArray).size ≤ 21 := by rw [size_list]; exact itoa_len a2 k2
 have z3 : (⟨(Go.Lib.itoa a3).toArray⟩ : ByteArray).size ≤ 21 := by rw [size_list]; exact itoa_len a3 k3
 have z5 : (⟨(Go.Lib.itoa a5).toArray⟩ : ByteArray).size ≤ 21 := by rw [size_list]; exact itoa_len a5 k5
 have u7 : (⟨#[99, 111, 110, 102, 105, 103, 32]⟩ : ByteArray).size = 7 := rfl
 have u1 : (⟨#[32]⟩ : ByteArray).size = 1 := rfl
 have um : (⟨#[32, 109, 117, 108, 116, 105, 10]⟩ : ByteArray).size = 7 := rfl
 have us : (⟨#[32, 115, 105, 110, 103, 108, 101, 10]⟩ : ByteArray).size = 8 := rfl
 obtain ⟨s1, hs1, g1⟩ := sum_text ⟨#[99, 111, 110, 102, 105, 103, 32]⟩ ⟨(Go.Lib.itoa a0).toArray⟩ (by omega)
 have y1 : s1.size ≤ 28 := by rw [size_list s1, hs1, List.length_append, ← size_list, ← size_list]; omega
 obtain ⟨s2, hs2, g2⟩ := sum_text s1 ⟨#[32]⟩ (by omega)
 have y2 : s2.size ≤ 29 := by rw [size_list s2, hs2, List.length_append, ← size_list, ← size_list]; omega
 obtain ⟨s3, hs3, g3⟩ := sum_text s2 ⟨(Go.Lib.itoa a1).toArray⟩ (by omega)
 have y3 : s3.size ≤ 50 := by rw [size_list s3, hs3, List.length_append, ← size_list, ← size_list]; omega
 obtain ⟨s4, hs4, g4⟩ := sum_text s3 ⟨#[32]⟩ (by omega)
 have y4 : s4.size ≤ 51 := by rw [size_list s4, hs4, List.length_append, ← size_list, ← size_list]; omega
 obtain ⟨s5, hs5, g5⟩ := sum_text s4 ⟨(Go.Lib.itoa a2).toArray⟩ (by omega)
 have y5 : s5.size ≤ 72 := by rw [size_list s5, hs5, List.length_append, ← size_list, ← size_list]; omega
 obtain ⟨s6, hs6, g6⟩ := sum_text s5 ⟨#[32]⟩ (by omega)
 have y6 : s6.size ≤ 73 := by rw [size_list s6, hs6, List.length_append, ← size_list, ← size_list]; omega
 obtain ⟨s7, hs7, g7⟩ := sum_text s6 ⟨(Go.Lib.itoa a3).toArray⟩ (by omega)
 have y7 : s7.size ≤ 94 := by rw [size_list s7, hs7, List.length_append, ← size_list, ← size_list]; omega
 obtain ⟨s8, hs8, g8⟩ := sum_text s7 ⟨#[32]⟩ (by omega)
 have y8 : s8.size ≤ 95 := by rw [size_list s8, hs8, List.length_append, ← size_list, ← size_list]; omega
 obtain ⟨s9, hs9, g9⟩ := sum_text s8 ⟨(Go.Lib.itoa a5).toArray⟩ (by omega)
 have y9 : s9.size ≤ 116 := by rw [size_list s9, hs9, List.length_append, ← size_list, ← size_list]; omega
 obtain ⟨sh, hsh, gm, gs, ysh⟩ : ∃ sh : ByteArray, sh.data.toList = configT ⟨a0, a1, a2, a3, a4, a5⟩ ∧ (a4 = true → ∀ W, (Op.stringOp .add s9 ⟨#[32, 109, 117, 108, 116, 105, 10]⟩).run Tryz.prog W = .ok (.string sh) W) ∧ (a4 = false → ∀ W, (Op.stringOp .add s9 ⟨#[32, 115, 105, 110, 103, 108, 101, 10]⟩).run Tryz.prog W = .ok (.string sh) W) ∧ sh.size ≤ 300 := by
  cases a4
  ·obtain ⟨sh, h1, h2⟩ := sum_text s9 ⟨#[32, 115, 105, 110, 103, 108, 101, 10]⟩ (by omega)
   refine ⟨sh, ?_, (fun h => (by cases h)), (fun _ => h2), by rw [size_list sh, h1, List.length_append, ← size_list, ← size_list]; omega⟩
   rw [h1, hs9, hs8, hs7, hs6, hs5, hs4, hs3, hs2, hs1]
   simp [configT, wConfig, wSingle]
  ·obtain ⟨sh, h1, h2⟩ := sum_text s9 ⟨#[32, 109, 117, 108, 116, 105, 10]⟩ (by omega)
   refine ⟨sh, ?_, (fun _ => h2), (fun h => (by cases h)), by rw [size_list sh, h1, List.length_append, ← size_list, ← size_list]; omega⟩
   rw [h1, hs9, hs8, hs7, hs6, hs5, hs4, hs3, hs2, hs1]
   simp [configT, wConfig, wMulti]
 have HSH := Lib.hid hsh
 have HGM := Lib.hid gm
 have HGS := Lib.hid gs
 have HSZ := Lib.hid ysh
 clear hS hL hm hcf hC hE href hmay hlin h64 hln HREF0 HLIN0 hsh gm gs ysh hs1 hs2 hs3 hs4 hs5 hs6 hs7 hs8 hs9 y1 y2 y3 y4 y5 y6 y7 y8 y9 z0 z1 z2 z3 z5 u7 u1 um us
 go_enter Tryz.func14, Tryz.ntmps14
 go_upto_region 1 with fail
 rw [← hw1, ← hb1]
 clear hw1 hb1
 have p0 := (HK1.out.cell 0).trans (show _ = some (Value.int .i64 a0) from rfl)
 have p1 := (HK1.out.cell 1).trans (show _ = some (Value.int .i64 a1) from rfl)
 have p2 := (HK1.out.cell 2).trans (show _ = some (Value.int .i64 a2) from rfl)
 have p3 := (HK1.out.cell 3).trans (show _ = some (Value.int .i64 a3) from rfl)
 have p4 := (HK1.out.cell 4).trans (show _ = some (Value.bool a4) from rfl)
 have p5 := (HK1.out.cell 5).trans (show _ = some (Value.int .i64 a5) from rfl)
 have p6 := (HK1.out.cell 6).trans (show _ = some (Value.slice Rr nr cr) from rfl)
 have p7 := (HK1.out.cell 7).trans (show _ = some (Value.slice Rp np cp) from rfl)
 have p8 := (HK1.out.cell 8).trans (show _ = some (Value.slice Rt nt ct) from rfl)
 have pl := HK1.out.lt
 go_upto_region 3 with (first | (go_at_call 15; refine (HREF.out _ HB1.out).mono ?_; rintro e w2 ⟨rfl, hb2⟩; have HB2 := Lib.hid (HB1.out.trans (hb2.mono HB1.out.size)); have HW2 := Lib.hid (HK1.out.below hb2 HK1.out.lt); clear hb2) | (go_at_call 36; refine (HLIN.out _ HB2.out).mono ?_; rintro e w3 ⟨rfl, hb3⟩; have HB3 := Lib.hid (HB2.out.trans (hb3.mono HB2.out.size)); have HW3 := Lib.hid (HW2.out.below hb3 HW2.out.lt); clear hb3))
 clear p0 p1 p2 p3 p4 p5 p6 p7 p8 pl
 go_upto_region 5 with fail
 have p0 := (HW3.out.cell 0).trans (show _ = some (Value.int .i64 a0) from rfl)
 have p1 := (HW3.out.cell 1).trans (show _ = some (Value.int .i64 a1) from rfl)
 have p2 := (HW3.out.cell 2).trans (show _ = some (Value.int .i64 a2) from rfl)
 have p3 := (HW3.out.cell 3).trans (show _ = some (Value.int .i64 a3) from rfl)
 have p4 := (HW3.out.cell 4).trans (show _ = some (Value.bool a4) from rfl)
 have p5 := (HW3.out.cell 5).trans (show _ = some (Value.int .i64 a5) from rfl)
 have p6 := (HW3.out.cell 6).trans (show _ = some (Value.slice Rr nr cr) from rfl)
 have pl := HW3.out.lt
 go_upto_region 6 with fail
 obtain ⟨w4, hw4⟩ : ∃ W, W = w3.alloc (.cells #[.int .i64 a0, .int .i64 a1, .int .i64 a2, .int .i64 a3, .bool a4, .int .i64 a5, .slice Rr nr cr] 25) := ⟨_, rfl⟩
 obtain ⟨b4, hb4⟩ : ∃ b, b = w3.heap.size := ⟨_, rfl⟩
 have HK4 : Hid (Blk w4 b4 25 #[.int .i64 a0, .int .i64 a1, .int .i64 a2, .int .i64 a3, .bool a4, .int .i64 a5, .slice Rr nr cr]) := Lib.hid (by rw [hw4, hb4]; exact Blk.new _ _ _)
 have HB34 : Hid (Below w3.heap.size w3 w4) := Lib.hid (hw4 ▸ (Below.refl _ _).alloc (Nat.le_refl _) _)
 rw [← hw4, ← hb4]
 clear hw4 hb4 p0 p1 p2 p3 p4 p5 p6 pl
 have HC0 : Hid (CfgS b4 0 a0 a1 a2 a3 a5 w4 w4.drew) := Lib.hid ⟨(HK4.out.cell 0).trans rfl, (HK4.out.cell 1).trans rfl, (HK4.out.cell 2).trans rfl, (HK4.out.cell 3).trans rfl, (HK4.out.cell 5).trans rfl, (Below.refl _ _).drew⟩
 have h0 : ∀ W, CfgS b4 0 a0 a1 a2 a3 a5 w4 W → W.cell? ⟨b4, 0, none⟩ = some (.int .i64 a0) := fun W h => h.c0
 have h1 : ∀ W, CfgS b4 0 a0 a1 a2 a3 a5 w4 W → W.cell? ⟨b4, 1, none⟩ = some (.int .i64 a1) := fun W h => h.c1
 have h2 : ∀ W, CfgS b4 0 a0 a1 a2 a3 a5 w4 W → W.cell? ⟨b4, 2, none⟩ = some (.int .i64 a2) := fun W h => h.c2
 have h3 : ∀ W, CfgS b4 0 a0 a1 a2 a3 a5 w4 W → W.cell? ⟨b4, 3, none⟩ = some (.int .i64 a3) := fun W h => h.c3
 have h5 : ∀ W, CfgS b4 0 a0 a1 a2 a3 a5 w4 W → W.cell? ⟨b4, 5, none⟩ = some (.int .i64 a5) := fun W h => h.c5
 go_region_held (CfgS b4 0 a0 a1 a2 a3 a5 w4) (first | exact HC0.out | exact CfgS.below (by assumption) hbx) ((go_at_call 37; refine (rtext_any _ (by first | exact k0 | exact k1 | exact k2 | exact k3 | exact k5) _).mono ?_; rintro e wx ⟨hr, hbx⟩; subst hr))
 have HX : Hid (Below w4.heap.size w4 wx) := Lib.hid (CfgS.bl (W0 := w4) (b := b4) (a0 := 0) (x0 := a0) (x1 := a1) (x2 := a2) (x3 := a3) (x5 := a5) (by assumption))
 clear h0 h1 h2 h3 h5 hbx HC0 g1 g2 g3 g4 g5 g6 g7 g8 g9 k0 k1 k2 k3 k5
 have HKX := Lib.hid (HK4.out.below HX.out HK4.out.lt)
 have q4 := (HKX.out.cell 4).trans (show _ = some (Value.bool a4) from rfl)
 have ql := HKX.out.lt
 go_upto_region 7 with fail
 go_upto_if 56 with fail
 go_cut [9] from 57 to 60 (fun v wc => v = .string sh ∧ wc = wx)
 case first =>
  cases a4
  ·have gs := HGS.out rfl
   go_wp2_with fail
   all_goals go_meet
   all_goals exact ⟨rfl, rfl⟩
  ·have gm := HGM.out rfl
   go_wp2_with fail
   all_goals go_meet
   all_goals exact ⟨rfl, rfl⟩
 obtain ⟨rfl, hwc⟩ := hcut
 obtain rfl := hwc.symm
 clear q4 ql
 have hnr8 := HRC.out.2.1
 go_upto_region 11 with fail
 go_loopg [9, 10] nr (fun gk tv iv W => ∃ (i : Nat) (t : ByteArray), iv = .int .i64 i ∧ i ≤ nr ∧ gk + i = nr ∧ tv = .string t ∧ Hid (t.data.toList = configT ⟨a0, a1, a2, a3, a4, a5⟩ ++ (s.regs.take i).flatMap regionT) ∧ Hid (t.size ≤ 300 + 60 * i) ∧ Hid (Below w4.heap.size w4 W))
 case atStart => exact ⟨0, sh, rfl, Nat.zero_le _, rfl, rfl, Lib.hid (by rw [HSH.out]; simp), HSZ, HX⟩
 case round =>
  clear HX HKX HSH HSZ HGM HGS
  obtain ⟨i, t, rfl, hi, hgk, rfl, HT, HTZ, HB⟩ := hrel
  have HG := Lib.hid hgk
  clear hgk
  have HKX := Lib.hid (HK4.out.below HB.out HK4.out.lt)
  have q6 := (HKX.out.cell 6).trans (show _ = some (Value.slice Rr nr cr) from rfl)
  have ql := HKX.out.lt
  by_cases hil : i < nr
  ·have e1 : decide ((i : Int) < (nr : Int)) = true := decide_eq_true (by omega)
   have e2 : decide (i < nr) = true := decide_eq_true hil
   have e3 : (i : Int) < (nr : Int) := by omega
   have zw : IntKind.i64.wrap ((i : Int) + 1) = (i : Int) + 1 := by rw [IntKind.wrap_i64]; omega
   obtain ⟨d, o, k, cap, rfl, hd, hx, hk1, hk4, hcap, hc⟩ := HRC.out.2.2 i hil
   have HBX : Hid (Below w.heap.size w wr) := Lib.hid ((HB3.out.trans (HB34.out.mono HB3.out.size)).trans (HB.out.mono (HB3.out.trans (HB34.out.mono HB3.out.size)).size))
   have hc1 := hc wr HBX.out
   have HX := Lib.hid hx
   have htz : t.size ≤ 1000 := by have := HTZ.out; omega
   obtain ⟨kn, hkn⟩ : ∃ kn : ByteArray, kn = ⟨(kindsL.getD (k - 1) []).toArray⟩ := ⟨_, rfl⟩
   have zk : kn.size ≤ 7 := by rw [hkn, size_list]; exact kinds_len (k - 1) (by omega)
   have HKN : Hid (∀ W, Calls Tryz.prog 38 #[.int .i64 (k : Int)] W fun e w' => e = .returned (.string kn) ∧ w' = W) := Lib.hid fun W => by
    rw [hkn]
    exact rkind_any k ⟨hk1, hk4⟩ W
   have zc : (⟨(Go.Lib.itoa cap).toArray⟩ : ByteArray).size ≤ 21 := by rw [size_list]; exact itoa_len cap hcap
   have u1 : (⟨#[32]⟩ : ByteArray).size = 1 := rfl
   have u2 : (⟨#[10]⟩ : ByteArray).size = 1 := rfl
   have u7 : (⟨#[114, 101, 103, 105, 111, 110, 32]⟩ : ByteArray).size = 7 := rfl
   obtain ⟨r1, hr1, g1⟩ := sum_text t ⟨#[114, 101, 103, 105, 111, 110, 32]⟩ (by omega)
   have y1 : r1.size = t.size + 7 := by rw [size_list r1, hr1, List.length_append, ← size_list, ← size_list]; rfl
   obtain ⟨r2, hr2, g2⟩ := sum_text r1 kn (by omega)
   have y2 : r2.size ≤ r1.size + 7 := by rw [size_list r2, hr2, List.length_append, ← size_list, ← size_list]; omega
   obtain ⟨r3, hr3, g3⟩ := sum_text r2 ⟨#[32]⟩ (by omega)
   have y3 : r3.size = r2.size + 1 := by rw [size_list r3, hr3, List.length_append, ← size_list, ← size_list]; rfl
   obtain ⟨r4, hr4, g4⟩ := sum_text r3 ⟨(Go.Lib.itoa cap).toArray⟩ (by omega)
   have y4 : r4.size ≤ r3.size + 21 := by rw [size_list r4, hr4, List.length_append, ← size_list, ← size_list]; omega
   obtain ⟨r5, hr5, g5⟩ := sum_text r4 ⟨#[10]⟩ (by omega)
   have y5 : r5.size = r4.size + 1 := by rw [size_list r5, hr5, List.length_append, ← size_list, ← size_list]; rfl
   have HR : Hid (r5.data.toList = configT ⟨a0, a1, a2, a3, a4, a5⟩ ++ (s.regs.take (i + 1)).flatMap regionT) := Lib.hid (by
    rw [flat_take regionT s.regs i _ HX.out, hr5, hr4, hr3, hr2, hr1, HT.out, hkn]
    simp [regionT, rowT, wRegion])
   have HRZ : Hid (r5.size ≤ 300 + 60 * (i + 1)) := Lib.hid (by have := HTZ.out; omega)
   have HC0 : Hid (RegS b4 d o nr cr i k cap wr wr.drew) := Lib.hid ⟨q6, hc1.1, hc1.2, (Below.refl _ _).drew⟩
   have h6 : ∀ W, RegS b4 d o nr cr i k cap wr W → W.cell? ⟨b4, 6, none⟩ = some (.slice (some ⟨d, o, none⟩) nr cr) := fun W h => h.c6
   have h0 : ∀ W, RegS b4 d o nr cr i k cap wr W → W.cell? ⟨d, o + i * 2, none⟩ = some (.int .i64 (k : Int)) := fun W h => h.r0
   have h1 : ∀ W, RegS b4 d o nr cr i k cap wr W → W.cell? ⟨d, o + i * 2 + 1, none⟩ = some (.int .i64 cap) := fun W h => h.r1
   clear hkn hk1 hk4 hc hc1 hx hd hr1 hr2 hr3 hr4 hr5 y1 y2 y3 y4 y5 zk zc u1 u2 u7 htz
   go_upto_region 13 with fail
   clear q6 ql
   go_region_held (RegS b4 d o nr cr i k cap wr) (first | exact HC0.out | assumption | exact RegS.below (by assumption) hbx) ((first | (go_at_call 38; refine (HKN.out _).mono ?_; rintro e wy ⟨hr, hwy⟩; subst hr; subst hwy) | (go_at_call 37; refine (rtext_any cap hcap _).mono ?_; rintro e wx ⟨hr, hbx⟩; subst hr)))
   have HBW : Hid (Below wr.heap.size wr wx) := Lib.hid (RegS.bl (W0 := wr) (b := b4) (d := d) (o := o) (n := nr) (c := cr) (i := i) (k := k) (cap := cap) (by assumption))
   clear h0 h1 h6 hbx HC0 g1 g2 g3 g4 g5
   go_wp2_with fail
   go_roundg (nr - (i + 1))
   case measure => have := HG.out; omega
   case rel => exact ⟨i + 1, r5, by simp, by omega, by omega, rfl, HR, HRZ, Lib.hid (HB.out.trans (HBW.out.mono HB.out.size))⟩
  ·have e1 : decide ((i : Int) < (nr : Int)) = false := decide_eq_false (by omega)
   have e2 : decide (i < nr) = false := decide_eq_false hil
   have HT1 : Hid (t.data.toList = configT s.cfg ++ s.regs.flatMap regionT) := Lib.hid (by
    have h := HT.out
    rw [take_len (by rw [← HRC.out.1]; omega), HCF.out] at h
    exact h)
   have HTZ1 : Hid (t.size ≤ 780) := Lib.hid (by have := HTZ.out; omega)
   have HBA := HB
   have hnp16 := HPC.out.2.1
   have HW4 := Lib.hid (HW3.out.below HB34.out HW3.out.lt)
   have HB4 : Hid (Below w.heap.size w w4) := Lib.hid (HB3.out.trans (HB34.out.mono HB3.out.size))
   go_upto_region 15 with fail
   clear e1 e2 hil hi HG HT HTZ q6 ql HKX hnr8
   go_loopg [9, 11] np (fun gk tv iv W => ∃ (i : Nat) (ps : List (List UInt8)) (t : ByteArray), iv = .int .i64 i ∧ i ≤ np ∧ gk + i = np ∧ tv = .string t ∧ Hid ((s.progs.take i).map progText = ps.map some) ∧ Hid (t.data.toList = configT s.cfg ++ s.regs.flatMap regionT ++ ps.flatMap progT) ∧ Hid (t.size ≤ 780 + 100100 * i) ∧ Hid (Below w4.heap.size w4 W))
   case atStart => exact ⟨0, [], t, rfl, Nat.zero_le _, rfl, rfl, Lib.hid rfl, Lib.hid (by simpa using HT1.out), HTZ1, HBA⟩
   case round =>
    clear HBA HT1 HTZ1 HB
    obtain ⟨i, ps, t, rfl, hi, hgk, rfl, HPS, HT, HTZ, HB⟩ := hrel
    have HG := Lib.hid hgk
    clear hgk
    have HBX : Hid (Below w.heap.size w wr) := Lib.hid (HB4.out.trans (HB.out.mono HB4.out.size))
    have HWX := Lib.hid (HW4.out.below HB.out HW4.out.lt)
    have p7 := (HWX.out.cell 7).trans (show _ = some (Value.slice Rp np cp) from rfl)
    have pl := HWX.out.lt
    by_cases hil : i < np
    ·have e1 : decide ((i : Int) < (np : Int)) = true := decide_eq_true (by omega)
     have e2 : decide (i < np) = true := decide_eq_true hil
     have e3 : (i : Int) < (np : Int) := by omega
     have zw : IntKind.i64.wrap ((i : Int) + 1) = (i : Int) + 1 := by rw [IntKind.wrap_i64]; omega
     obtain ⟨d, o, p, rfl, hd, hp, h512, hc⟩ := HPC.out.2.2 i hil
     have c1 := hc wr HBX.out
     have hdr : d < wr.heap.size := Nat.lt_of_lt_of_le hd HBX.out.size
     have HP := Lib.hid hp
     have HASM := Lib.hid (rasm_any p wr (HE.out.below HBX.out HE.out.1) (by omega))
     clear hc hp hd h512
     go_upto_region 18 with (go_at_call 39; refine (HASM.out).mono ?_; rintro e w5 ⟨hb5, hpost⟩; rcases hpost with ⟨x, hx, h5, rfl⟩ | ⟨hx, z, hz, rfl⟩)
     ·have HTS := Lib.hid hx
      have HB5 : Hid (Below w4.heap.size w4 w5) := Lib.hid (HB.out.trans (hb5.mono HB.out.size))
      have hxl := progText_len hx
      have hxz : (⟨x.toArray⟩ : ByteArray).size = x.length := by rw [size_list]
      obtain ⟨tb, htb⟩ : ∃ tb : ByteArray, tb = ⟨x.toArray⟩ := ⟨_, rfl⟩
      rw [← htb] at hxz ⊢
      have htz : t.size ≤ 2000000 := by have := HTZ.out; omega
      have hq1 : (⟨#[112, 114, 111, 103, 114, 97, 109, 10]⟩ : ByteArray).size = 8 := rfl
      have hq2 : (⟨#[101, 110, 100, 10]⟩ : ByteArray).size = 4 := rfl
      obtain ⟨u1, hu1, g1⟩ := sum_text t ⟨#[112, 114, 111, 103, 114, 97, 109, 10]⟩ (by omega)
      have hv1 : u1.size = t.size + 8 := by rw [size_list u1, hu1, List.length_append, ← size_list, ← size_list, hq1]
      obtain ⟨u2, hu2, g2⟩ := sum_text u1 tb (by omega)
      have hv2 : u2.size = u1.size + tb.size := by rw [size_list u2, hu2, List.length_append, ← size_list, ← size_list]
      obtain ⟨u3, hu3, g3⟩ := sum_text u2 ⟨#[101, 110, 100, 10]⟩ (by omega)
      have hv3 : u3.size = u2.size + 4 := by rw [size_list u3, hu3, List.length_append, ← size_list, ← size_list, hq2]
      have HU : Hid (u3.data.toList = configT s.cfg ++ s.regs.flatMap regionT ++ (ps ++ [x]).flatMap progT) := Lib.hid (by rw [hu3, hu2, hu1, htb, HT.out]; simp [progT, wProgram, wEnd])
      have HUZ : Hid (u3.size ≤ 780 + 100100 * (i + 1)) := Lib.hid (by have := HTZ.out; omega)
      clear hx hb5 hxl hxz htb htz hq1 hq2 hu1 hu2 hu3 hv1 hv2 hv3 p7 pl c1 hdr
      go_wp2
      go_roundg (np - (i + 1))
      case measure => have := HG.out; omega
      case rel => exact ⟨i + 1, ps ++ [x], u3, by simp, by omega, by omega, rfl, Lib.hid (progs_step HPS.out HP.out HTS.out), HU, HUZ, HB5⟩
     ·have HTN := Lib.hid hx
      have HB5 : Hid (Below w.heap.size w w5) := Lib.hid (HBX.out.trans (hb5.mono HBX.out.size))
      have z1 : (z != 0) = true := by simp [hz]
      clear hx hb5
      go_wp2
      go_ret2
      exact ⟨.inr ⟨⟨p, List.mem_of_getElem? HP.out, HTN.out⟩, rfl⟩, HB5.out⟩
    ·have e1 : decide ((i : Int) < (np : Int)) = false := decide_eq_false (by omega)
     have e2 : decide (i < np) = false := decide_eq_false hil
     have HPA : Hid (s.progs.map progText = ps.map some) := Lib.hid (by have h := HPS.out; rw [take_len (by rw [← HPC.out.1]; omega)] at h; exact h)
     obtain ⟨T0, hT0⟩ : ∃ T, T = configT s.cfg ++ s.regs.flatMap regionT ++ ps.flatMap progT := ⟨_, rfl⟩
     rw [← hT0] at HT
     have HT0 := Lib.hid hT0
     have HTA := HT
     have HTZ1 : Hid (t.size ≤ 1602380) := Lib.hid (by have := HTZ.out; omega)
     have HBA := HB
     have hnt8 := HTC.out.2.1
     clear hT0 HG HPS HTZ hnp16
     go_upto_region 22 with fail
     clear e1 e2 hil hi p7 pl HWX HBX
     go_loopg [9, 14] nt (fun gk tv iv W => ∃ (i : Nat) (t : ByteArray), iv = .int .i64 i ∧ i ≤ nt ∧ gk + i = nt ∧ tv = .string t ∧ Hid (t.data.toList = T0 ++ (s.thr.take i).flatMap threadTR) ∧ Hid (t.size ≤ 1602380 + 3655 * i) ∧ Hid (Below w4.heap.size w4 W))
     case atStart => exact ⟨0, t, rfl, Nat.zero_le _, rfl, rfl, Lib.hid (by simpa using HTA.out), HTZ1, HBA⟩
     case round =>
      clear HBA HTA HTZ1 HB HT
      obtain ⟨i, t, rfl, hi, hgk, rfl, HT, HTZ, HB⟩ := hrel
      have HG := Lib.hid hgk
      clear hgk
      have HBX : Hid (Below w.heap.size w wr) := Lib.hid (HB4.out.trans (HB.out.mono HB4.out.size))
      have HWX := Lib.hid (HW4.out.below HB.out HW4.out.lt)
      have p8 := (HWX.out.cell 8).trans (show _ = some (Value.slice Rt nt ct) from rfl)
      have pl := HWX.out.lt
      by_cases hil : i < nt
      ·have e1 : decide ((i : Int) < (nt : Int)) = true := decide_eq_true (by omega)
       have e2 : decide (i < nt) = true := decide_eq_true hil
       have e3 : (i : Int) < (nt : Int) := by omega
       have zw : IntKind.i64.wrap ((i : Int) + 1) = (i : Int) + 1 := by rw [IntKind.wrap_i64]; omega
       obtain ⟨b, off, th, Q, m, q, rfl, hb, ht, htl, hm9, hc, hj⟩ := HTC.out.2.2 i hil
       have HX2 := Lib.hid ht
       have HXL := Lib.hid htl
       have HJ := Lib.hid hj
       have HCC := Lib.hid hc
       have HBL := Lib.hid hb
       have HTR : Hid (thrR s.progs.length th) := Lib.hid (HMY.out.2.2.2 th (List.mem_of_getElem? ht))
       have HT64 : Hid (∀ j ∈ th, ∀ v ∈ j.prog :: j.args, i64ok v) := Lib.hid (H64.out th (List.mem_of_getElem? ht))
       have hm32 : m ≤ 32 := by rw [← htl]; exact HTR.out.1
       have htz : t.size ≤ 1631620 := by have := HTZ.out; omega
       have u7 : (⟨#[116, 104, 114, 101, 97, 100, 10]⟩ : ByteArray).size = 7 := rfl
       obtain ⟨t1, ht1, g1⟩ := sum_text t ⟨#[116, 104, 114, 101, 97, 100, 10]⟩ (by omega)
       have hz1 : t1.size = t.size + 7 := by rw [size_list t1, ht1, List.length_append, ← size_list, ← size_list, u7]
       have HT1 : Hid (t1.data.toList = T0 ++ (s.thr.take i).flatMap threadTR ++ wThread ++ [10]) := Lib.hid (by rw [ht1, HT.out]; simp [wThread])
       have HZ1 : Hid (t1.size = t.size + 7) := Lib.hid hz1
       clear hc hj ht htl hb ht1 hz1 u7 htz
       go_upto_region 26 with fail
       clear p8 pl g1
       have HBA := HB
       go_loopg [9, 15] m (fun gk tv iv W => ∃ (j : Nat) (t : ByteArray), iv = .int .i64 j ∧ j ≤ m ∧ gk + j = m ∧ tv = .string t ∧ Hid (t.data.toList = T0 ++ (s.thr.take i).flatMap threadTR ++ wThread ++ [10] ++ (th.take j).flatMap jobTR) ∧ Hid (t.size ≤ t1.size + 114 * j) ∧ Hid (Below w4.heap.size w4 W))
       case atStart => exact ⟨0, t1, rfl, Nat.zero_le _, rfl, rfl, Lib.hid (by simpa using HT1.out), Lib.hid (Nat.le_add_right _ _), HBA⟩
       case round =>
        clear HBX HWX HBA HB
        obtain ⟨j, u, rfl, hj, hgj, rfl, HU, HUZ, HB⟩ := hrel
        have HGJ := Lib.hid hgj
        clear hgj
        have HBX : Hid (Below w.heap.size w wr) := Lib.hid (HB4.out.trans (HB.out.mono HB4.out.size))
        have HWX := Lib.hid (HW4.out.below HB.out HW4.out.lt)
        have p8 := (HWX.out.cell 8).trans (show _ = some (Value.slice (some ⟨b, off, none⟩) nt ct) from rfl)
        have pl := HWX.out.lt
        have c0 := HCC.out wr HBX.out
        have hbr : b < wr.heap.size := Nat.lt_of_lt_of_le HBL.out HBX.out.size
        by_cases hjl : j < m
        ·have f1 : decide ((j : Int) < (m : Int)) = true := decide_eq_true (by omega)
         have f2 : decide (j < m) = true := decide_eq_true hjl
         have f3 : (j : Int) < (m : Int) := by omega
         have zj : IntKind.i64.wrap ((j : Int) + 1) = (j : Int) + 1 := by rw [IntKind.wrap_i64]; omega
         obtain ⟨d, o, ⟨pr, args⟩, A, ma, ca, rfl, hd, hx, hxl, hma9, hAr, hcd⟩ := HJ.out j hjl
         simp only at hxl hcd hAr
         have c1 := (hcd wr HBX.out).1
         have c2 := (hcd wr HBX.out).2
         have hdr : d < wr.heap.size := Nat.lt_of_lt_of_le hd HBX.out.size
         have HXJ := Lib.hid hx
         have HJL : Hid (args.length = ma) := Lib.hid hxl
         have hj4 : ma ≤ 4 := by rw [← hxl]; exact (HTR.out.2 _ (List.mem_of_getElem? hx)).2.2
         have HAR := Lib.hid hAr
         have HJ64 : Hid (∀ v ∈ pr :: args, i64ok v) := Lib.hid (HT64.out _ (List.mem_of_getElem? hx))
         have huz : u.size ≤ 1640000 := by have h1 := HUZ.out; have h2 := HZ1.out; have h3 := HTZ.out; omega
         have zp : (⟨(Go.Lib.itoa pr).toArray⟩ : ByteArray).size ≤ 21 := by rw [size_list]; exact itoa_len pr (HJ64.out pr (by simp))
         have u4 : (⟨#[106, 111, 98, 32]⟩ : ByteArray).size = 4 := rfl
         obtain ⟨v1, hv1, g1⟩ := sum_text u ⟨#[106, 111, 98, 32]⟩ (by omega)
         have y1 : v1.size = u.size + 4 := by rw [size_list v1, hv1, List.length_append, ← size_list, ← size_list, u4]
         obtain ⟨v2, hv2, g2⟩ := sum_text v1 ⟨(Go.Lib.itoa pr).toArray⟩ (by omega)
         have y2 : v2.size ≤ u.size + 25 := by rw [size_list v2, hv2, List.length_append, ← size_list, ← size_list]; omega
         have HV : Hid (v2.data.toList = u.data.toList ++ (wJob ++ 32 :: Go.Lib.itoa pr)) := Lib.hid (by rw [hv2, hv1]; simp [wJob])
         have HVZ : Hid (v2.size ≤ u.size + 25) := Lib.hid y2
         obtain ⟨w5, hw5⟩ : ∃ w5, w5 = wr.alloc (.cells #[.int .i64 pr, .slice A ma ca] 53) := ⟨_, rfl⟩
         obtain ⟨b5, hb5⟩ : ∃ b5, b5 = wr.heap.size := ⟨_, rfl⟩
         have HK5 : Hid (Blk w5 b5 53 #[.int .i64 pr, .slice A ma ca]) := Lib.hid (by rw [hw5, hb5]; exact Blk.new _ _ _)
         have HB5 : Hid (Below w4.heap.size w4 w5) := Lib.hid (HB.out.trans (hw5 ▸ (Below.refl _ _).alloc HB.out.size _))
         have HARG : Hid (∀ a, a < ma → ∃ (bb oo : Nat) (v : Int), A = some ⟨bb, oo, none⟩ ∧ bb < w.heap.size ∧ args[a]? = some v ∧ i64ok v ∧ ∀ W, Below w.heap.size w W → W.cell? ⟨bb, oo + a, none⟩ = some (.int .i64 v)) := Lib.hid fun a ha => by
          obtain ⟨v, hv⟩ : ∃ v, args[a]? = some v := ⟨_, List.getElem?_eq_getElem (by have := HJL.out; omega)⟩
          obtain ⟨bb, oo, h1, h2, h3⟩ := i64_cells HAR.out HJL.out (by omega)
          exact ⟨bb, oo, v, h1, h2, hv, HJ64.out v (List.mem_cons_of_mem _ (List.mem_of_getElem? hv)), fun W hW => (hW.cell h2).trans (h3 a v hv)⟩
         have hpr : i64ok pr := HJ64.out pr (by simp)
         clear hcd hx hxl hd hAr hv1 hv2 y1 y2 zp u4 huz
         go_upto_region 29 with fail
         rw [← hw5, ← hb5]
         clear hw5 hb5 c0 c1 c2 hbr hdr p8 pl
         have p0 := (HK5.out.cell 0).trans (show _ = some (Value.int .i64 pr) from rfl)
         have pl := HK5.out.lt
         go_upto_region 31 with (go_at_call 37; refine (rtext_any pr hpr _).mono ?_; rintro e w6 ⟨rfl, hb6⟩; have HB56 := Lib.hid hb6; clear hb6)
         clear p0 pl g1 g2 hpr
         have HB6R := Lib.hid (Below.refl w6.heap.size w6)
         have HB6 : Hid (Below w4.heap.size w4 w6) := Lib.hid (HB5.out.trans (HB56.out.mono HB5.out.size))
         have HK6 := Lib.hid (HK5.out.below HB56.out HK5.out.lt)
         clear HBX HWX
         go_loopg [9, 17] ma (fun gk tv iv W => ∃ (a : Nat) (t : ByteArray), iv = .int .i64 a ∧ a ≤ ma ∧ gk + a = ma ∧ tv = .string t ∧ Hid (t.data.toList = u.data.toList ++ (wJob ++ 32 :: Go.Lib.itoa pr) ++ (args.take a).flatMap fun n => 32 :: Go.Lib.itoa n) ∧ Hid (t.size ≤ u.size + 25 + 22 * a) ∧ Hid (Below w6.heap.size w6 W))
         case atStart => exact ⟨0, v2, rfl, Nat.zero_le _, rfl, rfl, Lib.hid (by simpa using HV.out), HVZ, HB6R⟩
         case round =>
          clear HB6R
          obtain ⟨a, t2, rfl, ha, hga, rfl, HT2, HTZ2, HBA⟩ := hrel
          have HGA := Lib.hid hga
          clear hga
          have HBX6 : Hid (Below w4.heap.size w4 wr) := Lib.hid (HB6.out.trans (HBA.out.mono HB6.out.size))
          have HBX : Hid (Below w.heap.size w wr) := Lib.hid (HB4.out.trans (HBX6.out.mono HB4.out.size))
          have p1 := ((HK6.out.below HBA.out HK6.out.lt).cell 1).trans (show _ = some (Value.slice A ma ca) from rfl)
          have pl := (HK6.out.below HBA.out HK6.out.lt).lt
          have hz2 : t2.size ≤ 1650000 := by have h0 := HTZ2.out; have h1 := HUZ.out; have h2 := HZ1.out; have h3 := HTZ.out; omega
          by_cases hal : a < ma
          ·have j1 : decide ((a : Int) < (ma : Int)) = true := decide_eq_true (by omega)
           have j2 : decide (a < ma) = true := decide_eq_true hal
           have j3 : (a : Int) < (ma : Int) := by omega
           have za : IntKind.i64.wrap ((a : Int) + 1) = (a : Int) + 1 := by rw [IntKind.wrap_i64]; omega
           obtain ⟨bb, oo, v, rfl, hbb, hv, hv64, hcv⟩ := HARG.out a hal
           have c1 := hcv wr HBX.out
           have hbbr : bb < wr.heap.size := Nat.lt_of_lt_of_le hbb HBX.out.size
           have HVV := Lib.hid hv
           have zv : (⟨(Go.Lib.itoa v).toArray⟩ : ByteArray).size ≤ 21 := by rw [size_list]; exact itoa_len v hv64
           have u1 : (⟨#[32]⟩ : ByteArray).size = 1 := rfl
           obtain ⟨x1, hx1, g1⟩ := sum_text t2 ⟨#[32]⟩ (by omega)
           have y1 : x1.size = t2.size + 1 := by rw [size_list x1, hx1, List.length_append, ← size_list, ← size_list, u1]
           obtain ⟨x2, hx2, g2⟩ := sum_text x1 ⟨(Go.Lib.itoa v).toArray⟩ (by omega)
           have y2 : x2.size ≤ t2.size + 22 := by rw [size_list x2, hx2, List.length_append, ← size_list, ← size_list]; omega
           have HR : Hid (x2.data.toList = u.data.toList ++ (wJob ++ 32 :: Go.Lib.itoa pr) ++ (args.take (a + 1)).flatMap fun n => 32 :: Go.Lib.itoa n) := Lib.hid (by
            rw [flat_take (fun n => 32 :: Go.Lib.itoa n) args a v HVV.out, hx2, hx1, HT2.out]
            simp)
           have HRZ : Hid (x2.size ≤ u.size + 25 + 22 * (a + 1)) := Lib.hid (by have := HTZ2.out; omega)
           clear hcv hv hbb hx1 hx2 y1 y2 zv u1 hz2
           go_wp2_with (go_at_call 37; refine (rtext_any v hv64 _).mono ?_; rintro e w7 ⟨rfl, hb7⟩; have HB7 := Lib.hid hb7; clear hb7)
           go_roundg (ma - (a + 1))
           case measure => have := HGA.out; omega
           case rel => exact ⟨a + 1, x2, by simp, by omega, by omega, rfl, HR, HRZ, Lib.hid (HBA.out.trans (HB7.out.mono HBA.out.size))⟩
          ·have j1 : decide ((a : Int) < (ma : Int)) = false := decide_eq_false (by omega)
           have j2 : decide (a < ma) = false := decide_eq_false hal
           have u1 : (⟨#[10]⟩ : ByteArray).size = 1 := rfl
           obtain ⟨x1, hx1, g1⟩ := sum_text t2 ⟨#[10]⟩ (by omega)
           have y1 : x1.size = t2.size + 1 := by rw [size_list x1, hx1, List.length_append, ← size_list, ← size_list, u1]
           have HR : Hid (x1.data.toList = T0 ++ (s.thr.take i).flatMap threadTR ++ wThread ++ [10] ++ (th.take (j + 1)).flatMap jobTR) := Lib.hid (by
            have h := HT2.out
            rw [take_len (by rw [HJL.out]; omega)] at h
            rw [flat_take jobTR th j _ HXJ.out, hx1, h, HU.out]
            simp [jobTR, rowT])
           have HRZ : Hid (x1.size ≤ t1.size + 114 * (j + 1)) := Lib.hid (by have h1 := HTZ2.out; have h2 := HUZ.out; omega)
           clear hx1 y1 u1 hz2
           go_wp2
           go_roundg (m - (j + 1))
           case measure => have := HGJ.out; omega
           case rel => exact ⟨j + 1, x1, by simp, by omega, by omega, rfl, HR, HRZ, HBX6⟩
        ·have f1 : decide ((j : Int) < (m : Int)) = false := decide_eq_false (by omega)
         have f2 : decide (j < m) = false := decide_eq_false hjl
         have HR : Hid (u.data.toList = T0 ++ (s.thr.take (i + 1)).flatMap threadTR) := Lib.hid (by
          have h := HU.out
          rw [take_len (l := th) (n := j) (by rw [HXL.out]; omega)] at h
          rw [flat_take threadTR s.thr i th HX2.out, h]
          simp [threadTR])
         have HRZ : Hid (u.size ≤ 1602380 + 3655 * (i + 1)) := Lib.hid (by have h1 := HUZ.out; have h2 := HZ1.out; have h3 := HTZ.out; omega)
         go_wp2
         go_roundg (nt - (i + 1))
         case measure => have := HG.out; omega
         case rel => exact ⟨i + 1, u, by simp, by omega, by omega, rfl, HR, HRZ, HB⟩
      ·have e1 : decide ((i : Int) < (nt : Int)) = false := decide_eq_false (by omega)
       have e2 : decide (i < nt) = false := decide_eq_false hil
       obtain ⟨T3, hT3⟩ : ∃ T, T = T0 ++ s.thr.flatMap threadTR := ⟨_, rfl⟩
       have HT3 := Lib.hid hT3
       have HTA : Hid (t.data.toList = T3) := Lib.hid (by
        have h := HT.out
        rw [take_len (l := s.thr) (n := i) (by rw [← HTC.out.1]; omega)] at h
        rw [hT3]
        exact h)
       have HL3 : Hid (t.size ≤ 1631620) := Lib.hid (by have := HTZ.out; omega)
       have HBA := HB
       have hnl := HLC.out.2.1
       clear hT3 HG HT HTZ hnt8
       go_upto_region 36 with fail
       clear e1 e2 hil hi p8 pl HWX HBX
       go_loopg [9, 18] nl (fun gk tv iv W => ∃ (i : Nat) (t : ByteArray), iv = .int .i64 i ∧ i ≤ nl ∧ gk + i = nl ∧ tv = .string t ∧ Hid (t.data.toList = T3 ++ (l.take i).flatMap lineTR) ∧ Hid (Below w4.heap.size w4 W))
       case atStart => exact ⟨0, t, rfl, Nat.zero_le _, rfl, rfl, Lib.hid (by simpa using HTA.out), HBA⟩
       case round =>
        have HL3' : Hid (T3.length ≤ 1631620) := Lib.hid (by have h := HL3.out; rw [size_list, HTA.out] at h; exact h)
        clear HBA HTA HL3 HB
        obtain ⟨i, t, rfl, hi, hgk, rfl, HT, HB⟩ := hrel
        have HG := Lib.hid hgk
        clear hgk
        have HBX : Hid (Below w.heap.size w wr) := Lib.hid (HB4.out.trans (HB.out.mono HB4.out.size))
        have htz : t.size ≤ 9000000000000 := by
         have h1 := rlines_len HLN.out i
         have h2 := HL3'.out
         have h3 := HLN.out.2
         have h4 := many_le l i
         rw [size_list, HT.out, List.length_append]
         omega
        by_cases hil : i < nl
        ·have e1 : decide ((i : Int) < (nl : Int)) = true := decide_eq_true (by omega)
         have e2 : decide (i < nl) = true := decide_eq_true hil
         have e3 : (i : Int) < (nl : Int) := by omega
         have zw : IntKind.i64.wrap ((i : Int) + 1) = (i : Int) + 1 := by rw [IntKind.wrap_i64]; omega
         obtain ⟨b, off, ⟨kd, thr⟩, Q, m, q, rfl, hb, hx, hxl, hm9, hQ, hc, hj⟩ := HLC.out.2.2 i hil
         simp only at hxl hc hj hQ
         have c1 := (hc wr HBX.out).1
         have c2 := (hc wr HBX.out).2
         have hbr : b < wr.heap.size := Nat.lt_of_lt_of_le hb HBX.out.size
         have HXI := Lib.hid hx
         have HXL := Lib.hid hxl
         have HLR1 : Hid (lineR ⟨kd, thr⟩) := Lib.hid (HLN.out.1 _ (List.mem_of_getElem? hx))
         have hm2 : m ≤ 20000 := by rw [← hxl]; exact thr_many hx HLN.out
         have HN : Hid (∀ st r : ByteArray, st.data.toList = lineTR ⟨kd, thr⟩ → r.data.toList = t.data.toList ++ st.data.toList → r.data.toList = T3 ++ (l.take (i + 1)).flatMap lineTR) := Lib.hid fun st r hst hr => by
          rw [flat_take lineTR l i _ HXI.out, hr, hst, HT.out]
          simp only [List.append_assoc]
         have HQ := Lib.hid hQ
         clear hc hj hx hxl hb hQ
         by_cases hk1 : kd = 1
         ·have d1 : decide (kd = 1) = true := decide_eq_true hk1
          have d2 : (kd == 1) = true := by simp [hk1]
          obtain ⟨sr, hsr⟩ : ∃ sr : ByteArray, sr = ⟨(stepsT (thr.map Int.toNat)).toArray⟩ := ⟨_, rfl⟩
          have HSRT : Hid (sr.data.toList = lineTR ⟨kd, thr⟩) := Lib.hid (by rw [hsr, line_steps (x := ⟨kd, thr⟩) hk1])
          have hsz : sr.size ≤ 1000000 := by
           have h := line_len HLR1.out (by have := HXL.out; simp only; omega)
           have h2 := HXL.out
           rw [size_list, HSRT.out]
           simp only at h
           omega
          have HIT : Hid (Calls Tryz.prog 40 #[.slice Q m q] wr fun e w' => e = .returned (.string sr) ∧ Below wr.heap.size wr w') := Lib.hid (by
           have h := thr_nat HLR1.out
           rw [hsr]
           exact rsteps_any (thr.map Int.toNat) m q w.heap.size Q wr (by rw [List.length_map]; exact HXL.out) (by omega) h.1 HBX.out.size (by
            have h2 := HQ.out.below HBX.out
            have h3 : thr = (thr.map Int.toNat).map fun (t : Nat) => (t : Int) := h.2
            rw [← h3]
            exact h2))
          obtain ⟨r1, hr1, g1⟩ := sum_text t sr (by omega)
          have HR := Lib.hid (HN.out sr r1 HSRT.out hr1)
          clear hsr hsz hr1 hk1 htz
          go_wp2_with (go_at_call 40; refine (HIT.out).mono ?_; rintro e w8 ⟨rfl, hb8⟩; have HB8 := Lib.hid (HB.out.trans (hb8.mono HB.out.size)); clear hb8)
          go_roundg (nl - (i + 1))
          case measure => have := HG.out; omega
          case rel => exact ⟨i + 1, r1, by simp, by omega, by omega, rfl, HR, HB8⟩
         ·have d1 : decide (kd = 1) = false := decide_eq_false hk1
          have d2 : (kd == 1) = false := by simp [hk1]
          obtain ⟨k, hk⟩ : ∃ k : Nat, kd = (k : Int) := ⟨kd.toNat, by have h1 := HLR1.out.1; simp only at h1; omega⟩
          have hk27 : 2 ≤ k ∧ k ≤ 7 := by have h1 := HLR1.out.1; have h2 := HLR1.out.2.1; simp only at h1 h2; omega
          obtain ⟨lk, hlk⟩ : ∃ lk : ByteArray, lk = ⟨(looksL.getD (k - 2) []).toArray⟩ := ⟨_, rfl⟩
          have hlz : lk.size ≤ 6 := by rw [hlk, size_list]; exact looks_len (k - 2) (by omega)
          have HLK : Hid (∀ W, Calls Tryz.prog 41 #[.int .i64 kd] W fun e w' => e = .returned (.string lk) ∧ w' = W) := Lib.hid fun W => by
           rw [hlk, hk]
           exact rlook_any k hk27 W
          have u1 : (⟨#[10]⟩ : ByteArray).size = 1 := rfl
          obtain ⟨r1, hr1, g1⟩ := sum_text t lk (by omega)
          have y1 : r1.size ≤ t.size + 6 := by rw [size_list r1, hr1, List.length_append, ← size_list, ← size_list]; omega
          obtain ⟨r2, hr2, g2⟩ := sum_text r1 ⟨#[10]⟩ (by omega)
          have HR : Hid (r2.data.toList = T3 ++ (l.take (i + 1)).flatMap lineTR) := Lib.hid (HN.out ⟨(lineTR ⟨kd, thr⟩).toArray⟩ r2 rfl (by
           rw [hr2, hr1, hlk, line_look (x := ⟨kd, thr⟩) hk1, hk]
           simp))
          clear hk hk27 hlk hlz hr1 hr2 y1 u1 hk1 htz
          go_wp2_with (go_at_call 41; refine (HLK.out _).mono ?_; rintro e w8 ⟨rfl, hw8⟩; obtain rfl := hw8.symm; clear hw8)
          go_roundg (nl - (i + 1))
          case measure => have := HG.out; omega
          case rel => exact ⟨i + 1, r2, by simp, by omega, by omega, rfl, HR, HB⟩
        ·have e1 : decide ((i : Int) < (nl : Int)) = false := decide_eq_false (by omega)
         have e2 : decide (i < nl) = false := decide_eq_false hil
         have HT5 : Hid (t.data.toList = textR s ps l) := Lib.hid (by
          have h := HT.out
          rw [take_len (l := l) (n := i) (by rw [← HLC.out.1]; omega), HT3.out, HT0.out] at h
          exact h)
         have HTS : Hid (t.size = (textR s ps l).length) := Lib.hid (by rw [size_list, HT5.out])
         have HTE : Hid (t = ⟨(textR s ps l).toArray⟩) := Lib.hid (by
          have h := HT5.out
          cases t with
          | mk d => rw [← h])
         clear htz
         by_cases h65 : 65535 < t.size
         ·have d1 : decide ((65535 : Int) < (t.size : Int)) = true := decide_eq_true (by omega)
          have d2 : decide (65535 < t.size) = true := decide_eq_true h65
          have H65 := Lib.hid h65
          clear h65
          go_wp2
          go_ret2
          exact ⟨.inl ⟨ps, HPA.out, .inr ⟨by rw [← HTS.out]; exact H65.out, rfl⟩⟩, HBX.out⟩
         ·have d1 : decide ((65535 : Int) < (t.size : Int)) = false := decide_eq_false (by omega)
          have d2 : decide (65535 < t.size) = false := decide_eq_false h65
          have H65 := Lib.hid h65
          clear h65
          go_wp2
          go_ret2
          exact ⟨.inl ⟨ps, HPA.out, .inl ⟨by rw [← HTS.out]; have := H65.out; omega, by rw [← HTE.out]; rfl⟩⟩, HBX.out⟩
end Go.Proofs.YtiheggkkgbfndaaGreatDoor
