/- carouselref14.Parse. -/
import Derived.Test.YtiheggkkgbfndaaGreatDoorK22
import Derived.Deep.LoopGhost
import Derived.Deep.DeepMust
import Derived.Test.YtiheggkkgbfndaaGreatDoorK19
namespace Go.Proofs.YtiheggkkgbfndaaGreatDoor
open Go.RowKit Go.Joins Go.ChangeShapes Go.WideShapes Go.Deep
set_option linter.unusedVariables false
set_option linter.unusedSimpArgs false
set_option maxRecDepth 100000
abbrev PRes := Except (Nat × Nat) (List AOp)
def pOut : PRes → ByteArray
 | .error _ => ⟨#[]⟩
 | .ok L => ⟨(bytesOf L).toArray⟩
def pErr : PRes → Int
 | .error y => y.1
 | .ok _ => 0
def pPos : PRes → Int
 | .error y => y.2
 | .ok _ => 0
theorem parseV_eq (x : PRes) : parseV x = .tuple #[.string (pOut x), .int .i64 (pErr x), .int .i64 (pPos x)] := by cases x <;> rfl
theorem parse_at {B : Nat} {w : World} (hE : EnvP B w) (s : ByteArray) (hs : s.size ≤ 67108864) :
  Calls Tryz.prog 110 #[.string s] w fun e w' => e = .returned (.tuple #[.string (pOut (parseF s.data.toList)), .int .i64 (pErr (parseF s.data.toList)), .int .i64 (pPos (parseF s.data.toList))]) ∧ Below w.heap.size w w' := by
 have := parse_asm (hE.raise hE.size (Nat.le_refl _)) s hs
 rwa [parseV_eq] at this
end Go.Proofs.YtiheggkkgbfndaaGreatDoor
namespace Go.Proofs.YtiheggkkgbfndaaGreatDoor
open Go.RowKit Go.Joins Go.ChangeShapes Go.WideShapes Go.Deep Go.Maps Go.Sort
set_option linter.unusedVariables false
set_option linter.unusedSimpArgs false
set_option maxRecDepth 100000
set_option maxHeartbeats 4000000 in
theorem rprint_any {B : Nat} (s : ByteArray) (w : World) (hE : EnvIn B w) (hs : s.size ≤ 4611686018427387904) : Calls Tryz.prog 39 #[.string s] w (PrintPost s w) := by
 have HEE := Lib.hid hE
 have HDEC := Lib.hid (rdecode_any s w hE.here.shapes hs)
 go_enter Tryz.func39, Tryz.ntmps39
 go_upto_region 2 with (go_at_call 72; refine (HDEC.out).mono ?_; rintro e w1 ⟨hb1, hpost⟩; rcases hpost with ⟨h5, rfl⟩ | ⟨h5, L, p, hD, hp, hat, rfl⟩ | ⟨h5, L, v, hD, hown, rfl⟩)
 ·have H5 := Lib.hid h5
  clear h5
  go_wp2
  go_ret2
  exact ⟨hb1, .inl ⟨H5.out, rfl⟩⟩
 ·have H5 := Lib.hid (show PrintPost s w (.returned (.tuple #[.string ⟨#[]⟩, .int .i64 10])) w1 from ⟨hb1, .inr (.inl ⟨h5, L, p, hD, hp, hat, rfl⟩)⟩)
  clear h5 hD hp hat
  go_wp2
  go_ret2
  exact H5.out
 ·have hsz := hD.size
  have hgood := hD.good
  have hle := hD.le
  rw [bytesL_length] at hle
  obtain ⟨_, hLs⟩ := hle
  obtain ⟨n, hn⟩ : ∃ n, n = L.length := ⟨_, rfl⟩
  rw [← hn] at hown hLs
  have HN := Lib.hid hn
  have HGOOD := Lib.hid hgood
  have HI64 : Hid (∀ o ∈ L, i64ok o.operand) := Lib.hid (dec_i64 hD)
  have HD := Lib.hid hD
  have HSZ := Lib.hid hsz
  have hn5 : n ≤ 512 := by omega
  have hE1 := hE.below hb1 hE.1
  have HE1 := Lib.hid hE1
  have hBw := hE.1
  have HB1 := Lib.hid hb1
  have hbs1 := hb1.size
  obtain ⟨R, cR, rfl, hcR, hRd⟩ := own_shapes hown
  have HR := Lib.hid hRd
  obtain ⟨i0, hi0, hz0, hz1, hz2⟩ := info_parts info_int
  clear hn hgood hD hsz hb1 hE1 hRd hown
  go_wp2_with fail
  go_loopg [7, 8, 9] n (fun gk pv av iv W => ∃ i : Nat, iv = .int .i64 i ∧ i ≤ n ∧ gk = n - i ∧ av = .int .i64 (sizeF (L.take i) : Nat) ∧ W.ownsRow w1.heap.size 3 1 pv i (plc (placesF L i)) ∧ Below w1.heap.size w1 W)
  case atStart => exact ⟨0, rfl, Nat.zero_le _, rfl, rfl, World.ownsRow_nil _ _ _ _, Below.refl _ _⟩
  case round =>
   obtain ⟨i, rfl, hi, hgk, rfl, hown, hbw⟩ := hrel
   have HG := Lib.hid hgk
   clear hgk
   have HBW := Lib.hid hbw
   have hbwz := hbw.size
   clear hbw
   by_cases hin : i < n
   ·obtain ⟨g, off, c, v, rfl, hgd, hat, hmem, cx0, cx1, hg⟩ := op_facts HR.out (Below.refl _ _) HN.out hin
    obtain ⟨hc41, hfit⟩ := HGOOD.out _ hmem
    simp only at hc41 hfit
    have hst : sizeF (L.take (i + 1)) = sizeF (L.take i) + (1 + widthF (shapeF c)) := by
     rw [sizeF_take L i (by rw [← HN.out]; exact hin), (List.getElem?_eq_some_iff.1 hat).2]
    have hlei := sizeF_le L i
    rw [← HSZ.out] at hlei
    have hwd8 : widthF (shapeF c) ≤ 8 := by unfold widthF; split <;> (try split) <;> (try split) <;> omega
    have HWID := Lib.hid (fun W => rwidth_any c hc41 W)
    obtain ⟨wd, hwd⟩ : ∃ wd, wd = widthF (shapeF c) := ⟨_, rfl⟩
    rw [← hwd] at hst hwd8 HWID
    have HST := Lib.hid hst
    have HPS := Lib.hid (placesF_succ L i)
    obtain ⟨p, hp⟩ : ∃ p, p = sizeF (L.take i) := ⟨_, rfl⟩
    rw [← hp] at hlei HST HPS ⊢
    have hc2 : ∀ u ∈ ([.int .i64 (p : Int)] : List Value), u.oneCell' = true := (by intro u hu; simp at hu; subst hu; rfl)
    have hc3 : i + 1 ≤ maxLen := (by unfold maxLen; omega)
    have hc4 : (i + 1) * 8 ≤ 140737488355328 := (by omega)
    have hc5 : w1.heap.size ≤ (wr.alloc (.cells #[.int .i64 (p : Int)] 3)).heap.size := (by simp; omega)
    have e1 : decide ((i : Int) < (n : Int)) = true := decide_eq_true (by omega)
    have e2 : decide (i < n) = true := decide_eq_true hin
    clear hgd hat hmem hst hp hwd hfit
    go_upto_region 10 with (at_builtin; go_must (refine wpList_append_own _ rfl _ _ 47 rfl w1.heap.size 3 i0 (.int .i64 0) 1 8 Tryz.underlying47 hi0 hz0 hz1 hz2 rfl (by decide) _ _ _ rfl (hown.alloc _) ⟨wr.heap.size, 0, none⟩ 1 1 [.int .i64 (p : Int)] rfl rfl (cell_one_new _ _ _) hc2 hc3 hc4 hc5 ?_; intro v' w2 hown2 hgrow2 _))
    have hb2 : Below w1.heap.size w1 w2 := (HBW.out.alloc hbwz _).trans (below_grown (hown.alloc _) hgrow2 hc5)
    have d0 : w2.cell? ⟨g, off + i * 2, none⟩ = some (.int .i64 c) := (hb2.cell (p := ⟨g, off + i * 2, none⟩) hg).trans cx0
    have hz2' := hb2.size
    have HB2 := Lib.hid hb2
    have HOWN2 := Lib.hid hown2
    have hgw : g < w2.heap.size := by omega
    clear hgrow2 hown hc2 hc3 hc4 hc5 hb2 hown2 cx0 cx1
    go_wp2_with (go_at_call 73; refine (HWID.out _).mono ?_; rintro r w3 ⟨hr, hw⟩; subst hr; subst hw)
    go_roundg (n - (i + 1))
    case measure => have := HG.out; omega
    case rel => exact ⟨i + 1, by simp, by omega, rfl, by rw [HST.out]; simp; omega, by rw [HPS.out, plc_snoc]; exact HOWN2.out, HB2.out⟩
   ·obtain rfl : i = n := by omega
    have e1 : decide ((i : Int) < (i : Int)) = false := decide_eq_false (by omega)
    obtain ⟨PR, pc, rfl, hpc, hPRd⟩ := own_shapes hown
    have HPR := Lib.hid hPRd
    have hmk := mk_bools s.size (by omega) wr
    have hmI := MarkIs.made L s.size wr
    clear hown hPRd
    go_upto_region 12 with fail
    obtain ⟨W2, hW2⟩ : ∃ W, W = wr.alloc (.cells (madeCells #[.bool false] (s.size + 1)) 4) := ⟨_, rfl⟩
    have hz2 : W2.heap.size = wr.heap.size + 1 := by rw [hW2]; simp
    have hb2 : Below wr.heap.size wr W2 := by rw [hW2]; exact (Below.refl _ _).alloc (Nat.le_refl _) _
    rw [← hW2] at hmI ⊢
    have HP2 := Lib.hid ((HPR.out).below hb2)
    have HB2 := Lib.hid (HBW.out.trans (hb2.mono hbwz))
    clear hW2 hmk hb2
    obtain ⟨mb, hmb⟩ : ∃ m, m = wr.heap.size := ⟨_, rfl⟩
    rw [← hmb] at hz2 HP2 hmI hbwz ⊢
    have HMI := Lib.hid hmI
    clear hmb hmI HPR HBW
    have htake : L.take i = L := List.take_of_length_le (by rw [← HN.out]; exact Nat.le_refl _)
    rw [htake]
    clear htake
    obtain ⟨wo, hwo⟩ : ∃ wo, wo = wr := ⟨_, rfl⟩
    clear hwo
    go_wp2_with fail
    go_loopg [11] i (fun gk iv W => ∃ j : Nat, iv = .int .i64 j ∧ j ≤ i ∧ gk = i - j ∧ MarkIs L j s.size mb W ∧ Frm W2 W (fun q => q = mb))
    case atStart => exact ⟨0, rfl, Nat.zero_le _, rfl, HMI.out, Frm.refl _ _⟩
    case round =>
     obtain ⟨j, rfl, hj, hgk, hM, hF⟩ := hrel
     have HG2 := Lib.hid hgk
     clear hgk
     have hbm : Below mb W2 wr := hF.below (by omega) (fun q hq => by omega)
     have hszw := hF.size
     have HW1 := Lib.hid (HB2.out.trans (hbm.mono hbwz))
     have HPW := Lib.hid ((HP2.out).below hbm)
     have HM := Lib.hid hM
     have HF2 := Lib.hid hF
     clear hM hF hbm
     by_cases hjn : j < i
     ·obtain ⟨g, off, c, v, rfl, hgd, hat, hmem, cx0, cx1, hg⟩ := op_facts HR.out HW1.out HN.out hjn
      obtain ⟨hc41, hfit⟩ := HGOOD.out _ hmem
      simp only at hc41 hfit
      have hlei := sizeF_le L j
      rw [← HSZ.out] at hlei
      have htg : tgtAt L j = tgtF L ⟨c, v⟩ (sizeF (L.take j)) := by unfold tgtAt; rw [hgd]
      obtain ⟨pb, po, rfl, hpb, hpc2⟩ := (HPW.out).flat (by omega)
      have hP := plc_at (placesF L i) j (by rw [placesF_length]; exact hjn)
      rw [placesF_at L i j hjn] at hP
      have hTG := target_any L c v (sizeF (L.take j)) hfit (by omega) (by rw [← HSZ.out]; omega) (some ⟨pb, po, none⟩) i pc HN.out (by omega) wr.drew ((HPW.out.more (show mb ≤ wr.heap.size by omega)).drew)
      rw [← HSZ.out] at hTG
      obtain ⟨p, hp⟩ : ∃ p, p = sizeF (L.take j) := ⟨_, rfl⟩
      rw [← hp] at hlei htg hP hTG
      have cp : wr.cell? ⟨pb, po + j, none⟩ = some (.int .i64 (p : Int)) := hpc2 j _ hP
      have HTG := Lib.hid hTG
      have HTT := Lib.hid htg
      have e1 : decide ((j : Int) < (i : Int)) = true := decide_eq_true (by omega)
      have e2 : decide (j < i) = true := decide_eq_true hjn
      clear hgd hat hmem hP hpc2 hTG hp hfit htg
      go_upto_region 15 with fail
      refine wp_region_still_tail 11 (by kernel_rfl) (by kernel_rfl) ?_
      change wpStill _ _ (World.drew _) (fun a' => wpList _ _ _ _ a' (World.drew _)) _ _
      simp only [List.take_succ_cons, List.take_zero, List.drop_succ_cons, List.drop_zero]
      repeat still_step
      refine wpStill_nil ?_
      go_upto_region 16 with (go_at_call 74; refine (HTG.out).mono ?_; rintro e w4 ⟨rfl, hb4⟩)
      have hb4' : Below wr.heap.size wr w4 := ((Below.refl wr.heap.size wr).drew).trans hb4
      have HB4 := Lib.hid hb4'
      have hzw4 := hb4'.size
      clear hb4 hb4' cx0 cx1 cp
      have hM4 : MarkIs L j s.size mb w4 := HM.out.kept (HB4.out.block mb (by omega))
      cases htt : tgtF L ⟨c, v⟩ p with
      | none =>
       have hMN := hM4.none_ (HTT.out.trans htt)
       have HMN := Lib.hid hMN
       simp only [tgtV, Option.getD]
       clear hMN hM4 htt
       go_wp2_with fail
       go_roundg (i - (j + 1))
       case measure => have := HG2.out; omega
       case rel => exact ⟨j + 1, by simp, by omega, rfl, HMN.out, HF2.out.trans (Frm.of_below (S := fun _ => False) HB4.out) (fun q hq => hq.elim)⟩
      | some t =>
       have htk := tgt_ok htt
       rw [← HSZ.out] at htk
       obtain ⟨tn, rfl⟩ : ∃ tn : Nat, t = (tn : Int) := ⟨t.toNat, by omega⟩
       have htn : tn ≤ s.size := by omega
       have hMS := hM4.some_ (HTT.out.trans htt) htn
       obtain ⟨q0, q1, q2⟩ := hM4.cell tn htn
       have HMS := Lib.hid hMS
       have g1 : decide ((0 : Int) ≤ (tn : Int)) = true := decide_eq_true (by omega)
       have htn2 : tn < s.size + 1 := by omega
       simp only [tgtV, Option.getD]
       clear hMS hM4 htt htk
       go_wp2_with fail
       go_roundg (i - (j + 1))
       case measure => have := HG2.out; omega
       case rel => exact ⟨j + 1, by simp, by omega, rfl, HMS.out, (HF2.out.trans (Frm.of_below (S := fun _ => False) HB4.out) (fun q hq => hq.elim)).set mb tn _ (.inl rfl)⟩
     ·obtain rfl : j = i := by omega
      have e1 : decide ((j : Int) < (j : Int)) = false := decide_eq_false (by omega)
      go_upto_region 20 with (go_at_call 75; refine (rwords_any _).mono ?_; rintro e w3 ⟨rfl, rfl⟩)
      obtain ⟨W3, hW3⟩ : ∃ W, W = wr.alloc (.cells wordV.toArray 9) := ⟨_, rfl⟩
      have hz3 : W3.heap.size = wr.heap.size + 1 := by rw [hW3]; simp
      have hb3 : Below wr.heap.size wr W3 := by rw [hW3]; exact (Below.refl _ _).alloc (Nat.le_refl _) _
      have hwb : Blk W3 wr.heap.size 9 wordV.toArray := by rw [hW3]; exact Blk.new wr _ _
      rw [← hW3]
      clear hW3
      have hmw : mb < wr.heap.size := by omega
      have HM3 := Lib.hid (HM.out.kept (hb3.block mb hmw))
      have HP3 := Lib.hid ((HPW.out).below (hb3.mono (Nat.le_of_lt hmw)))
      have HB3 := Lib.hid (HW1.out.trans (hb3.mono (HW1.out.size)))
      obtain ⟨wdb, hwdb⟩ : ∃ b, b = wr.heap.size := ⟨_, rfl⟩
      rw [← hwdb] at hz3 hwb hmw ⊢
      have HWB := Lib.hid hwb
      clear hwdb hb3 hwb HPW HW1 HM HF2 hszw
      obtain ⟨wo2, hwo2⟩ : ∃ wo, wo = wr := ⟨_, rfl⟩
      clear hwo2
      go_wp2_with fail
      go_loopg [14, 15] j (fun gk sv iv W => ∃ k : Nat, iv = .int .i64 k ∧ k ≤ j ∧ gk = j - k ∧ sv = .string ⟨(linesF L k).toArray⟩ ∧ Below W3.heap.size W3 W)
      case atStart => exact ⟨0, rfl, Nat.zero_le _, rfl, rfl, Below.refl _ _⟩
      case round =>
       obtain ⟨k, rfl, hk, hgk, rfl, hbt⟩ := hrel
       have HG3 := Lib.hid hgk
       have HBT := Lib.hid hbt
       have hbtz := hbt.size
       clear hgk
       have hM := HM3.out.kept (hbt.block mb (by omega))
       have hPW3 := (HP3.out).below (hbt.mono (by omega))
       have hW1 := HB3.out.trans (hbt.mono HB3.out.size)
       have hER : EnvIn B wr := HE1.out.below hW1 (by omega)
       have HER := Lib.hid hER
       have HPW3 := Lib.hid hPW3
       have HMW := Lib.hid hM
       have hll := lines_len L k HI64.out (by rw [← HSZ.out]; omega)
       have hw1z := hW1.size
       clear hbt hER
       by_cases hkn : k < j
       ·obtain ⟨g, off, c, v, rfl, hgd, hat, hmem, cx0, cx1, hg⟩ := op_facts HR.out hW1 HN.out hkn
        obtain ⟨hc41, hfit⟩ := HGOOD.out _ hmem
        simp only at hc41 hfit
        have hv : i64ok v := HI64.out _ hmem
        have hlei := sizeF_le L k
        rw [← HSZ.out] at hlei
        have htg : tgtAt L k = tgtF L ⟨c, v⟩ (sizeF (L.take k)) := by unfold tgtAt; rw [hgd]
        have hln : lineF L k = labF L (sizeF (L.take k)) ++ wordsB.getD c [] ++ oprF L k ++ [10] := by unfold lineF; rw [hgd]
        have hop : oprF L k = match tgtF L ⟨c, v⟩ (sizeF (L.take k)) with | some t => 32 :: 76 :: Lib.itoa t | none => if 0 < widthF (shapeF c) then 32 :: Lib.itoa v else [] := by unfold oprF; rw [htg, hgd]; rfl
        have hlab := lab_len L (sizeF (L.take k)) (by omega)
        have hwl := word_len c
        have hol := opr_len L k HI64.out (by rw [← HSZ.out]; omega)
        have cwd : wr.cell? ⟨wdb, c, none⟩ = some (.string ⟨(wordsB.getD c []).toArray⟩) := by
         have h1 : Blk wr wdb 9 wordV.toArray := (HBT.out.block wdb (by omega)).trans HWB.out
         rw [h1.cell c, List.getElem?_toArray]
         unfold wordV
         rw [List.getElem?_map, List.getD_eq_getElem?_getD, List.getElem?_eq_getElem (by rw [words_len]; exact hc41)]
         rfl
        have hwd8 : widthF (shapeF c) ≤ 8 := by unfold widthF; split <;> (try split) <;> (try split) <;> omega
        have HWID := Lib.hid (fun W => rwidth_any c hc41 W)
        obtain ⟨wd, hwd⟩ : ∃ wd, wd = widthF (shapeF c) := ⟨_, rfl⟩
        rw [← hwd] at hop hwd8 HWID
        obtain ⟨pb, po, rfl, hpb, hpc2⟩ := hPW3.flat (by omega)
        have hP := plc_at (placesF L j) k (by rw [placesF_length]; exact hkn)
        rw [placesF_at L j k hkn] at hP
        have HLN := Lib.hid hln
        have HOP := Lib.hid hop
        have HFIT := Lib.hid hfit
        obtain ⟨p, hp⟩ : ∃ p, p = sizeF (L.take k) := ⟨_, rfl⟩
        rw [← hp] at hlei HLN HOP hlab hP
        have cp : wr.cell? ⟨pb, po + k, none⟩ = some (.int .i64 (p : Int)) := hpc2 k _ hP
        obtain ⟨cm, _, hmbw⟩ := hM.cell p hlei
        obtain ⟨wrd, hwrd⟩ : ∃ x, x = wordsB.getD c [] := ⟨_, rfl⟩
        rw [← hwrd] at cwd HLN hwl
        have hgw : g < wr.heap.size := by omega
        have hpw : pb < wr.heap.size := by omega
        have hww : wdb < wr.heap.size := by omega
        have hpi : p < s.size + 1 := by omega
        have hps : p ≤ 512 := by omega
        have hll2 : (linesF L k).length ≤ 27648 := by omega
        have e1 : decide ((k : Int) < (j : Int)) = true := decide_eq_true (by omega)
        have e2 : decide (k < j) = true := decide_eq_true hkn
        have hlbl : labF L p = if markF L j (p : Int) then labelB p else [] := by unfold labF; rw [← HN.out]
        have HLBL := Lib.hid hlbl
        obtain ⟨lst, hlst⟩ : ∃ l, l = linesF L k ++ labF L p := ⟨_, rfl⟩
        have hlsl : lst.length ≤ 28000 := by rw [hlst, List.length_append]; omega
        have HLST := Lib.hid hlst
        clear hgd hat hmem hop hln htg hwd hp hfit hM hPW3 hW1 hP hpc2 hwrd hlbl hlst
        cases hmk : markF L j (p : Int)
        ·rw [hmk] at cm
         have hls : linesF L k = lst := by rw [HLST.out, HLBL.out, hmk]; simp
         clear hmk
         go_upto_region 25 with fail
         rw [hls]
         have HB4 : Hid (Below wr.heap.size wr wr) := Lib.hid (Below.refl _ _)
         have x0 : wr.cell? ⟨g, off + k * 2, none⟩ = some (.int .i64 c) := (HB4.out.cell (p := ⟨g, off + k * 2, none⟩) hgw).trans cx0
         have x1 : wr.cell? ⟨g, off + k * 2 + 1, none⟩ = some (.int .i64 v) := (HB4.out.cell (p := ⟨g, off + k * 2 + 1, none⟩) hgw).trans cx1
         have y0 : wr.cell? ⟨pb, po + k, none⟩ = some (.int .i64 (p : Int)) := (HB4.out.cell (p := ⟨pb, po + k, none⟩) hpw).trans cp
         have y1 : wr.cell? ⟨wdb, c, none⟩ = some (.string ⟨wrd.toArray⟩) := (HB4.out.cell (p := ⟨wdb, c, none⟩) hww).trans cwd
         have hz4 := HB4.out.size
         have hP4 : Reads wr.drew mb 1 (some ⟨pb, po, none⟩) j (plc (placesF L j)) := ((HPW3.out).below (HB4.out.mono (by omega))).drew
         have hTG := target_any L c v p HFIT.out (by omega) (by rw [← HSZ.out]; omega) (some ⟨pb, po, none⟩) j pc HN.out (by omega) wr.drew (hP4.more (show mb ≤ wr.heap.size by omega))
         rw [← HSZ.out] at hTG
         have HTG := Lib.hid hTG
         have hc41' : (c : Int) < 41 := by omega
         clear hP4 hTG
         go_upto_region 26 with fail
         refine wp_region_still_tail 11 (by kernel_rfl) (by kernel_rfl) ?_
         change wpStill _ _ (World.drew _) (fun a' => wpList _ _ _ _ a' (World.drew _)) _ _
         simp only [List.take_succ_cons, List.take_zero, List.drop_succ_cons, List.drop_zero]
         repeat still_step
         refine wpStill_nil ?_
         go_upto_region 27 with (go_at_call 74; refine (HTG.out).mono ?_; rintro e w5 ⟨rfl, hb5⟩)
         have HB5 := Lib.hid (HB4.out.trans ((((Below.refl wr.heap.size wr).drew).trans hb5).mono hz4))
         have hz5 := HB5.out.size
         clear hb5 x0 x1 y0 y1
         cases htt : tgtF L ⟨c, v⟩ p with
         | none =>
          have hopr := HOP.out
          rw [htt] at hopr
          simp only at hopr
          simp only [tgtV, Option.getD]
          have x3 : w5.cell? ⟨g, off + k * 2, none⟩ = some (.int .i64 c) := (HB5.out.cell (p := ⟨g, off + k * 2, none⟩) hgw).trans cx0
          have x4 : w5.cell? ⟨g, off + k * 2 + 1, none⟩ = some (.int .i64 v) := (HB5.out.cell (p := ⟨g, off + k * 2 + 1, none⟩) hgw).trans cx1
          by_cases hw0 : 0 < wd
          ·rw [if_pos hw0] at hopr
           have HOPR := Lib.hid hopr
           have hil := itoa_len v hv
           have f1 : decide ((0 : Int) < (wd : Int)) = true := decide_eq_true (by omega)
           have f2 : decide (0 < wd) = true := decide_eq_true (by omega)
           have HFI := Lib.hid (formatInt_any (HER.out.below HB5.out (HER.out.1)) v hv)
           clear hopr hol htt
           go_upto_region 31 with (first
            | (go_at_call 73; refine (HWID.out _).mono ?_; rintro r w6 ⟨hr, hw⟩; subst hr; subst hw)
            | (go_at_call 70; refine (HFI.out).mono ?_; rintro e w6 ⟨rfl, hb6⟩))
           go_wp2_with fail
           go_roundg (j - (k + 1))
           case measure => have := HG3.out; omega
           case rel => exact ⟨k + 1, by simp, by omega, rfl, congrArg Value.string (by
            apply ByteArray.ext
            rw [linesF_succ, HLN.out, HOPR.out, HLST.out]
            simp [ByteArray.data_append]), HBT.out.trans ((HB5.out.trans (hb6.mono hz5)).mono hbtz)⟩
          ·rw [if_neg hw0] at hopr
           have HOPR := Lib.hid hopr
           have f1 : decide ((0 : Int) < (wd : Int)) = false := decide_eq_false (by omega)
           have f2 : decide (0 < wd) = false := decide_eq_false (by omega)
           clear hopr htt
           go_upto_region 31 with (go_at_call 73; refine (HWID.out _).mono ?_; rintro r w6 ⟨hr, hw⟩; subst hr; subst hw)
           go_wp2_with fail
           go_roundg (j - (k + 1))
           case measure => have := HG3.out; omega
           case rel => exact ⟨k + 1, by simp, by omega, rfl, congrArg Value.string (by
            apply ByteArray.ext
            rw [linesF_succ, HLN.out, HOPR.out, HLST.out]
            simp [ByteArray.data_append]), HBT.out.trans ((HB5.out).mono hbtz)⟩
         | some t =>
          have hopr := HOP.out
          rw [htt] at hopr
          simp only at hopr
          have HOPR := Lib.hid hopr
          have htk := tgt_ok htt
          rw [← HSZ.out] at htk
          have htk2 : i64ok t := ⟨by omega, by omega⟩
          have hil := itoa_len t htk2
          have g1 : decide ((0 : Int) ≤ t) = true := decide_eq_true (by omega)
          have HIT := Lib.hid (itoa_any (HER.out.below HB5.out (HER.out.1)) t htk2)
          simp only [tgtV, Option.getD]
          clear htt hopr htk2 hol
          go_upto_region 31 with (go_at_call 69; refine (HIT.out).mono ?_; rintro e w6 ⟨rfl, hb6⟩)
          go_wp2_with fail
          go_roundg (j - (k + 1))
          case measure => have := HG3.out; omega
          case rel => exact ⟨k + 1, by simp, by omega, rfl, congrArg Value.string (by
           apply ByteArray.ext
           rw [linesF_succ, HLN.out, HOPR.out, HLST.out]
           simp [ByteArray.data_append]), HBT.out.trans ((HB5.out.trans (hb6.mono hz5)).mono hbtz)⟩
        ·rw [hmk] at cm
         have hls : labelB p = labF L p := by rw [HLBL.out, hmk]; rfl
         have hcat : (⟨(linesF L k).toArray⟩ ++ ⟨#[76]⟩ ++ ⟨(Lib.itoa (p : Int)).toArray⟩ ++ ⟨#[58, 10]⟩ : ByteArray) = ⟨lst.toArray⟩ := by
          apply ByteArray.ext
          rw [HLST.out, ← hls]
          simp [ByteArray.data_append, labelB]
         have HCAT := Lib.hid hcat
         have hpl := itoa_len (p : Int) ⟨by omega, by omega⟩
         have HIT0 := Lib.hid (itoa_any HER.out (p : Int) ⟨by omega, by omega⟩)
         clear hmk hcat hls
         go_upto_region 25 with (go_at_call 69; refine (HIT0.out).mono ?_; rintro e w4 ⟨rfl, hb4⟩)
         rw [HCAT.out]
         have HB4 := Lib.hid hb4
         clear hb4
         have x0 : w4.cell? ⟨g, off + k * 2, none⟩ = some (.int .i64 c) := (HB4.out.cell (p := ⟨g, off + k * 2, none⟩) hgw).trans cx0
         have x1 : w4.cell? ⟨g, off + k * 2 + 1, none⟩ = some (.int .i64 v) := (HB4.out.cell (p := ⟨g, off + k * 2 + 1, none⟩) hgw).trans cx1
         have y0 : w4.cell? ⟨pb, po + k, none⟩ = some (.int .i64 (p : Int)) := (HB4.out.cell (p := ⟨pb, po + k, none⟩) hpw).trans cp
         have y1 : w4.cell? ⟨wdb, c, none⟩ = some (.string ⟨wrd.toArray⟩) := (HB4.out.cell (p := ⟨wdb, c, none⟩) hww).trans cwd
         have hz4 := HB4.out.size
         have hP4 : Reads w4.drew mb 1 (some ⟨pb, po, none⟩) j (plc (placesF L j)) := ((HPW3.out).below (HB4.out.mono (by omega))).drew
         have hTG := target_any L c v p HFIT.out (by omega) (by rw [← HSZ.out]; omega) (some ⟨pb, po, none⟩) j pc HN.out (by omega) w4.drew (hP4.more (show mb ≤ w4.heap.size by omega))
         rw [← HSZ.out] at hTG
         have HTG := Lib.hid hTG
         have hc41' : (c : Int) < 41 := by omega
         clear hP4 hTG
         go_upto_region 26 with fail
         refine wp_region_still_tail 11 (by kernel_rfl) (by kernel_rfl) ?_
         change wpStill _ _ (World.drew _) (fun a' => wpList _ _ _ _ a' (World.drew _)) _ _
         simp only [List.take_succ_cons, List.take_zero, List.drop_succ_cons, List.drop_zero]
         repeat still_step
         refine wpStill_nil ?_
         go_upto_region 27 with (go_at_call 74; refine (HTG.out).mono ?_; rintro e w5 ⟨rfl, hb5⟩)
         have HB5 := Lib.hid (HB4.out.trans ((((Below.refl w4.heap.size w4).drew).trans hb5).mono hz4))
         have hz5 := HB5.out.size
         clear hb5 x0 x1 y0 y1
         cases htt : tgtF L ⟨c, v⟩ p with
         | none =>
          have hopr := HOP.out
          rw [htt] at hopr
          simp only at hopr
          simp only [tgtV, Option.getD]
          have x3 : w5.cell? ⟨g, off + k * 2, none⟩ = some (.int .i64 c) := (HB5.out.cell (p := ⟨g, off + k * 2, none⟩) hgw).trans cx0
          have x4 : w5.cell? ⟨g, off + k * 2 + 1, none⟩ = some (.int .i64 v) := (HB5.out.cell (p := ⟨g, off + k * 2 + 1, none⟩) hgw).trans cx1
          by_cases hw0 : 0 < wd
          ·rw [if_pos hw0] at hopr
           have HOPR := Lib.hid hopr
           have hil := itoa_len v hv
           have f1 : decide ((0 : Int) < (wd : Int)) = true := decide_eq_true (by omega)
           have f2 : decide (0 < wd) = true := decide_eq_true (by omega)
           have HFI := Lib.hid (formatInt_any (HER.out.below HB5.out (HER.out.1)) v hv)
           clear hopr hol htt
           go_upto_region 31 with (first
            | (go_at_call 73; refine (HWID.out _).mono ?_; rintro r w6 ⟨hr, hw⟩; subst hr; subst hw)
            | (go_at_call 70; refine (HFI.out).mono ?_; rintro e w6 ⟨rfl, hb6⟩))
           go_wp2_with fail
           go_roundg (j - (k + 1))
           case measure => have := HG3.out; omega
           case rel => exact ⟨k + 1, by simp, by omega, rfl, congrArg Value.string (by
            apply ByteArray.ext
            rw [linesF_succ, HLN.out, HOPR.out, HLST.out]
            simp [ByteArray.data_append]), HBT.out.trans ((HB5.out.trans (hb6.mono hz5)).mono hbtz)⟩
          ·rw [if_neg hw0] at hopr
           have HOPR := Lib.hid hopr
           have f1 : decide ((0 : Int) < (wd : Int)) = false := decide_eq_false (by omega)
           have f2 : decide (0 < wd) = false := decide_eq_false (by omega)
           clear hopr htt
           go_upto_region 31 with (go_at_call 73; refine (HWID.out _).mono ?_; rintro r w6 ⟨hr, hw⟩; subst hr; subst hw)
           go_wp2_with fail
           go_roundg (j - (k + 1))
           case measure => have := HG3.out; omega
           case rel => exact ⟨k + 1, by simp, by omega, rfl, congrArg Value.string (by
            apply ByteArray.ext
            rw [linesF_succ, HLN.out, HOPR.out, HLST.out]
            simp [ByteArray.data_append]), HBT.out.trans ((HB5.out).mono hbtz)⟩
         | some t =>
          have hopr := HOP.out
          rw [htt] at hopr
          simp only at hopr
          have HOPR := Lib.hid hopr
          have htk := tgt_ok htt
          rw [← HSZ.out] at htk
          have htk2 : i64ok t := ⟨by omega, by omega⟩
          have hil := itoa_len t htk2
          have g1 : decide ((0 : Int) ≤ t) = true := decide_eq_true (by omega)
          have HIT := Lib.hid (itoa_any (HER.out.below HB5.out (HER.out.1)) t htk2)
          simp only [tgtV, Option.getD]
          clear htt hopr htk2 hol
          go_upto_region 31 with (go_at_call 69; refine (HIT.out).mono ?_; rintro e w6 ⟨rfl, hb6⟩)
          go_wp2_with fail
          go_roundg (j - (k + 1))
          case measure => have := HG3.out; omega
          case rel => exact ⟨k + 1, by simp, by omega, rfl, congrArg Value.string (by
           apply ByteArray.ext
           rw [linesF_succ, HLN.out, HOPR.out, HLST.out]
           simp [ByteArray.data_append]), HBT.out.trans ((HB5.out.trans (hb6.mono hz5)).mono hbtz)⟩
       ·obtain rfl : k = j := by omega
        have e1 : decide ((k : Int) < (k : Int)) = false := decide_eq_false (by omega)
        obtain ⟨cm, _, hmbw⟩ := hM.cell s.size (Nat.le_refl _)
        have hlab := lab_len L s.size (by omega)
        have hlbl : labF L s.size = if markF L k (s.size : Int) then labelB s.size else [] := by unfold labF; rw [← HN.out]
        have hPF : printF L = linesF L k ++ labF L s.size := by unfold printF; rw [← HN.out, ← HSZ.out]
        have HPF := Lib.hid hPF
        have HLBL := Lib.hid hlbl
        have hll2 : (linesF L k).length ≤ 27648 := by omega
        have hpi : s.size < s.size + 1 := by omega
        have HBF := Lib.hid (HB1.out.trans (hW1.mono hbs1))
        clear hM hPW3 hW1 hPF hlbl
        cases hmk : markF L k (s.size : Int)
        ·rw [hmk] at cm
         have hls : linesF L k = printF L := by rw [HPF.out, HLBL.out, hmk]; simp
         have HLS := Lib.hid hls
         clear hmk hls
         go_wp2_with fail
         go_ret2
         exact ⟨HBF.out, .inr (.inr ⟨h5, L, HD.out, by rw [← HLS.out]; rfl⟩)⟩
        ·rw [hmk] at cm
         have hcat : (⟨(linesF L k).toArray⟩ ++ ⟨#[76]⟩ ++ ⟨(Lib.itoa (s.size : Int)).toArray⟩ ++ ⟨#[58, 10]⟩ : ByteArray) = ⟨(printF L).toArray⟩ := by
          apply ByteArray.ext
          rw [HPF.out, HLBL.out, hmk]
          simp [ByteArray.data_append, labelB]
         have HCAT := Lib.hid hcat
         have hpl := itoa_len (s.size : Int) ⟨by omega, by omega⟩
         have HIT0 := Lib.hid (itoa_any HER.out (s.size : Int) ⟨by omega, by omega⟩)
         clear hmk hcat
         go_wp2_with (go_at_call 69; refine (HIT0.out).mono ?_; rintro e w4 ⟨rfl, hb4⟩)
         go_ret2
         exact ⟨HBF.out.trans (hb4.mono (by omega)), .inr (.inr ⟨h5, L, HD.out, by rw [← HCAT.out]; rfl⟩)⟩
end Go.Proofs.YtiheggkkgbfndaaGreatDoor
