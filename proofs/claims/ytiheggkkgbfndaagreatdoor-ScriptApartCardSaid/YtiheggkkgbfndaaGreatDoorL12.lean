/- asm.Print. -/
import Derived.Test.YtiheggkkgbfndaaGreatDoorL11
namespace Go.Proofs.YtiheggkkgbfndaaGreatDoor
open Go.RowKit Go.Joins Go.ChangeShapes Go.WideShapes Go.Deep Go.Maps Go.Sort
set_option linter.unusedVariables false
set_option linter.unusedSimpArgs false
set_option maxRecDepth 100000

def PrintPost (s : ByteArray) (w : World) (e : Ending) (w' : World) : Prop :=
  Below w.heap.size w w' ∧
  ((512 < s.size ∧ e = .returned (.tuple #[.string ⟨#[]⟩, .int .i64 2])) ∨
   (s.size ≤ 512 ∧ ∃ L p, Dec (bytesL s) L p ∧ p < s.size ∧ atF (bytesL s) p = none ∧ e = .returned (.tuple #[.string ⟨#[]⟩, .int .i64 10])) ∨
   (s.size ≤ 512 ∧ ∃ L, Dec (bytesL s) L s.size ∧ e = .returned (.tuple #[.string ⟨(printF L).toArray⟩, .int .i64 0])))
theorem fields_words {B:Nat} {w:World} (hE:EnvIn B w):Calls Tryz.prog 64 #[.string ⟨wordsText.toArray⟩] w fun e w'=>∃ A,e=.returned (.slice (some ⟨A,0,none⟩) 41 41)∧w'.ownsRow w.heap.size 9 1 (.slice (some ⟨A,0,none⟩) 41 41) 41 wordV∧Below w.heap.size w w':=by
 refine (Tryz.strings_Fields_any ⟨wordsText.toArray⟩ w (by decide) hE.here.ascii hE.here.white).mono ?_
 rintro e w' ⟨A,h1,_,h3,h4⟩
 have e0:(⟨wordsText.toArray⟩:ByteArray).data.toList=wordsText:=rfl
 rw [e0,words_fields,words_len] at h1 h3
 exact ⟨A,h1,h3,h4⟩
theorem leF_take_lt (s:ByteArray) (i k:Nat):leF (((bytesL s).drop i).take k) < 256 ^ k:=by
 have h:=leF_lt (((bytesL s).drop i).take k) (fun b hb=>by
  have:=List.mem_of_mem_drop (List.mem_of_mem_take hb)
  simp only [bytesL,List.mem_map] at this
  obtain ⟨u,_,rfl⟩:=this
  exact u.toNat_lt)
 exact Nat.lt_of_lt_of_le h (Nat.pow_le_pow_right (by decide) (List.length_take_le _ _))
theorem dec_i64 {s:ByteArray} {L:List AOp} {p:Nat} (h:Dec (bytesL s) L p):∀ o ∈ L,i64ok o.operand:=by
 induction h with
 | nil=>intro o ho;cases ho
 | @snoc L p o k h1 h2 h3 ih =>
  intro o' ho
  rcases List.mem_append.1 ho with ho | ho
  ·exact ih o' ho
  ·obtain rfl:=List.mem_singleton.1 ho
   have hc:=(atF_bound h3).2.1
   have h7:shapeF o'.code < 7:=by rcases shape_cases o'.code hc with h | h | h | h | h | h | h <;> omega
   unfold atF at h3
   rw [if_pos h2] at h3
   simp only at h3
   split at h3
   ·split at h3
    ·split at h3
     ·injection h3 with h3
      injection h3 with h3 _
      subst h3
      exact (value_lo _ _ h7 (leF_take_lt s _ _)).2
     ·cases h3
    ·cases h3
   ·cases h3
theorem tgt_ok {L:List AOp} {o:AOp} {p:Nat} {t:Int} (h:tgtF L o p=some t):0 ≤ t∧t ≤ (sizeF L:Int):=by
 unfold tgtF at h
 split at h
 ·rename_i hb
  injection h with h
  subst h
  simp only [Bool.and_eq_true,begF,Bool.or_eq_true,beq_iff_eq,List.any_eq_true] at hb
  rcases hb.2 with hb | ⟨x,_,hb⟩
  ·omega
  ·have:=sizeF_le L x
   omega
 ·cases h
theorem op_facts {w1 W:World} {R:Option Addr} {n i:Nat} {L:List AOp} (hR:Reads w1 w1.heap.size 2 R n (rows opc L)) (hb:Below w1.heap.size w1 W) (hn:n=L.length) (hi:i < n) :
  ∃ g off c v,R=some ⟨g,off,none⟩∧L.getD i ⟨0,0⟩=⟨c,v⟩∧L[i]?=some ⟨c,v⟩∧(⟨c,v⟩:AOp) ∈ L∧W.cell? ⟨g,off + i * 2,none⟩=some (.int .i64 c)∧W.cell? ⟨g,off + i * 2 + 1,none⟩=some (.int .i64 v)∧g < w1.heap.size:=by
 obtain ⟨g,off,rfl,hg,hc⟩:=reads_flat (hR.below hb) (by omega) (by omega)
 have hil:i < L.length:=by omega
 obtain ⟨p0,p1⟩:=opc_at L i hil
 refine ⟨g,off,L[i].code,L[i].operand,rfl,?_,?_,List.getElem_mem hil,hc _ _ p0,hc _ _ p1,hg⟩
 ·rw [List.getD_eq_getElem?_getD,List.getElem?_eq_getElem hil]
  rfl
 ·rw [List.getElem?_eq_getElem hil]
theorem opr_len (L:List AOp) (i:Nat) (hL:∀ o ∈ L,i64ok o.operand) (hs:sizeF L ≤ 512):(oprF L i).length ≤ 23:=by
 unfold oprF
 split
 ·rename_i t ht
  have:=tgt_ok (show tgtF L _ _=some t from ht)
  have:=itoa_len t ⟨by omega,by omega⟩
  simp only [List.length_cons]
  omega
 ·split
  ·have h:i64ok (L.getD i ⟨0,0⟩).operand:=by
    rw [List.getD_eq_getElem?_getD]
    cases hx:L[i]? with
    | none=>exact ⟨by simp,by simp⟩
    | some x=>exact hL x (List.mem_of_getElem? hx)
   have:=itoa_len _ h
   simp only [List.length_cons]
   omega
  ·simp
theorem lab_len (L:List AOp) (p:Nat) (hp:p ≤ 512):(labF L p).length ≤ 24:=by
 unfold labF
 split
 ·have:=itoa_len (p:Int) ⟨by omega,by omega⟩
  simp only [labelB,List.length_cons,List.length_append,List.length_nil]
  omega
 ·simp
theorem lines_len (L:List AOp) (m:Nat) (hL:∀ o ∈ L,i64ok o.operand) (hs:sizeF L ≤ 512):(linesF L m).length ≤ 54 * m:=by
 induction m with
 | zero=>simp [linesF]
 | succ m ih =>
  rw [linesF_succ,List.length_append]
  have h1:=lab_len L (sizeF (L.take m)) (by have:=sizeF_le L m;omega)
  have h2:=word_len (L.getD m ⟨0,0⟩).code
  have h3:=opr_len L m hL hs
  simp only [lineF,List.length_append,List.length_cons,List.length_nil]
  omega
set_option maxHeartbeats 4000000 in
theorem print_any {B : Nat} (s : ByteArray) (w : World) (hE : EnvIn B w) (hs : s.size ≤ 4611686018427387904) : Calls Tryz.prog 30 #[.string s] w (PrintPost s w) := by
 have HEE := Lib.hid hE
 have HDEC := Lib.hid (decode_any s w hE.here.shapes hs)
 go_enter Tryz.func30, Tryz.ntmps30
 go_upto_region 2 with (go_at_call 63; refine (HDEC.out).mono ?_; rintro e w1 ⟨hb1, hpost⟩; rcases hpost with ⟨h5, rfl⟩ | ⟨h5, L, p, hD, hp, hat, rfl⟩ | ⟨h5, L, v, hD, hown, rfl⟩)
 ·have H5 := Lib.hid h5
  clear h5
  go_wp2
  go_ret2
  exact ⟨hb1, .inl ⟨H5.out, rfl⟩⟩
 ·have H5 := Lib.hid (show PrintPost s w (.returned (.tuple #[.string ⟨#[]⟩, .int .i64 10])) w1 from ⟨hb1, .inr (.inl ⟨h5, L, p, hD, hp, hat, rfl⟩)⟩)
  clear h5 hD hp hat
  go_wp2
  go_ret2
  exact H5.out
 ·have hsz := hD.size
  have hgood := hD.good
  have hle := hD.le
  rw [bytesL_length] at hle
  obtain ⟨_, hLs⟩ := hle
  obtain ⟨n, hn⟩ : ∃ n, n = L.length := ⟨_, rfl⟩
  rw [← hn] at hown hLs
  have HN := Lib.hid hn
  have HGOOD := Lib.hid hgood
  have HI64 : Hid (∀ o ∈ L, i64ok o.operand) := Lib.hid (dec_i64 hD)
  have HD := Lib.hid hD
  have HSZ := Lib.hid hsz
  have hn5 : n ≤ 512 := by omega
  have hE1 := hE.below hb1 hE.1
  have hBw := hE.1
  have HF := Lib.hid (fields_words hE1)
  have HB1 := Lib.hid hb1
  have hbs1 := hb1.size
  obtain ⟨R, cR, rfl, hcR, hRd⟩ := own_shapes hown
  have HR := Lib.hid hRd
  clear hRd
  have hmm := @run_makeMap Tryz.prog
  clear hn hgood hD hsz hb1
  go_upto_region 5 with (go_at_call 64; refine (HF.out).mono ?_; rintro e w2 ⟨A, rfl, hownW, hb2⟩)
  have hE2 := hE1.below hb2 (by omega)
  have HE2 := Lib.hid hE2
  have HB2 := Lib.hid hb2
  clear hE1 hE2
  have hbs2 := hb2.size
  have hsz0 : (s.size : Int) = (sizeF L : Int) := by rw [HSZ.out]
  have hkey : i64ok (s.size : Int) := ⟨by omega, by omega⟩
  clear hb2 hsz0
  go_upto_region 6 with (refine wpList_bmap_insert _ rfl (.tmp 34) (.tmp 36) (.const (.bool true)) rfl w2.heap.size 0 (fun _ => false) rfl (BMap.made w2) (by unfold maxLen; omega) (s.size : Int) hkey rfl rfl ?_; intro w3 hm3 hg3)
  have hb3 : Below w2.heap.size w2 w3 := ((Below.refl _ _).alloc (Nat.le_refl _) _).grown hg3 (by simp) (fun q hq => by injection hq with hq; omega)
  have hm4 : BMap (w3.alloc (.cells #[.map (some w2.heap.size)] 111)) w2.heap.size 1 (begF L 0) := ((hm3.congr (S' := begF L 0) (fun k => by simp [begF, HSZ.out])).kept (Below.heap_alloc w3 _ _ hm3.lt))
  have hb4 : Below w2.heap.size w2 (w3.alloc (.cells #[.map (some w2.heap.size)] 111)) := hb3.alloc hb3.size _
  have h8 : Blk (w3.alloc (.cells #[.map (some w2.heap.size)] 111)) w3.heap.size 111 #[.map (some w2.heap.size)] := Blk.new w3 _ _
  have hlt3 := hm3.lt
  clear hm3 hg3
  obtain ⟨W3, hW3⟩ : ∃ W, W = w3.alloc (.cells #[.map (some w2.heap.size)] 111) := ⟨_, rfl⟩
  rw [← hW3] at hm4 hb4 h8 ⊢
  have hz3 : W3.heap.size = w3.heap.size + 1 := by rw [hW3]; simp
  clear hW3
  obtain ⟨b8, hb8⟩ : ∃ b, b = w3.heap.size := ⟨_, rfl⟩
  rw [← hb8] at h8 hz3 hlt3 ⊢
  obtain ⟨bm, hbm⟩ : ∃ b, b = w2.heap.size := ⟨_, rfl⟩
  have hb2m : Below bm w2 W3 := by rw [hbm]; exact hb4
  rw [← hbm] at hm4 h8 hbs2 hlt3 ⊢
  have HBM := Lib.hid hbm
  clear hb8 hb3 hb4 hbm
  have HB4 := Lib.hid hb2m
  have H8 := Lib.hid h8
  clear h8 hb2m
  go_upto_region 7 with fail
  go_wp2_with fail
  go_loopg [9, 40] n (fun gk av iv wr => ∃ i : Nat, iv = .int .i64 i ∧ i ≤ n ∧ gk = n - i ∧ av = .int .i64 (sizeF (L.take i) : Nat) ∧ BMap wr bm (1 + i) (begF L i) ∧ Frm W3 wr (fun q => q = bm))
  case atStart => exact ⟨0, rfl, Nat.zero_le _, rfl, rfl, hm4, Frm.refl _ _⟩
  case round =>
   obtain ⟨i, rfl, hi, hgk, rfl, hM, hF⟩ := hrel
   have HG := Lib.hid hgk
   clear hgk
   have hbw : Below bm w2 wr := HB4.out.trans (hF.below (by omega) (fun q hq => by omega) |>.mono (Nat.le_refl _))
   have hsz4 := hF.size
   have c8 : wr.cell? ⟨b8, 0, none⟩ = some (.map (some bm)) := ((show Blk wr b8 111 #[.map (some bm)] from (hF.block b8 (by omega) (by omega)).trans H8.out).cell 0).trans rfl
   have hw1 : Below w1.heap.size w1 wr := HB2.out.trans (hbw.mono (by rw [HBM.out]; exact HB2.out.size))
   have HF1 := Lib.hid hF
   have HBW := Lib.hid hbw
   by_cases hin : i < n
   ·obtain ⟨g, off, c, v, rfl, hgd, hat, hmem, cx0, cx1, hg⟩ := op_facts HR.out hw1 HN.out hin
    obtain ⟨hc41, hfit⟩ := HGOOD.out _ hmem
    simp only at hc41 hfit
    have hst : sizeF (L.take (i + 1)) = sizeF (L.take i) + (1 + widthF (shapeF c)) := by
     rw [sizeF_take L i (by rw [← HN.out]; exact hin), (List.getElem?_eq_some_iff.1 hat).2]
    have hlei := sizeF_le L i
    rw [← HSZ.out] at hlei
    obtain ⟨wd, hwd⟩ : ∃ wd, wd = widthF (shapeF c) := ⟨_, rfl⟩
    have hwd8 : wd ≤ 8 := by rw [hwd]; unfold widthF; split <;> (try split) <;> (try split) <;> omega
    rw [← hwd] at hst
    have HWD := Lib.hid hwd
    clear hwd
    have HST := Lib.hid hst
    have HBEG := Lib.hid (begF_succ L i)
    obtain ⟨p, hp⟩ : ∃ p, p = sizeF (L.take i) := ⟨_, rfl⟩
    rw [← hp] at hlei HST HBEG ⊢
    have hEr : EnvIn B wr := HE2.out.below HBW.out (by omega)
    have HER := Lib.hid hEr
    have hpk : i64ok (p : Int) := ⟨by omega, by omega⟩
    have HM1 := Lib.hid (hM.kept (Below.heap_alloc wr (.cells #[.int .i64 c, .int .i64 v] 113) bm hM.lt))
    have hgw : g < wr.heap.size := by omega
    have hb8w : b8 < wr.heap.size := by omega
    have hbmw : bm < wr.heap.size := by omega
    have e1 : decide ((i : Int) < (n : Int)) = true := decide_eq_true (by omega)
    have e2 : decide (i < n) = true := decide_eq_true hin
    clear hgd hat hmem hst hp hEr hM hbw hw1 hF hown
    go_upto_region 11 with (refine wpList_bmap_put _ rfl (.tmp 44) (.tmp 45) (.const (.bool true)) rfl bm (1 + i) (begF L i) rfl HM1.out (by unfold maxLen; omega) (p : Int) hpk rfl rfl ?_; intro w4 hm4' hg4)
    have hB4 : Blk w4 wr.heap.size 113 #[.int .i64 c, .int .i64 v] := (Blk.new wr _ _).grown hg4 (by intro hh; injection hh with hh; omega)
    have x0 : w4.cell? ⟨wr.heap.size, 0, none⟩ = some (.int .i64 c) := (hB4.cell 0).trans rfl
    have hxl := hB4.lt
    have hF4 : Frm wr w4 (fun q => q = bm) := ((Frm.refl wr _).alloc _).grown hg4 (fun q hq => by injection hq with hq; exact .inl hq.symm)
    have HF4 := Lib.hid hF4
    have hE4 : EnvIn B w4 := HER.out.below (hF4.below (by omega) (fun q hq => by omega) : Below bm wr w4) (by omega)
    have hby := bytes_c c hc41 w4 hE4.here.shapes
    rw [← HWD.out] at hby
    have HBY := Lib.hid hby
    clear hby
    have HM4 := Lib.hid hm4'
    clear hg4 hB4 hF4 hE4 hm4'
    go_wp2_with (go_at_call 65; refine (HBY.out).mono ?_; rintro e w5 ⟨rfl, hb5⟩)
    have hF5 : Frm W3 w5 (fun q => q = bm) := (HF1.out.trans HF4.out (fun q hq => .inl hq)).trans (Frm.of_below (S := fun _ => False) hb5) (fun q hq => hq.elim)
    go_roundg (n - (i + 1))
    case measure => have := HG.out; omega
    case rel => exact ⟨i + 1, by simp, by omega, rfl, by rw [HST.out]; simp, ((HM4.out.congr fun k => (HBEG.out k).symm).kept (hb5.block bm HM4.out.lt)), hF5⟩
   ·obtain rfl : i = n := by omega
    have e1 : decide ((i : Int) < (i : Int)) = false := decide_eq_false (by omega)
    have hEr := HE2.out.below HBW.out (by omega)
    have HER := Lib.hid hEr
    have HMB := Lib.hid hM
    have hbmw := hM.lt
    have hwsz : w2.heap.size ≤ wr.heap.size := hbw.size
    clear hM hF hEr hm4
    go_upto_region 15 with fail
    obtain ⟨W6, hW6⟩ : ∃ W, W = (wr.alloc (.map #[] 0)).alloc (.cells #[.map (some wr.heap.size)] 111) := ⟨_, rfl⟩
    rw [← hW6]
    have hz6 : W6.heap.size = wr.heap.size + 1 + 1 := by rw [hW6]; simp
    have hb6 : Below wr.heap.size wr W6 := by rw [hW6]; exact ((Below.refl _ _).alloc (Nat.le_refl _) _).alloc (by simp) _
    have hm6 : BMap W6 wr.heap.size 0 (markF L 0) := by rw [hW6]; exact ((BMap.made wr).congr fun k => rfl).kept (Below.heap_alloc _ _ _ (by simp))
    have h136 : Blk W6 (wr.heap.size + 1) 111 #[.map (some wr.heap.size)] := by
     rw [hW6]
     have := Blk.new (wr.alloc (.map #[] 0)) 111 #[.map (some wr.heap.size)]
     simpa using this
    have h86 : Blk W6 b8 111 #[.map (some bm)] := (hb6.block b8 (by omega)).trans ((HF1.out.block b8 (by omega) (by omega)).trans H8.out)
    have hmb6 : BMap W6 bm (1 + i) (begF L L.length) := by
     have := HMB.out.kept (hb6.block bm hbmw)
     rw [← HN.out]
     exact this
    have hb26 : Below w2.heap.size w2 W6 := (show Below w2.heap.size w2 wr by rw [← HBM.out]; exact HBW.out).trans (hb6.mono hwsz)
    clear hW6
    obtain ⟨mm, hmmx⟩ : ∃ m, m = wr.heap.size := ⟨_, rfl⟩
    rw [← hmmx] at hz6 hm6 h136 hsz4 hbmw hwsz ⊢
    have H86 := Lib.hid h86
    have H136 := Lib.hid h136
    have HM6 := Lib.hid hm6
    have HMB6 := Lib.hid hmb6
    have HB26 := Lib.hid hb26
    have hmB : B ≤ W6.heap.size := by omega
    clear hmmx h86 h136 hm6 hmb6 hb26 hb6 HER HMB HBW HF1 hbw hw1 c8
    obtain ⟨wo, hwo⟩ : ∃ wo, wo = wr := ⟨_, rfl⟩
    clear hwo
    go_wp2_with fail
    go_loopg [9, 56] i (fun gk av iv W => ∃ j : Nat, iv = .int .i64 j ∧ j ≤ i ∧ gk = i - j ∧ av = .int .i64 (sizeF (L.take j) : Nat) ∧ (∃ m, m ≤ j ∧ BMap W mm m (markF L j)) ∧ Frm W6 W (fun q => q = mm))
    case atStart => exact ⟨0, rfl, Nat.zero_le _, rfl, rfl, ⟨0, Nat.le_refl _, HM6.out⟩, Frm.refl _ _⟩
    case round =>
     obtain ⟨j, rfl, hj, hgk, rfl, ⟨m, hmj, hM⟩, hF⟩ := hrel
     have HG2 := Lib.hid hgk
     clear hgk
     have hbw : Below mm W6 wr := hF.below (by omega) (fun q hq => by omega)
     have hsz7 := hF.size
     have hbw2 : Below w2.heap.size w2 wr := HB26.out.trans (hbw.mono (by omega))
     have hw1 : Below w1.heap.size w1 wr := HB2.out.trans (hbw2.mono HB2.out.size)
     have c8 : wr.cell? ⟨b8, 0, none⟩ = some (.map (some bm)) := ((show Blk wr b8 111 #[.map (some bm)] from (hF.block b8 (by omega) (by omega)).trans H86.out).cell 0).trans rfl
     have c13 : wr.cell? ⟨mm + 1, 0, none⟩ = some (.map (some mm)) := ((show Blk wr (mm + 1) 111 #[.map (some mm)] from (hF.block (mm + 1) (by omega) (by omega)).trans H136.out).cell 0).trans rfl
     have hMB : BMap wr bm (1 + i) (begF L L.length) := HMB6.out.kept (hF.block bm (by omega) (by omega))
     have HMBr := Lib.hid hMB
     have HF2 := Lib.hid hF
     have hEr := HE2.out.below hbw2 (Nat.le_trans (by omega : B ≤ w1.heap.size) HB2.out.size)
     have HER := Lib.hid hEr
     have HW1 := Lib.hid hw1
     have HBW2 := Lib.hid hbw2
     clear hMB hF hEr hw1 hbw hbw2
     by_cases hjn : j < i
     ·obtain ⟨g, off, c, v, rfl, hgd, hat, hmem, cx0, cx1, hg⟩ := op_facts HR.out HW1.out HN.out hjn
      obtain ⟨hc41, hfit⟩ := HGOOD.out _ hmem
      simp only at hc41 hfit
      have hv : i64ok v := HI64.out _ hmem
      have hst : sizeF (L.take (j + 1)) = sizeF (L.take j) + (1 + widthF (shapeF c)) := by
       rw [sizeF_take L j (by rw [← HN.out]; exact hjn), (List.getElem?_eq_some_iff.1 hat).2]
      have hlei := sizeF_le L j
      rw [← HSZ.out] at hlei
      have htg : tgtAt L j = tgtF L ⟨c, v⟩ (sizeF (L.take j)) := by unfold tgtAt; rw [hgd]
      obtain ⟨wd, hwd⟩ : ∃ wd, wd = widthF (shapeF c) := ⟨_, rfl⟩
      have hwd8 : wd ≤ 8 := by rw [hwd]; unfold widthF; split <;> (try split) <;> (try split) <;> omega
      rw [← hwd] at hst
      have HWD := Lib.hid hwd
      have HST := Lib.hid hst
      obtain ⟨p, hp⟩ : ∃ p, p = sizeF (L.take j) := ⟨_, rfl⟩
      rw [← hp] at hlei HST htg ⊢
      have HTG := Lib.hid htg
      have hTO := to_any L c v p hv hfit (by omega) (wr.alloc (.cells #[.int .i64 c, .int .i64 v] 113)) b8 bm (1 + i) ((World.cell?_alloc_lt wr _ ⟨b8, 0, none⟩ (by show b8 < _; omega)).trans c8) (HMBr.out.kept (Below.heap_alloc wr _ bm HMBr.out.lt))
      have HTO := Lib.hid hTO
      have HM1 := Lib.hid (hM.kept (Below.heap_alloc wr (.cells #[.int .i64 c, .int .i64 v] 113) mm hM.lt))
      have hgw : g < wr.heap.size := by omega
      have hb8w : b8 < wr.heap.size := by omega
      have hmmw : mm + 1 < wr.heap.size := by omega
      have e1 : decide ((j : Int) < (i : Int)) = true := decide_eq_true (by omega)
      have e2 : decide (j < i) = true := decide_eq_true hjn
      clear hgd hat hmem hst hp hM hown hwd hTO hfit htg
      go_upto_region 20 with (go_at_call 66; refine (HTO.out).mono ?_; rintro e w4 ⟨n', rfl, hn', hb4⟩)
      have hz4 : wr.heap.size + 1 ≤ w4.heap.size := by have := hb4.size; simpa using this
      have hbr4 : Below wr.heap.size wr w4 := ((Below.refl _ _).alloc (Nat.le_refl _) _).trans (hb4.mono (by simp))
      have hB4 : Blk w4 wr.heap.size 113 #[.int .i64 c, .int .i64 v] := (Blk.new wr _ _).below hb4 (by simp)
      have x0 : w4.cell? ⟨wr.heap.size, 0, none⟩ = some (.int .i64 c) := (hB4.cell 0).trans rfl
      have d13 : w4.cell? ⟨mm + 1, 0, none⟩ = some (.map (some mm)) := (hbr4.cell (p := ⟨mm + 1, 0, none⟩) hmmw).trans c13
      have hM4 := HM1.out.kept (hb4.block mm HM1.out.lt)
      have hE4 : EnvIn B w4 := HER.out.below hbr4 HER.out.1
      have HM4 := Lib.hid hM4
      have HE4 := Lib.hid hE4
      have HBR := Lib.hid hbr4
      have hmm4 : mm < w4.heap.size := by omega
      clear hM4 hE4 hb4 hbr4
      cases htt : tgtF L ⟨c, v⟩ p with
      | none =>
       have hMK := HTG.out.trans htt
       have HMK := Lib.hid (markF_none L j hMK)
       have hby := bytes_c c hc41 w4 HE4.out.here.shapes
       rw [← HWD.out] at hby
       have HBY := Lib.hid hby
       simp only [Option.isSome]
       clear hby hMK htt hn' hB4
       go_wp2_with (go_at_call 65; refine (HBY.out).mono ?_; rintro e w5 ⟨rfl, hb5⟩)
       have hF5 : Frm W6 w5 (fun q => q = mm) := (HF2.out.trans (Frm.of_below (S := fun _ => False) HBR.out) (fun q hq => hq.elim)).trans (Frm.of_below (S := fun _ => False) hb5) (fun q hq => hq.elim)
       go_roundg (i - (j + 1))
       case measure => have := HG2.out; omega
       case rel => exact ⟨j + 1, by simp, by omega, rfl, by rw [HST.out]; simp, ⟨m, by omega, ((HM4.out.congr fun k => (HMK.out k).symm).kept (hb5.block mm hmm4))⟩, hF5⟩
      | some t =>
       have hMK := HTG.out.trans htt
       have HMK := Lib.hid (markF_some L j hMK)
       obtain rfl := hn' t htt
       have htk := tgt_ok htt
       rw [← HSZ.out] at htk
       have htk2 : i64ok n' := ⟨by omega, by omega⟩
       simp only [Option.isSome]
       clear hMK htt hn'
       go_upto_region 22 with (refine wpList_bmap_put _ rfl (.tmp 68) (.tmp 69) (.const (.bool true)) rfl mm m (markF L j) rfl HM4.out (by unfold maxLen; omega) n' htk2 rfl rfl ?_; intro w5 hm5 hg5)
       have hB5 : Blk w5 wr.heap.size 113 #[.int .i64 c, .int .i64 v] := hB4.grown hg5 (by intro hh; injection hh with hh; omega)
       have y0 : w5.cell? ⟨wr.heap.size, 0, none⟩ = some (.int .i64 c) := (hB5.cell 0).trans rfl
       have hyl := hB5.lt
       have hF5 : Frm w4 w5 (fun q => q = mm) := (Frm.refl w4 _).grown hg5 (fun q hq => by injection hq with hq; exact .inl hq.symm)
       have HF5 := Lib.hid hF5
       have hE5 : EnvIn B w5 := HE4.out.below (hF5.below (by omega) (fun q hq => by omega) : Below mm w4 w5) (by omega)
       have hby := bytes_c c hc41 w5 hE5.here.shapes
       rw [← HWD.out] at hby
       have HBY := Lib.hid hby
       have HM5 := Lib.hid hm5
       clear hg5 hB5 hB4 hF5 hE5 hm5 hby
       go_wp2_with (go_at_call 65; refine (HBY.out).mono ?_; rintro e w6 ⟨rfl, hb6⟩)
       have hF6 : Frm W6 w6 (fun q => q = mm) := ((HF2.out.trans (Frm.of_below (S := fun _ => False) HBR.out) (fun q hq => hq.elim)).trans HF5.out (fun q hq => .inl hq)).trans (Frm.of_below (S := fun _ => False) hb6) (fun q hq => hq.elim)
       go_roundg (i - (j + 1))
       case measure => have := HG2.out; omega
       case rel => exact ⟨j + 1, by simp, by omega, rfl, by rw [HST.out]; simp, ⟨m + 1, by omega, ((HM5.out.congr fun k => (HMK.out k).symm).kept (hb6.block mm HM5.out.lt))⟩, hF6⟩
     ·obtain rfl : j = i := by omega
      have e1 : decide ((j : Int) < (j : Int)) = false := decide_eq_false (by omega)
      have HMM := Lib.hid hM
      have hmmw := hM.lt
      have hzw := HBW2.out.size
      obtain ⟨csW, hcw⟩ := own_blk (b := A) hownW rfl
      have hAw := hcw.lt
      obtain ⟨W7, hW7⟩ : ∃ W, W = wr.alloc (.cells #[.pointer none, .slice none 0 0] 75) := ⟨_, rfl⟩
      have hz7 : W7.heap.size = wr.heap.size + 1 := by rw [hW7]; simp
      have hA7 : ∀ q, q < wr.heap.size → W7.heap[q]? = wr.heap[q]? := fun q hq => by rw [hW7]; exact Below.heap_alloc wr _ q hq
      have hbld : Bld wr.heap.size [] W7 := by rw [hW7]; exact Bld.new wr
      have hE7 : EnvIn B W7 := by rw [hW7]; exact HER.out.below ((Below.refl _ _).alloc (Nat.le_refl _) _) HER.out.1
      have hBase : PBase L B b8 bm (mm + 1) mm wr.heap.size A W7 := ⟨(hA7 b8 (by omega)).trans ((HF2.out.block b8 (by omega) (by omega)).trans H86.out), (hA7 (mm + 1) (by omega)).trans ((HF2.out.block (mm + 1) (by omega) (by omega)).trans H136.out),
       ⟨_, HMBr.out.kept (hA7 bm (by omega))⟩, ⟨_, by rw [← HN.out]; exact HMM.out.kept (hA7 mm hmmw)⟩,
       ⟨csW, (hA7 A (by omega)).trans ((HBW2.out.block A hAw).trans hcw), fun k hk => by
        rw [← hownW.cellAt k (by omega), hcw.cell k]⟩, hE7, hz7, by omega, by omega, by omega, hmmw, by omega, HER.out.1⟩
      have HBASE := Lib.hid hBase
      have HBLD := Lib.hid hbld
      have hws7 : wr.heap.size < W7.heap.size := by omega
      have hb17 : Below w1.heap.size w1 W7 := by rw [hW7]; exact HW1.out.alloc HW1.out.size _
      have HB17 := Lib.hid hb17
      have hw1b : w1.heap.size ≤ wr.heap.size := HW1.out.size
      clear hM hA7 hbld hE7 hBase hb17
      go_upto_region 26 with fail
      rw [← hW7]
      clear hW7
      obtain ⟨bb, hbb⟩ : ∃ b, b = wr.heap.size := ⟨_, rfl⟩
      rw [← hbb] at hz7 HBASE HBLD hw1b ⊢
      clear hbb hownW hcw c8 c13 hzw hAw hws7
      obtain ⟨wo2, hwo2⟩ : ∃ wo, wo = wr := ⟨_, rfl⟩
      clear hwo2
      go_wp2_with fail
      go_loopg [9, 79] j (fun gk av iv W => ∃ k : Nat, iv = .int .i64 k ∧ k ≤ j ∧ gk = j - k ∧ av = .int .i64 (sizeF (L.take k) : Nat) ∧ Bld bb (linesF L k) W ∧ Frm W7 W (fun q => q = bb))
      case atStart => exact ⟨0, rfl, Nat.zero_le _, rfl, rfl, HBLD.out, Frm.refl _ _⟩
      case round =>
       obtain ⟨k, rfl, hk, hgk, rfl, hB, hF⟩ := hrel
       have HG3 := Lib.hid hgk
       clear hgk
       have hbw7 : Below bb W7 wr := hF.below (by omega) (fun q hq => by omega)
       have HW17 := Lib.hid (HB17.out.trans (hbw7.mono hw1b))
       have hszw := hF.size
       clear hbw7
       by_cases hkn : k < j
       ·obtain ⟨g, off, c, v, rfl, hgd, hat, hmem, cx0, cx1, hg⟩ := op_facts HR.out HW17.out HN.out hkn
        obtain ⟨hc41, hfit⟩ := HGOOD.out _ hmem
        simp only at hc41 hfit
        have hv : i64ok v := HI64.out _ hmem
        have hst : sizeF (L.take (k + 1)) = sizeF (L.take k) + (1 + widthF (shapeF c)) := by
         rw [sizeF_take L k (by rw [← HN.out]; exact hkn), (List.getElem?_eq_some_iff.1 hat).2]
        have hlei := sizeF_le L k
        rw [← HSZ.out] at hlei
        have htg : tgtAt L k = tgtF L ⟨c, v⟩ (sizeF (L.take k)) := by unfold tgtAt; rw [hgd]
        have hln : lineF L k = labF L (sizeF (L.take k)) ++ wordsB.getD c [] ++ oprF L k ++ [10] := by unfold lineF; rw [hgd]
        have hop : oprF L k = match tgtF L ⟨c, v⟩ (sizeF (L.take k)) with | some t => 32 :: 76 :: Lib.itoa t | none => if 0 < widthF (shapeF c) then 32 :: Lib.itoa v else [] := by unfold oprF; rw [htg, hgd]; rfl
        have hlab := lab_len L (sizeF (L.take k)) (by omega)
        have hwl := word_len c
        have hol := opr_len L k HI64.out (by rw [← HSZ.out]; omega)
        have hll := lines_len L k HI64.out (by rw [← HSZ.out]; omega)
        obtain ⟨wd, hwd⟩ : ∃ wd, wd = widthF (shapeF c) := ⟨_, rfl⟩
        have hwd8 : wd ≤ 8 := by rw [hwd]; unfold widthF; split <;> (try split) <;> (try split) <;> omega
        rw [← hwd] at hst hop
        have HWD := Lib.hid hwd
        have HSZT := Lib.hid hst
        have HLN := Lib.hid hln
        have HOP := Lib.hid hop
        obtain ⟨p, hp⟩ : ∃ p, p = sizeF (L.take k) := ⟨_, rfl⟩
        rw [← hp] at hlei HSZT HLN HOP hlab ⊢
        have hst0 : PSt L B W7 b8 bm (mm + 1) mm bb A wr.heap.size c v (linesF L k) (wr.alloc (.cells #[.int .i64 c, .int .i64 v] 113)) := HBASE.out.start hF hB
        have HST0 := Lib.hid hst0
        have d13 : (wr.alloc (.cells #[.int .i64 c, .int .i64 v] 113)).cell? ⟨mm + 1, 0, none⟩ = some (.map (some mm)) := (hst0.e13.cell 0).trans rfl
        have hgw : g < wr.heap.size := by omega
        have e1 : decide ((k : Int) < (j : Int)) = true := decide_eq_true (by omega)
        have e2 : decide (k < j) = true := decide_eq_true hkn
        have HLAB : Hid (Calls Tryz.prog 68 #[.int .i64 p, .pointer (some ⟨mm + 1, 0, none⟩), .pointer (some ⟨bb, 0, none⟩)] (wr.alloc (.cells #[.int .i64 c, .int .i64 v] 113)) (LabPost (wr.alloc (.cells #[.int .i64 c, .int .i64 v] 113)) bb (linesF L k ++ labF L p))) := by
         obtain ⟨n13, h13⟩ := hst0.m13
         exact Lib.hid (label_any hst0.env p (by omega) (mm + 1) mm n13 bb (markF L L.length) (linesF L k) (by omega) d13 h13 hst0.bld)
        clear hgd hat hmem hst hop hln htg hwd hp hown hB hF hst0
        go_upto_region 31 with (go_at_call 68; refine (HLAB.out).mono ?_; rintro e w4 ⟨rfl, hB4, hF4⟩)
        have HST1 := Lib.hid (HST0.out.step hF4 hB4)
        clear hB4 hF4
        obtain ⟨gx, hgx⟩ : ∃ gx, gx = wr.heap.size := ⟨_, rfl⟩
        rw [← hgx] at HST1 ⊢
        clear hgx
        have x0 : w4.cell? ⟨gx, 0, none⟩ = some (.int .i64 c) := (HST1.out.box.cell 0).trans rfl
        have hA4 : w4.cell? ⟨A, c, none⟩ = some (.string ⟨(wordsB.getD c []).toArray⟩) := by
         obtain ⟨cs, h1, h2⟩ := HST1.out.words
         rw [h1.cell c, h2 c hc41]
         unfold wordV
         rw [List.getElem?_map, List.getD_eq_getElem?_getD, List.getElem?_eq_getElem (by rw [words_len]; exact hc41)]
         rfl
        have hc41' : (c : Int) < 41 := by omega
        obtain ⟨wrd, hwrd⟩ : ∃ x, x = wordsB.getD c [] := ⟨_, rfl⟩
        rw [← hwrd] at hA4 HLN hwl
        clear hwrd
        go_upto_region 32 with (go_at_call 28; refine (writeString_any bb _ ⟨wrd.toArray⟩ _ HST1.out.bld (by simp only [List.length_append, ByteArray.size, List.size_toArray]; omega)).mono ?_; rintro e w5 ⟨rfl, hB5, hF5⟩)
        have HST2 := Lib.hid (HST1.out.step hF5 hB5)
        clear hB5 hF5 x0 hA4
        have x1 : w5.cell? ⟨gx, 0, none⟩ = some (.int .i64 c) := (HST2.out.box.cell 0).trans rfl
        have x2 : w5.cell? ⟨gx, 1, none⟩ = some (.int .i64 v) := (HST2.out.box.cell 1).trans rfl
        have HTO : Hid (Calls Tryz.prog 66 #[.agg #[.int .i64 c, .int .i64 v], .int .i64 p, .pointer (some ⟨b8, 0, none⟩)] w5 (ToPost L ⟨c, v⟩ p w5)) := by
         obtain ⟨n8, h8⟩ := HST2.out.m8
         exact Lib.hid (to_any L c v p hv hfit (by omega) w5 b8 bm n8 ((HST2.out.e8.cell 0).trans rfl) h8)
        clear hfit
        go_upto_region 33 with (go_at_call 66; refine (HTO.out).mono ?_; rintro e w6 ⟨n', rfl, hn', hb6⟩)
        have HST3 := Lib.hid (HST2.out.keep hb6)
        clear hb6 x1 x2
        cases htt : tgtF L ⟨c, v⟩ p with
        | none =>
         have hopr := HOP.out
         rw [htt] at hopr
         simp only at hopr
         simp only [Option.isSome]
         have x3 : w6.cell? ⟨gx, 0, none⟩ = some (.int .i64 c) := (HST3.out.box.cell 0).trans rfl
         have hby3 := bytes_c c hc41 w6 HST3.out.env.here.shapes
         rw [← HWD.out] at hby3
         have HBY3 := Lib.hid hby3
         clear htt hn' hby3
         by_cases hw0 : 0 < wd
         ·rw [if_pos hw0] at hopr
          have HOPR := Lib.hid hopr
          have hil := itoa_len v hv
          have f1 : decide ((1 : Int) < 1 + (wd : Int)) = true := decide_eq_true (by omega)
          have f2 : decide (1 < 1 + wd) = true := decide_eq_true (by omega)
          clear hopr hol
          go_upto_region 36 with (go_at_call 65; refine (HBY3.out).mono ?_; rintro e w7 ⟨rfl, hb7⟩)
          have HST4 := Lib.hid (HST3.out.keep hb7)
          have x5 : w7.cell? ⟨gx, 1, none⟩ = some (.int .i64 v) := (HST4.out.box.cell 1).trans rfl
          have HFI := Lib.hid (formatInt_any HST4.out.env v hv)
          clear hb7 x3
          go_wp2_with (go_at_call 70; refine (HFI.out).mono ?_; rintro e w8 ⟨rfl, hb8⟩)
          have HST5 := Lib.hid (HST4.out.keep hb8)
          clear hb8
          have hcat : (⟨#[32]⟩ ++ ⟨(Lib.itoa v).toArray⟩ : ByteArray).data.toList = 32 :: Lib.itoa v := by simp
          have hcl : (⟨#[32]⟩ ++ ⟨(Lib.itoa v).toArray⟩ : ByteArray).size ≤ 30 := by
           have h : (⟨#[32]⟩ ++ ⟨(Lib.itoa v).toArray⟩ : ByteArray).size = (⟨#[32]⟩ ++ ⟨(Lib.itoa v).toArray⟩ : ByteArray).data.toList.length := by rw [Array.length_toList]; rfl
           rw [h, hcat]
           simp only [List.length_cons]
           omega
          have HCAT := Lib.hid hcat
          clear hcat
          have hwr := writeString_any bb _ (⟨#[32]⟩ ++ ⟨(Lib.itoa v).toArray⟩ : ByteArray) w8 HST5.out.bld (by simp only [List.length_append]; omega)
          rw [HCAT.out] at hwr
          have HWR := Lib.hid hwr
          clear hwr
          refine (HWR.out).mono ?_
          rintro e w9 ⟨rfl, hB9, hF9⟩
          have HST6 := Lib.hid (HST5.out.step hF9 hB9)
          clear hB9 hF9 hcl
          go_upto_region 38 with (go_at_call 71; refine (writeByte_any bb _ 10 10 (by rfl) _ (HST6).out.bld (by simp only [List.length_append, List.length_cons, List.length_nil]; omega)).mono ?_; rintro e wA ⟨rfl, hBA, hFA⟩)
          have HSTA := Lib.hid ((HST6).out.step hFA hBA)
          have y0 : wA.cell? ⟨gx, 0, none⟩ = some (.int .i64 c) := (HSTA.out.box.cell 0).trans rfl
          have yl := HSTA.out.box.lt
          have hby := bytes_c c hc41 wA HSTA.out.env.here.shapes
          rw [← HWD.out] at hby
          have HBY := Lib.hid hby
          clear hBA hFA hby
          go_wp2_with (go_at_call 65; refine (HBY.out).mono ?_; rintro e wB ⟨rfl, hbB⟩)
          have HSTB := HSTA.out.keep hbB
          go_roundg (j - (k + 1))
          case measure => have := HG3.out; omega
          case rel => exact ⟨k + 1, by simp, by omega, rfl, by rw [HSZT.out]; simp, by
           have h := HSTB.bld
           rw [linesF_succ, HLN.out, HOPR.out]
           simp only [List.append_assoc, List.nil_append] at h ⊢
           exact h, HSTB.frm⟩
         ·rw [if_neg hw0] at hopr
          have HOPR := Lib.hid hopr
          have f1 : decide ((1 : Int) < 1 + (wd : Int)) = false := decide_eq_false (by omega)
          have f2 : decide (1 < 1 + wd) = false := decide_eq_false (by omega)
          clear hopr
          go_upto_region 37 with (go_at_call 65; refine (HBY3.out).mono ?_; rintro e w7 ⟨rfl, hb7⟩)
          have HST4 := Lib.hid (HST3.out.keep hb7)
          clear hb7 x3
          go_upto_region 38 with (go_at_call 71; refine (writeByte_any bb _ 10 10 (by rfl) _ (HST4).out.bld (by simp only [List.length_append, List.length_cons, List.length_nil]; omega)).mono ?_; rintro e wA ⟨rfl, hBA, hFA⟩)
          have HSTA := Lib.hid ((HST4).out.step hFA hBA)
          have y0 : wA.cell? ⟨gx, 0, none⟩ = some (.int .i64 c) := (HSTA.out.box.cell 0).trans rfl
          have yl := HSTA.out.box.lt
          have hby := bytes_c c hc41 wA HSTA.out.env.here.shapes
          rw [← HWD.out] at hby
          have HBY := Lib.hid hby
          clear hBA hFA hby
          go_wp2_with (go_at_call 65; refine (HBY.out).mono ?_; rintro e wB ⟨rfl, hbB⟩)
          have HSTB := HSTA.out.keep hbB
          go_roundg (j - (k + 1))
          case measure => have := HG3.out; omega
          case rel => exact ⟨k + 1, by simp, by omega, rfl, by rw [HSZT.out]; simp, by
           have h := HSTB.bld
           rw [linesF_succ, HLN.out, HOPR.out]
           simp only [List.append_assoc, List.nil_append] at h ⊢
           exact h, HSTB.frm⟩
        | some t =>
         have hopr := HOP.out
         rw [htt] at hopr
         simp only at hopr
         have HOPR := Lib.hid hopr
         obtain rfl := hn' t htt
         have htk := tgt_ok htt
         rw [← HSZ.out] at htk
         have htk2 : i64ok n' := ⟨by omega, by omega⟩
         have hil := itoa_len n' htk2
         have HIT := Lib.hid (itoa_any HST3.out.env n' htk2)
         simp only [Option.isSome]
         clear htt hn' hopr htk2
         go_wp2_with (go_at_call 69; refine (HIT.out).mono ?_; rintro e w8 ⟨rfl, hb8⟩)
         have HST5 := Lib.hid (HST3.out.keep hb8)
         clear hb8
         have hcat : (⟨#[32, 76]⟩ ++ ⟨(Lib.itoa n').toArray⟩ : ByteArray).data.toList = 32 :: 76 :: Lib.itoa n' := by simp
         have hcl : (⟨#[32, 76]⟩ ++ ⟨(Lib.itoa n').toArray⟩ : ByteArray).size ≤ 30 := by
          have h : (⟨#[32, 76]⟩ ++ ⟨(Lib.itoa n').toArray⟩ : ByteArray).size = (⟨#[32, 76]⟩ ++ ⟨(Lib.itoa n').toArray⟩ : ByteArray).data.toList.length := by rw [Array.length_toList]; rfl
          rw [h, hcat]
          simp only [List.length_cons]
          omega
         have HCAT := Lib.hid hcat
         clear hcat
         have hwr := writeString_any bb _ (⟨#[32, 76]⟩ ++ ⟨(Lib.itoa n').toArray⟩ : ByteArray) w8 HST5.out.bld (by simp only [List.length_append]; omega)
         rw [HCAT.out] at hwr
         have HWR := Lib.hid hwr
         clear hwr
         refine (HWR.out).mono ?_
         rintro e w9 ⟨rfl, hB9, hF9⟩
         have HST6 := Lib.hid (HST5.out.step hF9 hB9)
         clear hB9 hF9 hcl
         go_upto_region 38 with (go_at_call 71; refine (writeByte_any bb _ 10 10 (by rfl) _ (HST6).out.bld (by simp only [List.length_append, List.length_cons, List.length_nil]; omega)).mono ?_; rintro e wA ⟨rfl, hBA, hFA⟩)
         have HSTA := Lib.hid ((HST6).out.step hFA hBA)
         have y0 : wA.cell? ⟨gx, 0, none⟩ = some (.int .i64 c) := (HSTA.out.box.cell 0).trans rfl
         have yl := HSTA.out.box.lt
         have hby := bytes_c c hc41 wA HSTA.out.env.here.shapes
         rw [← HWD.out] at hby
         have HBY := Lib.hid hby
         clear hBA hFA hby
         go_wp2_with (go_at_call 65; refine (HBY.out).mono ?_; rintro e wB ⟨rfl, hbB⟩)
         have HSTB := HSTA.out.keep hbB
         go_roundg (j - (k + 1))
         case measure => have := HG3.out; omega
         case rel => exact ⟨k + 1, by simp, by omega, rfl, by rw [HSZT.out]; simp, by
          have h := HSTB.bld
          rw [linesF_succ, HLN.out, HOPR.out]
          simp only [List.append_assoc, List.nil_append] at h ⊢
          exact h, HSTB.frm⟩
       ·obtain rfl : k = j := by omega
        have e1 : decide ((k : Int) < (k : Int)) = false := decide_eq_false (by omega)
        have htk : L.take k = L := List.take_of_length_le (by rw [← HN.out]; exact Nat.le_refl _)
        have hll := lines_len L k HI64.out (by rw [← HSZ.out]; omega)
        obtain ⟨l1, l2, l3, l4, l5, l6⟩ := HBASE.out.lt
        have h13 : Blk wr (mm + 1) 111 #[.map (some mm)] := (hF.block _ (by omega) (by omega)).trans HBASE.out.e13
        have d13 : wr.cell? ⟨mm + 1, 0, none⟩ = some (.map (some mm)) := (h13.cell 0).trans rfl
        have hm13 : ∃ n, BMap wr mm n (markF L L.length) := by
         obtain ⟨n13, h⟩ := HBASE.out.m13
         exact ⟨n13, h.kept (hF.block _ (by omega) (by omega))⟩
        have hEw : EnvIn B wr := HBASE.out.env.below (hF.below (by omega) (fun q hq => by omega) : Below bb W7 wr) l6
        have hPF : printF L = linesF L k ++ labF L (sizeF L) := by unfold printF; rw [← HN.out]
        have HPF := Lib.hid hPF
        rw [htk]
        have hsl : sizeF L ≤ 512 := by rw [← HSZ.out]; omega
        have HSL := Lib.hid HSZ.out
        have HLAB : Hid (Calls Tryz.prog 68 #[.int .i64 (sizeF L : Nat), .pointer (some ⟨mm + 1, 0, none⟩), .pointer (some ⟨bb, 0, none⟩)] wr (LabPost wr bb (printF L))) := by
         obtain ⟨n13, h⟩ := hm13
         rw [hPF]
         exact Lib.hid (label_any hEw (sizeF L) hsl (mm + 1) mm n13 bb (markF L L.length) (linesF L k) (by omega) d13 h hB)
        have HFW := Lib.hid hF
        clear hm13 hEw hB hF htk h13 hPF
        go_wp2_with (first
         | (go_at_call 68; refine (HLAB.out).mono ?_; rintro e w4 ⟨rfl, hB4, hF4⟩; have HB4' := Lib.hid hB4; have HF4 := Lib.hid hF4; clear hB4 hF4)
         | (go_at_call 35; refine (Tryz.Builder_String_any bb bb (printF L) _ HB4'.out (Nat.le_of_lt HB4'.out.lt)).mono ?_; rintro e w5 ⟨rfl, hb5⟩))
        go_ret2
        have hwb : w.heap.size ≤ bb := by omega
        have h1 : Below w.heap.size w W7 := HB1.out.trans (HB17.out.mono hbs1)
        have h2 : Below w.heap.size W7 wr := HFW.out.below (by omega) (fun q hq => by omega)
        have h3 : Below w.heap.size wr w4 := HF4.out.below (Nat.le_trans (by omega : w.heap.size ≤ W7.heap.size) HFW.out.size) (fun q hq => by rcases hq with rfl | ⟨h, _⟩ <;> omega)
        exact ⟨((h1.trans h2).trans h3).trans (hb5.mono hwb), .inr (.inr ⟨h5, L, HD.out, by rw [HPF.out]; rfl⟩)⟩
end Go.Proofs.YtiheggkkgbfndaaGreatDoor
