/- Two equal lists of numbers held against each other. -/
import Derived.Test.YtffjcojehiblnaaGreatDoorPj
import Derived.Test.YtffjcojehiblnaaGreatDoorPp
import Derived.Test.YtffjcojehiblnaaGreatDoorPz6
import Derived.Test.YtffjcojehiblnaaGreatDoorPi
namespace Go.Proofs.YtffjcojehiblnaaGreatDoor
open Go.RowKit Go.Joins Go.ChangeShapes Go.WideShapes Go.Deep
set_option linter.unusedVariables false
set_option linter.unusedSimpArgs false
set_option maxRecDepth 100000

theorem cells_same (A C : Option Addr) (n ac cc : Nat) (zs : List Value) (w : World) (hi : ∀ (j : Nat) (hj : j < zs.length), ∃ x : Int, zs[j] = .int .i64 x) (hn : n ≤ 925904528640) (hA : Reads w w.heap.size 1 A n zs) (hC : Reads w w.heap.size 1 C n zs) :
    Calls Tryz.prog 11 #[.slice A n ac, .slice C n cc] w fun r w' => r = .returned (.bool true) ∧ Below w.heap.size w w' := by
  have hl : zs.length = n := by have := hA.1; omega
  have HA := Lib.hid hA
  have HC := Lib.hid hC
  have HI := Lib.hid hi
  have HL := Lib.hid hl
  clear hA hC hi hl
  go_enter Tryz.func11, Tryz.ntmps11
  go_wp2_with fail
  go_loopg [5] n (fun gk i wr => ∃ k : Nat, i = .int .i64 k ∧ k ≤ n ∧ gk = n - k ∧ Below w.heap.size w wr)
  case atStart => exact ⟨0, rfl, Nat.zero_le _, rfl, Below.refl _ _⟩
  case round =>
    obtain ⟨k, rfl, hk, hgk, hbel⟩ := hrel
    have HB := Lib.hid hbel
    clear hbel
    have HG := Lib.hid hgk
    clear hgk
    by_cases hkn : k < n
    · have hkl : k < zs.length := by rw [HL.out]; exact hkn
      obtain ⟨ab, ao, rfl, hab, hca⟩ := reads_flat HA.out (by omega) (by decide)
      obtain ⟨cb, co, rfl, hcb, hcc⟩ := reads_flat HC.out (by omega) (by decide)
      obtain ⟨x, hx⟩ := HI.out k hkl
      have ca : wr.cell? ⟨ab, ao + k, none⟩ = some (.int .i64 x) := (HB.out.cell (p := ⟨ab, ao + k, none⟩) hab).trans (hca k _ (by rw [List.getElem?_eq_getElem hkl, hx]))
      have cc2 : wr.cell? ⟨cb, co + k, none⟩ = some (.int .i64 x) := (HB.out.cell (p := ⟨cb, co + k, none⟩) hcb).trans (hcc k _ (by rw [List.getElem?_eq_getElem hkl, hx]))
      have e1 : decide ((k : Int) < (n : Int)) = true := by simp; omega
      have e2 : (k : Int) < (n : Int) := by omega
      have e3 : (x != x) = false := by simp
      have hk8 : (k : Int) + 1 ≤ 9223372036854775807 := by omega
      clear hca hcc hx hkl
      go_wp2_with fail
      go_quiet (fail)
      go_wp2_with fail
      go_roundg (n - (k + 1))
      case measure => have := HG.out; omega
      case rel => exact ⟨k + 1, by go_num, by omega, rfl, below_drewN HB.out _⟩
    · have hkk : n = k := by omega
      subst hkk
      have e1 : decide ((n : Int) < (n : Int)) = false := by simp
      go_wp2_with fail
      go_ret
      exact ⟨rfl, HB.out⟩
end Go.Proofs.YtffjcojehiblnaaGreatDoor

/- The law of HistoryEnds, behind shown. -/
namespace Go.Proofs.YtffjcojehiblnaaGreatDoor
open Go.RowKit Go.Joins Go.ChangeShapes Go.WideShapes Go.Deep
set_option linter.unusedVariables false
set_option linter.unusedSimpArgs false
set_option maxRecDepth 100000

/-- A list of numbers handed back, and an error. -/
def EndPost (w : World) (M : Nat) (zs : List Value) (e0 : Int) : Ending → World → Prop := fun r w' => ∃ v, r = .returned (.tuple #[v, .int .i64 e0]) ∧ w'.ownsRow w.heap.size 2 1 v M zs ∧ Below w.heap.size w w'
theorem EndPost.nil {w : World} {e0 : Int} {r : Ending} {w' : World} (h : r = .returned (.tuple #[.slice none 0 0, .int .i64 e0]) ∧ Below w.heap.size w w') : EndPost w 0 [] e0 r w' := ⟨_, h.1, World.ownsRow_nil _ _ _ _, h.2⟩
theorem row_own {w : World} {B g N : Nat} {ts : List TxP} (h : RowZ w g N fun c => valF ts c) (hB : B ≤ g) (hN : N ≤ 1024) : w.ownsRow B 2 1 (.slice (some ⟨g, 0, none⟩) N N) N (intV (finL ts N)) := by
  obtain ⟨cs, hb, hs, hc⟩ := h
  refine ⟨by simp [intV, finL], .inr ⟨g, N, cs, rfl, hB, hb, Nat.le_refl _, by unfold maxLen; omega, by omega, ?_⟩⟩
  apply List.ext_getElem?
  intro i
  rw [Nat.mul_one, List.getElem?_take]
  by_cases hi : i < N
  · rw [if_pos hi, Array.getElem?_toList, hc i hi]
    simp [intV, finL, hi]
  · rw [if_neg hi, List.getElem?_eq_none (by simp [intV, finL]; omega)]
theorem FinPost.end_ {w w' : World} {ts : List TxP} {N : Nat} {r : Ending} (h : FinPost w ts N r w') (hN : N ≤ 1024) : EndPost w N (intV (finL ts N)) 0 r w' := by
  obtain ⟨g, hr, hz, hg, hb⟩ := h
  exact ⟨_, hr, row_own hz hg hN, hb⟩
theorem finL_congr {ts ts' : List TxP} {N : Nat} (h : ∀ c : Int, valF ts c = valF ts' c) : finL ts N = finL ts' N := by
  unfold finL
  exact List.map_congr_left fun c _ => h c
theorem own_beb {w w' : World} {B e size n : Nat} {v : Value} {xs : List Value} (h : w.ownsRow B e size v n xs) (hb : Below w.heap.size w w') : w'.ownsRow B e size v n xs := own_keep h fun q hq => hb.block q (h.lt q hq).2
/-- A store into a row that is owned. -/
theorem own_write {w : World} {B g M cap : Nat} {xs : List Value} (h : w.ownsRow B 2 1 (.slice (some ⟨g, 0, none⟩) M cap) M xs) (i : Nat) (u : Value) : ∃ ys, (w.setCell ⟨g, i, none⟩ u).ownsRow B 2 1 (.slice (some ⟨g, 0, none⟩) M cap) M ys := by
  rcases h.2 with ⟨h1, _⟩ | ⟨g', cap', cur, hv, hg, hh, hc, hm, hs, ht⟩
  · injection h1 with h1
    cases h1
  · injection hv with h1 h2 h3
    injection h1 with h1
    injection h1 with h1
    subst h1
    subst h3
    have hB : Blk w g 2 cur := hh
    refine ⟨(cur.setIfInBounds i u).toList.take (M * 1), ?_, .inr ⟨g, cap, _, rfl, hg, hB.set_ i u, hc, hm, by simpa using hs, rfl⟩⟩
    rw [List.length_take, Array.length_toList, Array.size_setIfInBounds, hs]
    omega

set_option maxHeartbeats 2000000 in
theorem ends_walk (A : Option Addr) (n nc M : Nat) (N e0 : Int) (zs : List Value) (w : World) (hM : M ≤ 1024) (hz : ∀ (j : Nat) (hj : j < zs.length), ∃ x : Int, zs[j] = .int .i64 x) (HSH : Hid (Calls Tryz.prog 5 #[] w (SaysTrue w)))
    (HA : Hid (∀ W, Below w.heap.size w W → Calls Tryz.prog 9 #[.slice A n nc, .int .i64 N] W (EndPost W M zs e0)))
    (HB : Hid (∀ W, Below w.heap.size w W → Calls Tryz.prog 10 #[.slice A n nc, .int .i64 N] W (EndPost W M zs e0))) :
    Calls Tryz.prog 4 #[.slice A n nc, .int .i64 N] w (SaysTrue w) := by
  obtain ⟨i1, hj0, hj1, hj2, hj3⟩ := info_parts info_i64e
  have HZ := Lib.hid hz
  have e1 : (e0 == e0) = true := by simp
  have e2 : ((M : Int) + 1 == (M : Int) + 1) = true := by simp
  clear hz
  go_enter Tryz.func4, Tryz.ntmps4
  go_upto_region 2 with (go_at_call 5; refine HSH.out.mono ?_; rintro r w1 ⟨hr, hb1⟩; subst hr)
  go_upto_region 3 with (go_at_call 9; refine (HA.out _ hb1).mono ?_; rintro r w2 ⟨av, hr, hown2, hb2⟩; subst hr)
  have hb12 := hb1.trans (hb2.mono hb1.size)
  go_upto_region 4 with (go_at_call 10; refine (HB.out _ hb12).mono ?_; rintro r w3 ⟨bv, hr, hown3, hb3⟩; subst hr)
  have hown23 := own_beb hown2 hb3
  obtain ⟨Ra, ca, hav, _, hRa⟩ := own_shapes hown23
  obtain ⟨Rb, cb, hbv, hMb, hRb⟩ := own_shapes hown3
  subst hav
  subst hbv
  have HC := Lib.hid (cells_same Ra Rb M ca cb zs w3 HZ.out (by omega) hRa hRb)
  have hb13 := hb12.trans (hb3.mono hb12.size)
  have HO2 := Lib.hid hown23
  have HO3 := Lib.hid hown3
  have hw12 : w.heap.size ≤ w1.heap.size := hb1.size
  have hw2 : w1.heap.size ≤ w2.heap.size := hb2.size
  have HB1 := Lib.hid hb1
  have HB13 := Lib.hid (hb2.trans (hb3.mono hb2.size))
  have hoa : ∀ q, (Value.slice Ra M ca).ownBlock = some q → w1.heap.size ≤ q ∧ q < w2.heap.size := fun q hq => hown2.lt q hq
  have HOA := Lib.hid hoa
  clear hown2 hown23 hown3 hRa hRb hb1 hb2 hb3 hb12 hb13 hoa hMb
  go_upto_region 5 with (go_at_call 11; refine HC.out.mono ?_; rintro r w4 ⟨hr, hb4⟩; subst hr)
  have hown4 := own_beb HO2.out hb4
  have hown5 := own_beb HO3.out hb4
  have hb14 : Below w1.heap.size w1 w4 := HB13.out.trans (hb4.mono HB13.out.size)
  have H4 := Lib.hid hown4
  have H5 := Lib.hid hown5
  have HB14 := Lib.hid hb14
  clear hown4 hown5 hb14 hb4 HO2 HO3 HB13 HC
  go_wp2_with fail
  go_loopg [11] M (fun gk iv wr => ∃ i : Nat, iv = .int .i64 i ∧ i ≤ M ∧ gk = M - i ∧ (∃ xs, wr.ownsRow w1.heap.size 2 1 (.slice Ra M ca) M xs) ∧ wr.ownsRow w2.heap.size 2 1 (.slice Rb M cb) M zs ∧ Below w1.heap.size w1 wr)
  case atStart => exact ⟨0, rfl, Nat.zero_le _, rfl, ⟨_, H4.out⟩, H5.out, HB14.out⟩
  case round =>
    clear H4 H5 HB14
    obtain ⟨i, rfl, hiM, hgk, ⟨xs, hoa⟩, hob, hbel⟩ := hrel
    have HG := Lib.hid hgk
    have HOa := Lib.hid hoa
    have HOb := Lib.hid hob
    have HBE := Lib.hid hbel
    have hws := hbel.size
    clear hgk hoa hob hbel
    by_cases hi : i < M
    · have d1 : decide ((i : Int) < (M : Int)) = true := decide_eq_true (by omega)
      have d2 : (i : Int) < (M : Int) := by omega
      obtain ⟨g, cap, hv, hg1, hgl⟩ := HOa.out.form (by omega)
      injection hv with hv1 hv2 hv3
      subst hv1
      subst hv3
      obtain ⟨cs, hcs⟩ := own_blk HOa.out (b := g) rfl
      obtain ⟨z0, hca⟩ : ∃ z, wr.cell? ⟨g, i, none⟩ = some z := ⟨_, (HOa.out.cellAt i (by omega)).trans (List.getElem?_eq_getElem (by have := HOa.out.1; omega))⟩
      have hcf := hcs.frozen i
      obtain ⟨ys, hys⟩ := own_write HOa.out i (.int .i64 (-9))
      have hgw := HOA.out g rfl
      have hob' : (wr.setCell ⟨g, i, none⟩ (.int .i64 (-9))).ownsRow w2.heap.size 2 1 (.slice Rb M cb) M zs := own_keep HOb.out fun q hq => Below.heap_setCell wr ⟨g, i, none⟩ _ q (by have := (HOb.out.lt q hq).1; show q ≠ g; omega)
      have HYS := Lib.hid hys
      have HOB' := Lib.hid hob'
      have hi8 : (i : Int) + 1 ≤ 9223372036854775807 := by omega
      clear hcs hys hob' hg1 hv2
      go_wp2_with fail
      go_roundg (M - (i + 1))
      case measure => have := HG.out; omega
      case rel => exact ⟨i + 1, by go_num, by omega, rfl, ⟨ys, HYS.out⟩, HOB'.out, Below.setCell HBE.out hgw.1 _⟩
    · obtain rfl : i = M := by omega
      have d1 : decide ((i : Int) < (i : Int)) = false := by simp
      go_upto_region 10 with (at_builtin; go_must (refine wpList_append_lies _ rfl (.tmp 40) (.tmp 41) 32 rfl w1.heap.size 2 i1 _ 1 8 Tryz.underlying32 hj0 hj1 hj2 hj3 rfl (by decide) _ i _ rfl (HOa.out.alloc _) ⟨wr.heap.size, 0, none⟩ 1 1 [.int .i64 1] rfl rfl (news_i64 wr 1) (by simp [Value.oneCell']) (by omega) (by unfold maxLen; omega) (by omega) (by simp; omega) (wr.heap.size + 1) (by simp) ?_; intro gg cap w5 hown6 hgrow hat hlt2))
      have hb15 : Below w1.heap.size w1 w5 := (Below.alloc HBE.out hws _).trans (below_grown (HOa.out.alloc _) hgrow (by simp; omega))
      have hob5 : w5.ownsRow w2.heap.size 2 1 (.slice Rb i cb) i zs := by
        have hF : Frm (wr.alloc (.cells #[.int .i64 1] 2)) w5 (fun q => (Value.slice Ra i ca).ownBlock = some q) := (Frm.refl _ _).grown hgrow (fun q h => .inl h)
        have h0 := HOb.out.alloc (.cells #[.int .i64 1] 2)
        refine own_keep h0 fun q hq => hF.block q (h0.lt q hq).2 fun hh => ?_
        have h1 := HOA.out q hh
        have h2 := (h0.lt q hq).1
        omega
      have HB15 := Lib.hid (HB1.out.trans (hb15.mono hw12))
      have HOB5 := Lib.hid hob5
      clear hown6 hgrow hat hlt2 hb15 hob5 HOa HOb HBE
      go_upto_region 11 with (go_at_call 9; refine (HA.out _ HB15.out).mono ?_; rintro r w6 ⟨cv, hr, hown7, hb6⟩; subst hr)
      have hob6 := own_beb HOB5.out hb6
      obtain ⟨Rc, cc, hcv, _, hRc⟩ := own_shapes hown7
      subst hcv
      obtain ⟨Rb', cb', hbv', _, hRb'⟩ := own_shapes hob6
      injection hbv' with h1 h2 h3
      subst h1
      have HC2 := Lib.hid (cells_same Rc Rb i cc cb zs w6 HZ.out (by omega) hRc hRb')
      have HB16 := Lib.hid (HB15.out.trans (hb6.mono HB15.out.size))
      clear hown7 hob6 hRc hRb' hb6 h2 h3
      go_upto_region 12 with (go_at_call 11; refine HC2.out.mono ?_; rintro r w7 ⟨hr, hb7⟩; subst hr)
      go_wp2_with fail
      go_ret
      exact ⟨rfl, HB16.out.trans (hb7.mono HB16.out.size)⟩
theorem intV_ints (l : List Int) (j : Nat) (hj : j < (intV l).length) : ∃ x : Int, (intV l)[j] = .int .i64 x := by
  rw [intV_length] at hj
  exact ⟨l[j], by simp [intV]⟩
theorem law_ends (A : Option Addr) (n nc : Nat) (N : Int) (l : List Ev) (p : Addr) (w : World) (hl : l.length = n) (hn : n * 152 ≤ 140737488351232) (hR : Reads w w.heap.size 19 A n (evs l)) (hE : LaidAt w p) (hsh : ∀ W, LaidAt W p → Calls Tryz.prog 5 #[] W (SaysTrue W)) :
    Calls Tryz.prog 4 #[.slice A n nc, .int .i64 N] w (SaysTrue w) := by
  have HSH := Lib.hid (hsh w hE)
  have h2 := hE.lt
  have HRD : ∀ W, Below w.heap.size w W → Reads W W.heap.size 19 A n (evs l) := fun W hW => (hR.below hW).more hW.size
  have HLD : ∀ W, Below w.heap.size w W → LaidAt W p := fun W hW => hE.below hW (by omega)
  rcases may_split l with hm | ⟨q, hq, hm, hb⟩
  · obtain ⟨b, hrd, I, hln, hz⟩ := read_good l hm
    have hbl : b.l.length ≤ n := by have := (read_small0 hrd).1.l; omega
    have HTX : ∀ W, Below w.heap.size w W → Hid (Calls Tryz.prog 19 #[.slice A n nc] W fun r w' => ∃ ov, r = .returned (.tuple #[ov, .int .i64 0, .int .i64 0]) ∧ w'.ownsRow W.heap.size 50 6 ov b.l.length (txzs (b.l.map TxP.z)) ∧ Below W.heap.size W w') := fun W hW => Lib.hid (rtxs_good A n nc l b W hl hn (HRD W hW) hm hrd I hln hz)
    by_cases hN : 0 ≤ N ∧ N ≤ 1024
    · obtain ⟨M, rfl⟩ : ∃ M : Nat, N = M := ⟨N.toNat, by omega⟩
      refine ends_walk A n nc M M 0 (intV (finL ((ordL b.l b.l.length).map fun i => b.l.getD i t00) M)) w (by omega) (intV_ints _) HSH (Lib.hid fun W hW => ?_) (Lib.hid fun W hW => ?_)
      · refine (final_good A n nc M l p b W hl hn (HRD W hW) (HLD W hW) hrd (s_read0 hrd) (by omega)).mono ?_
        rintro r w' ⟨ts, hp, hs, hf⟩
        have := hf.end_ (by omega)
        rwa [finL_congr (fun c => (val_same (st_read0 hrd) (s_read0 hrd) hp hs c).symm)] at this
      · exact rfinal_good A n nc M l b W hl hn (HRD W hW) hbl (st_read0 hrd) (s_read0 hrd) (by omega) (HTX W hW)
    · refine ends_walk A n nc 0 N 1 [] w (by omega) (fun j hj => absurd hj (by simp)) HSH (Lib.hid fun W hW => ?_) (Lib.hid fun W hW => ?_)
      · exact (final_arg A n nc N l p b W hl hn (HRD W hW) (HLD W hW) hrd (by omega)).mono fun r w' h => EndPost.nil h
      · exact (rfinal_arg A n nc N b W (by omega) (HTX W hW)).mono fun r w' h => EndPost.nil h
  · have hrd := read_bad l q hq hm hb
    refine ends_walk A n nc 0 N 14 [] w (by omega) (fun j hj => absurd hj (by simp)) HSH (Lib.hid fun W hW => ?_) (Lib.hid fun W hW => ?_)
    · exact (final_bad A n nc N l p q W hl hn (HRD W hW) (HLD W hW) hrd).mono fun r w' h => EndPost.nil h
    · exact (rfinal_bad A n nc N q W (Lib.hid (rtxs_bad A n nc l q W hl hn (HRD W hW) (by omega) hm (fun e he => by rw [List.getElem?_eq_getElem hq] at he; injection he with he; subst he; exact hb)))).mono fun r w' h => EndPost.nil h
end Go.Proofs.YtffjcojehiblnaaGreatDoor
