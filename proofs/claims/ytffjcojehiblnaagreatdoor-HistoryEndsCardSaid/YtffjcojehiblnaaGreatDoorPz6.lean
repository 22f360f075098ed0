/- history.Final of every history. -/
import Derived.Test.YtffjcojehiblnaaGreatDoorPz3
import Derived.Test.YtffjcojehiblnaaGreatDoorPz0
import Derived.Laws.MakeOwn
import Derived.Laws.OwnMore
import Derived.BigGuardPart
namespace Go.Proofs.YtffjcojehiblnaaGreatDoor
open Go.RowKit Go.Joins Go.ChangeShapes Go.WideShapes Go.Deep
set_option linter.unusedVariables false
set_option linter.unusedSimpArgs false
set_option maxRecDepth 100000

/-- The first n cells of a block of numbers. -/
def RowZ (w : World) (g n : Nat) (f : Nat → Int) : Prop := ∃ cs, Blk w g 2 cs ∧ cs.size = n ∧ ∀ i, i < n → cs[i]? = some (.int .i64 (f i))
theorem RowZ.set {w : World} {g n : Nat} {f : Nat → Int} (h : RowZ w g n f) {i : Nat} (hi : i < n) (x : Int) {f' : Nat → Int} (hf : ∀ j, j < n → f' j = if j = i then x else f j) : RowZ (w.setCell ⟨g, i, none⟩ (.int .i64 x)) g n f' := by
  obtain ⟨cs, hb, hs, hc⟩ := h
  refine ⟨_, hb.set_ _ _, by simpa using hs, fun j hj => ?_⟩
  rw [Array.getElem?_setIfInBounds, hf j hj]
  by_cases h1 : i = j
  · subst h1
    rw [if_pos rfl, if_pos (by omega), if_pos rfl]
  · rw [if_neg h1, if_neg (fun e => h1 e.symm), hc j hj]
theorem RowZ.congr {w : World} {g n : Nat} {f f' : Nat → Int} (h : RowZ w g n f) (hf : ∀ j, j < n → f' j = f j) : RowZ w g n f' := by
  obtain ⟨cs, hb, hs, hc⟩ := h
  exact ⟨cs, hb, hs, fun j hj => by rw [hf j hj]; exact hc j hj⟩
theorem RowZ.below {w w' : World} {g n B : Nat} {f : Nat → Int} (h : RowZ w g n f) (hb : Below B w w') (hg : g < B) : RowZ w' g n f := by
  obtain ⟨cs, hk, r⟩ := h
  exact ⟨cs, hk.below hb hg, r⟩
theorem RowZ.alloc {w : World} {g n : Nat} {f : Nat → Int} (h : RowZ w g n f) (o : Obj) : RowZ (w.alloc o) g n f := by
  obtain ⟨cs, hk, r⟩ := h
  exact ⟨cs, hk.alloc o, r⟩
theorem made_zeros (n x : Nat) (h : x < n) : (madeCells #[.int .i64 0] n)[x]? = some (.int .i64 0) := by
  rw [← Array.getElem?_toList, toList_madeCells_one, List.getElem?_replicate, if_pos h]
theorem made_zsize (n : Nat) : (madeCells #[.int .i64 0] n).size = n := by rw [← Array.length_toList, toList_madeCells_one, List.length_replicate]
theorem reads_rowZ {w : World} {g n : Nat} {ts : List TxP} (h : RowZ w g n fun c => valF ts c) : Reads w w.heap.size 1 (some ⟨g, 0, none⟩) n (intV (finL ts n)) := by
  obtain ⟨cs, hb, hs, hc⟩ := h
  refine ⟨by simp [intV, finL], fun hn => ⟨_, rfl, hb.lt, fun j u hu => ?_⟩⟩
  have hj : j < n := by
    have := (List.getElem?_eq_some_iff.1 hu).1
    simpa [intV, finL] using this
  rw [Addr.add_mid, Nat.zero_add, (hb.cell j), hc j hj, ← hu]
  simp [intV, finL, hj]
def FinPost (w : World) (ts : List TxP) (N : Nat) : Ending → World → Prop := fun r w' => ∃ g, r = .returned (.tuple #[.slice (some ⟨g, 0, none⟩) N N, .int .i64 0]) ∧ RowZ w' g N (fun c => valF ts c) ∧ w.heap.size ≤ g ∧ Below w.heap.size w w'
theorem tx_other {w w2 : World} {base b0 n : Nat} {lv : Value} {xs : List Value} {x : TxM} (hrow : w.ownsRow base 58 1 lv n xs) (hx : TxAt w b0 x) (hg : w.grownBy w2 lv.ownBlock) : TxAt w2 b0 x := by
  have hF : Frm w w2 (fun q => lv.ownBlock = some q) := (Frm.refl w _).grown hg (fun q h => .inl h)
  refine hx.frm hF fun q hq h => ?_
  rcases hq with hq | hq
  · subst hq
    exact own_ne_blk hrow hx.blk (by decide) h
  · obtain ⟨cs, hcs⟩ := own_blk hx.steps hq
    exact own_ne_blk hrow hcs (by decide) h
set_option maxHeartbeats 4000000 in
theorem final_good (A : Option Addr) (n nc N : Nat) (l : List Ev) (p : Addr) (b : Book) (w : World) (hl : l.length = n) (hn : n * 152 ≤ 140737488351232) (hR : Reads w w.heap.size 19 A n (evs l)) (hE : LaidAt w p) (hrd : readF book0 0 l = .ok b) (hS : SInv l b) (hN : N ≤ 1024) :
    Calls Tryz.prog 9 #[.slice A n nc, .int .i64 N] w fun r w' => ∃ ts : List TxP, ts.Perm b.l ∧ ts.Pairwise (fun x y => x.stamp ≤ y.stamp) ∧ FinPost w ts N r w' := by
  have HRD := Lib.hid ((read_any A n nc l p w hl hn hR hE.ev (by have := hE.lt; omega)))
  have hbl : b.l.length ≤ n := by have := (read_small0 hrd).1.l; omega
  obtain ⟨hsm, hstl⟩ := read_small0 hrd
  obtain ⟨i1, hj0, hj1, hj2, hj3⟩ := info_parts info_i64e
  obtain ⟨m, hm⟩ : ∃ m, m = b.l.length := ⟨_, rfl⟩
  have hm8 : m ≤ 925904528640 := by omega
  have HM := Lib.hid hm
  have HSI := Lib.hid hS
  have HSM := Lib.hid hsm
  have hn8 : n ≤ 925904528640 := by omega
  have HLN := Lib.hid hl
  have HMK : Hid (∀ W : World, (Instr.makeSlice 32 (.int .i64 (N : Int)) (.int .i64 (N : Int))).run Tryz.prog W = .ok (.slice (some ⟨W.heap.size, 0, none⟩) N N) (W.alloc (.cells (madeCells #[.int .i64 0] N) 2))) := Lib.hid fun W => by
    have := run_make (P := Tryz.prog) W 32 2 i1 _ Tryz.underlying32 hj0 hj1 .i64 .i64 N N (by omega) (Int.le_refl _) (by rw [hj3]; omega) (by omega)
    rw [hj2, Int.toNat_natCast, Nat.mul_one] at this
    exact this
  have g1 : decide ((N : Int) < 0) = false := decide_eq_false (by omega)
  have g2 : decide ((1024 : Int) < (N : Int)) = false := decide_eq_false (by omega)
  have g3 : decide (1024 < N) = false := decide_eq_false (by omega)
  clear hl hn hR hE hbl hm hS hsm hstl hj0 hj1 hj2 hj3
  clear i1
  go_enter Tryz.func9, Tryz.ntmps9
  go_upto_region 6 with (go_at_call 15; refine HRD.out.mono ?_; rintro r w1 hq; unfold ReadPost at hq; rw [hrd] at hq; obtain ⟨lv, s, ll, hq, hBk, hb1⟩ := hq; subst hq; (have hll : ll.length = m := by rw [HM.out]; exact hBk.len.symm); obtain ⟨R, cc, hlv, hmc, hRd⟩ := own_shapes hBk.row; rw [hll] at hlv hmc hRd; subst hlv)
  have hrow := hBk.row
  rw [hll] at hrow
  have HSO := Lib.hid (sort_txs w.heap.size m w.heap.size (.slice R m cc) ll w1 hll hm8 hrow hBk.txs)
  have HROW := Lib.hid hrow
  have HTX := Lib.hid hBk.txs
  have HEQ := Lib.hid hBk.eq
  have HB1 := Lib.hid hb1
  have hw1 := hb1.size
  clear hBk hb1 hRd hmc hrow HRD hrd hll
  go_upto_region 7 with (go_at_call 21; refine HSO.out.mono ?_; rintro r w2 ⟨hr, l2, hp2, hpw2, hown2, hgr2⟩; subst hr)
  go_upto_region 8 with (refine wpList_make_wide rfl 32 (.tmp 28) (.tmp 28) rfl rfl rfl (HMK.out _) ?_)
  have hT2 : ∀ x ∈ l2, TxAt w2 w.heap.size x := fun x hx => tx_other HROW.out (HTX.out x (hp2.subset hx)) hgr2
  have hb2 : Below w.heap.size w w2 := HB1.out.trans (below_grown HROW.out hgr2 hw1)
  obtain ⟨R', c', hv', _, hR2⟩ := own_shapes hown2
  injection hv' with hv1 hv2 hv3
  subst hv1
  have hO3 : RowZ (w2.alloc (.cells (madeCells #[.int .i64 0] N) 2)) w2.heap.size N (fun c => valF ((l2.take 0).map TxM.t) c) := ⟨_, Blk.new w2 _ _, made_zsize N, fun i hi => made_zeros N i hi⟩
  have hb3 : Below w2.heap.size w2 (w2.alloc (.cells (madeCells #[.int .i64 0] N) 2)) := Below.alloc (Below.refl _ _) (Nat.le_refl _) _
  have hl2 : l2.length = m := by rw [hp2.length_eq, ← List.length_map (f := TxM.t), HEQ.out, HM.out]
  have HT2 := Lib.hid hT2
  have HB2 := Lib.hid hb2
  have HR2 := Lib.hid hR2
  have HO3 := Lib.hid hO3
  have HB3 := Lib.hid hb3
  have HL2 := Lib.hid hl2
  have HP2 := Lib.hid hp2
  have HPW := Lib.hid hpw2
  have hw2 := hb2.size
  have HCELLS : Hid (∀ x ∈ l2, x.t.steps.length ≤ n ∧ ∀ e ∈ x.t.steps, 0 ≤ e.cell) := Lib.hid fun x hx => by
    have hm : x.t ∈ b.l := by rw [← HEQ.out]; exact List.mem_map_of_mem (hp2.subset hx)
    exact ⟨by have := HSM.out.steps _ hm; have := HLN.out; omega, fun e he => (HSI.out.cells _ hm e he).1⟩
  clear hT2 hb2 hR2 hO3 hb3 hl2 hp2 hpw2 hown2 hgr2 hv2 hv3 HSO HROW HTX HB1 HMK HSM
  obtain ⟨O, hO⟩ : ∃ O, O = w2.heap.size := ⟨_, rfl⟩
  rw [← hO] at HO3 HB3 HR2 hw2 ⊢
  have HOO := Lib.hid hO
  clear hO
  generalize w2.alloc (.cells (madeCells #[.int .i64 0] N) 2) = W3 at *
  go_wp2_with fail
  go_loopg [32] m (fun gk iv wr => ∃ k : Nat, iv = .int .i64 k ∧ k ≤ m ∧ gk = m - k ∧ RowZ wr O N (fun c => valF ((l2.take k).map TxM.t) c) ∧ Below O w2 wr)
  case atStart => exact ⟨0, rfl, Nat.zero_le _, rfl, HO3.out, HB3.out⟩
  case round =>
    clear HO3 HB3
    obtain ⟨wo, rfl⟩ : ∃ wo, wo = wr := ⟨_, rfl⟩
    obtain ⟨k, rfl, hkm, hgk, hrz, hbel⟩ := hrel
    have HG := Lib.hid hgk
    have HRZ := Lib.hid hrz
    have HBE := Lib.hid hbel
    clear hgk hrz hbel
    by_cases hk : k < m
    · have hkl : k < l2.length := by rw [HL2.out]; exact hk
      obtain ⟨x, hx⟩ : ∃ x, x = l2[k] := ⟨_, rfl⟩
      have hxm : x ∈ l2 := hx ▸ List.getElem_mem hkl
      obtain ⟨rb, ro, rfl, hrb, hrc⟩ := reads_flat HR2.out (by omega) (by decide)
      have c1 : wo.cell? ⟨rb, ro + k, none⟩ = some (.pointer (some ⟨x.g, 0, none⟩)) := (HBE.out.cell (p := ⟨rb, ro + k, none⟩) hrb).trans (hrc k _ (by unfold ptrs; rw [List.getElem?_map, List.getElem?_eq_getElem hkl, hx]; rfl))
      have hXW : ∀ W, Below O w2 W → TxAt W w.heap.size x := fun W hW => (HT2.out x hxm).frm (Frm.of_below (S := fun _ => False) (HOO.out ▸ hW)) (fun _ _ h => h)
      have HXW := Lib.hid hXW
      have hX := hXW wo HBE.out
      obtain ⟨S, sc, hsv, _, hSR⟩ := own_shapes hX.steps
      obtain ⟨q, hq⟩ : ∃ q, q = x.t.steps.length := ⟨_, rfl⟩
      have hqn : q ≤ n := by rw [hq]; exact (HCELLS.out x hxm).1
      have c8 : wo.cell? ⟨x.g, 8, none⟩ = some (.slice S q sc) := (hX.blk.cell 8).trans (by rw [hq, ← hsv]; rfl)
      obtain ⟨st, hst⟩ : ∃ st, st = x.t.stamp := ⟨_, rfl⟩
      have c3 : ∀ W, Below O w2 W → W.cell? ⟨x.g, 3, none⟩ = some (.int .i64 st) := fun W hW => ((hXW W hW).blk.cell 3).trans (by rw [hst]; rfl)
      have hxg : x.g < O := by rw [HOO.out]; exact (HT2.out x hxm).blk.lt
      have HSV := Lib.hid hsv
      have HQ := Lib.hid hq
      have HST := Lib.hid hst
      have HC3 := Lib.hid c3
      have HXM := Lib.hid hxm
      have HX := Lib.hid hx
      have e1 : decide ((k : Int) < (m : Int)) = true := decide_eq_true (by omega)
      have hk8 : (k : Int) + 1 ≤ 9223372036854775807 := by omega
      clear hrc hXW hX hSR c3 hsv hq hst hx hxm
      go_wp2_with fail
      go_loopg [41] q (fun gk iv wy => ∃ j : Nat, iv = .int .i64 j ∧ j ≤ q ∧ gk = q - j ∧ RowZ wy O N (fun c => stepV x.t c (valF ((l2.take k).map TxM.t) c) (x.t.steps.take j)) ∧ Below O w2 wy)
      case atStart => exact ⟨0, rfl, Nat.zero_le _, rfl, HRZ.out.congr (fun j _ => by rw [List.take_zero, stepV_nil]), HBE.out⟩
      case round =>
        clear c1 c8 HRZ HBE
        obtain ⟨j, rfl, hjq, hgj, hrz, hbel⟩ := hrel
        have HGJ := Lib.hid hgj
        have HRZ := Lib.hid hrz
        have HBE := Lib.hid hbel
        have hwO := hbel.size
        clear hgj hrz hbel
        by_cases hj : j < q
        · have hjl : j < x.t.steps.length := by rw [← HQ.out]; exact hj
          have hX := HXW.out wr HBE.out
          have hown := hX.steps
          rw [HSV.out, ← HQ.out] at hown
          obtain ⟨S', sc', hs1, _, hSR⟩ := own_shapes hown
          injection hs1 with hs1 hs2 hs3
          subst hs1
          obtain ⟨sx, so, rfl, hsx, hsc⟩ := reads_flat hSR (by omega) (by decide)
          obtain ⟨e, he⟩ : ∃ e, e = x.t.steps[j] := ⟨_, rfl⟩
          have hrg : wr.rangeAt sx (so + j * 19) (evcs e).toList := by rw [he]; exact evs_range hsc hjl
          have HRG := Lib.hid hrg
          have hOw : O ≤ wr.heap.size := by have := HOO.out; omega
          have c3 : (wr.alloc (.cells (evcs e) 43)).cell? ⟨x.g, 3, none⟩ = some (.int .i64 st) := HC3.out _ (Below.alloc HBE.out hOw _)
          have hrzW := HRZ.out.alloc (.cells (evcs e) 43)
          have hbW : Below O w2 (wr.alloc (.cells (evcs e) 43)) := Below.alloc HBE.out hOw _
          have hc0 : 0 ≤ e.cell := (HCELLS.out x HXM.out).2 e (he ▸ List.getElem_mem hjl)
          obtain ⟨cN, hcN⟩ : ∃ cN : Nat, e.cell = cN := ⟨e.cell.toNat, by omega⟩
          have u3 : (wr.alloc (.cells (evcs e) 43)).cell? ⟨wr.heap.size, 3, none⟩ = some (.int .i64 e.kind) := ev_at (ev_range wr e) 3 _ rfl
          have u4 : (wr.alloc (.cells (evcs e) 43)).cell? ⟨wr.heap.size, 4, none⟩ = some (.int .i64 cN) := by rw [← hcN]; exact ev_at (ev_range wr e) 4 _ rfl
          have u5 : (wr.alloc (.cells (evcs e) 43)).cell? ⟨wr.heap.size, 5, none⟩ = some (.int .i64 e.value) := ev_at (ev_range wr e) 5 _ rfl
          have hnx : ∀ (c : Nat) (V : Int), stepV x.t c V (x.t.steps.take (j + 1)) = if st ≠ 0 ∧ e.kind = 3 ∧ cN = c then e.value else stepV x.t c V (x.t.steps.take j) := fun c V => by
            rw [List.take_succ_eq_append_getElem hjl, stepV_snoc, ← he, ← HST.out]
            unfold isW
            rw [hcN]
            by_cases h1 : st ≠ 0 <;> by_cases h2 : e.kind = 3 <;> by_cases h3 : cN = c <;> simp [h1, h2, h3]
            all_goals omega
          obtain ⟨kd, hkd⟩ : ∃ kd, kd = e.kind := ⟨_, rfl⟩
          obtain ⟨vl, hvl⟩ : ∃ vl, vl = e.value := ⟨_, rfl⟩
          rw [← hkd] at u3
          rw [← hvl] at u5
          simp only [← hkd, ← hvl] at hnx
          obtain ⟨cs5, hcb5, hcs5, hcc5⟩ := hrzW
          have HRW : Hid (RowZ (wr.alloc (.cells (evcs e) 43)) O N fun c => stepV x.t c (valF ((l2.take k).map TxM.t) c) (x.t.steps.take j)) := Lib.hid ⟨cs5, hcb5, hcs5, hcc5⟩
          have f5 : (wr.alloc (.cells (evcs e) 43)).frozen? ⟨O, cN, none⟩ = false := hcb5.frozen cN
          have hO5 : cN < N → ∃ z, (wr.alloc (.cells (evcs e) 43)).cell? ⟨O, cN, none⟩ = some (.int .i64 z) := fun h => ⟨_, (hcb5.cell cN).trans (hcc5 cN h)⟩
          have hOl : O < (wr.alloc (.cells (evcs e) 43)).heap.size := hcb5.lt
          have hwl : wr.heap.size < (wr.alloc (.cells (evcs e) 43)).heap.size := by simp
          have HBW := Lib.hid hbW
          have HNX := Lib.hid hnx
          have HO5 := Lib.hid hO5
          have e2 : decide ((j : Int) < (q : Int)) = true := decide_eq_true (by omega)
          have hj8 : (j : Int) + 1 ≤ 9223372036854775807 := by omega
          clear hX hown hs2 hs3 hSR hsc he hrg hbW hc0 hcN hnx hcb5 hcs5 hcc5 hkd hvl hO5
          go_upto_region 14 with (first
            | (refine wpList_load_mid rfl 43 (.tmp 43) rfl sx (so + j * 19) rfl (evcs e).toList _ HRG.out Tryz.underlying43 rfl (by kernel_rfl) ?_)
            | (refine wpList_alloc_ev rfl rfl ?_)
            | (refine wpList_store_ev e rfl (.tmp 12) (.tmp 44) rfl rfl rfl ?_))
          try simp only [Act.put, List.setIfInBounds_toArray, List.set_cons_zero, List.set_cons_succ]
          have hwrs : wr.heap.size = wr.heap.size := rfl
          generalize wr.heap.size = E at *
          generalize wr.alloc (.cells (evcs e) 43) = W5 at *
          by_cases h0 : st = 0
          · subst h0
            go_wp2_with fail
            go_roundg (q - (j + 1))
            case measure => have := HGJ.out; omega
            case rel => exact ⟨j + 1, by go_num, by omega, rfl, HRW.out.congr (fun c hc => by rw [HNX.out, if_neg (by simp)]), HBW.out⟩
          · have d1 : (st != 0) = true := by simp [h0]
            have H0 := Lib.hid h0
            clear h0
            by_cases h1 : kd = 3
            · subst h1
              by_cases h2 : cN < N
              · have d2 : decide ((cN : Int) < (N : Int)) = true := decide_eq_true (by omega)
                have d3 : (cN : Int) < (N : Int) := by omega
                obtain ⟨z, hz⟩ := HO5.out h2
                go_wp2_with fail
                go_roundg (q - (j + 1))
                case measure => have := HGJ.out; omega
                case rel =>
                  refine ⟨j + 1, by go_num, by omega, rfl, HRW.out.set h2 vl (fun c hc => ?_), Below.setCell HBW.out (Nat.le_refl _) _⟩
                  rw [HNX.out]
                  by_cases h3 : c = cN
                  · rw [if_pos ⟨H0.out, trivial, h3.symm⟩, if_pos h3]
                  · rw [if_neg (fun hh => h3 hh.2.2.symm), if_neg h3]
              · have d2 : decide ((cN : Int) < (N : Int)) = false := decide_eq_false (by omega)
                have d3 : decide (cN < N) = false := decide_eq_false h2
                go_wp2_with fail
                go_roundg (q - (j + 1))
                case measure => have := HGJ.out; omega
                case rel => exact ⟨j + 1, by go_num, by omega, rfl, HRW.out.congr (fun c hc => by rw [HNX.out, if_neg (fun hh => by have := hh.2.2; omega)]), HBW.out⟩
            · have d2 : (kd == 3) = false := by simp [h1]
              have H1 := Lib.hid h1
              clear h1
              go_wp2_with fail
              go_roundg (q - (j + 1))
              case measure => have := HGJ.out; omega
              case rel => exact ⟨j + 1, by go_num, by omega, rfl, HRW.out.congr (fun c hc => by rw [HNX.out, if_neg (fun hh => H1.out hh.2.1)]), HBW.out⟩
        · obtain rfl : j = q := by omega
          have e2 : decide ((j : Int) < (j : Int)) = false := by simp
          go_wp2_with fail
          go_roundg (m - (k + 1))
          case measure => have := HG.out; omega
          case rel =>
            have hkl : k < l2.length := by rw [HL2.out]; exact hk
            refine ⟨k + 1, by go_num, by omega, rfl, HRZ.out.congr (fun c hc => ?_), HBE.out⟩
            rw [List.take_succ_eq_append_getElem hkl, List.map_append, List.map_cons, List.map_nil, valF_snoc, ← HX.out, show x.t.steps.take j = x.t.steps from List.take_of_length_le (by have := HQ.out; omega)]
    · obtain rfl : k = m := by omega
      have e1 : decide ((k : Int) < (k : Int)) = false := by simp
      go_wp2_with fail
      go_ret2
      have hrz := HRZ.out
      rw [List.take_of_length_le (by rw [HL2.out]; exact Nat.le_refl _)] at hrz
      exact ⟨l2.map TxM.t, by have := HP2.out.map TxM.t; rwa [HEQ.out] at this, by rw [List.pairwise_map]; exact HPW.out, O, rfl, hrz, hw2, HB2.out.trans (HBE.out.mono hw2)⟩
theorem final_arg (A : Option Addr) (n nc : Nat) (N : Int) (l : List Ev) (p : Addr) (b : Book) (w : World) (hl : l.length = n) (hn : n * 152 ≤ 140737488351232) (hR : Reads w w.heap.size 19 A n (evs l)) (hE : LaidAt w p) (hrd : readF book0 0 l = .ok b) (hN : N < 0 ∨ 1024 < N) :
    Calls Tryz.prog 9 #[.slice A n nc, .int .i64 N] w fun r w' => r = .returned (.tuple #[.slice none 0 0, .int .i64 1]) ∧ Below w.heap.size w w' := by
  have HRD := Lib.hid ((read_any A n nc l p w hl hn hR hE.ev (by have := hE.lt; omega)))
  clear hl hn hR hE
  rcases hN with hN | hN
  · have g1 : decide (N < 0) = true := decide_eq_true hN
    go_enter Tryz.func9, Tryz.ntmps9
    go_wp2_with (go_at_call 15; refine HRD.out.mono ?_; rintro r w1 hq; unfold ReadPost at hq; rw [hrd] at hq; obtain ⟨lv, s, ll, hq, hBk, hb1⟩ := hq; subst hq)
    go_ret2
    exact ⟨rfl, hb1⟩
  · have g1 : decide (N < 0) = false := decide_eq_false (by omega)
    have g2 : decide (1024 < N) = true := decide_eq_true hN
    go_enter Tryz.func9, Tryz.ntmps9
    go_wp2_with (go_at_call 15; refine HRD.out.mono ?_; rintro r w1 hq; unfold ReadPost at hq; rw [hrd] at hq; obtain ⟨lv, s, ll, hq, hBk, hb1⟩ := hq; subst hq)
    go_ret2
    exact ⟨rfl, hb1⟩
theorem final_bad (A : Option Addr) (n nc : Nat) (N : Int) (l : List Ev) (p : Addr) (k : Nat) (w : World) (hl : l.length = n) (hn : n * 152 ≤ 140737488351232) (hR : Reads w w.heap.size 19 A n (evs l)) (hE : LaidAt w p) (hrd : readF book0 0 l = .error k) :
    Calls Tryz.prog 9 #[.slice A n nc, .int .i64 N] w fun r w' => r = .returned (.tuple #[.slice none 0 0, .int .i64 14]) ∧ Below w.heap.size w w' := by
  have HRD := Lib.hid ((read_any A n nc l p w hl hn hR hE.ev (by have := hE.lt; omega)))
  clear hl hn hR hE
  go_enter Tryz.func9, Tryz.ntmps9
  go_wp2_with (go_at_call 15; refine HRD.out.mono ?_; rintro r w1 hq; unfold ReadPost at hq; rw [hrd] at hq; obtain ⟨f, hq, hBf, hbf, hb1⟩ := hq; subst hq)
  go_ret2
  exact ⟨rfl, hb1⟩
end Go.Proofs.YtffjcojehiblnaaGreatDoor
