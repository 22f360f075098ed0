/- The document's Raw, Shapes, Copy. -/
import Derived.Test.YtpmpgnhbpneloaaRe
namespace Go.Proofs.Ytpmpgnhbpneloaa
open Go.RowKit Go.Joins Go.ChangeShapes Go.WideShapes Go.Deep
set_option linter.unusedVariables false
set_option maxRecDepth 100000

theorem rraw_any (s g base : Nat) (rv : Option Addr) (rc : Nat × Nat) (tv : Value) (c : Cfg) (regs : List Reg) (raw : List Int) (l : List TM) (w : World) (h : RIs w base s g rv rc tv c regs raw l) (h1 : 1 ≤ raw.length) (h64 : raw.length ≤ 64) :
    Calls Try.prog 34 #[.pointer (some ⟨s, 0, none⟩)] w fun e w' => ∃ b cap, e = .returned (.slice (some ⟨b, 0, none⟩) raw.length cap) ∧ w'.ownsRow w.heap.size 2 1 (.slice (some ⟨b, 0, none⟩) raw.length cap) raw.length (ints raw) ∧ Below w.heap.size w w' := by
  have c7 : w.cell? ⟨s, 7, none⟩ = some (.slice (some ⟨g, 0, none⟩) raw.length rc.2) := (h.blk.cell 7).trans rfl
  have HA := Lib.hid (Reads.of_own h.rawb)
  obtain ⟨n, hn⟩ : ∃ n, n = raw.length := ⟨_, rfl⟩
  rw [← hn] at c7 h1 h64 HA ⊢
  clear h hn
  go_enter Try.func34, Try.ntmps34
  go_wp2_with fail
  refine (numbers_any _ n rc.2 raw _ (by omega) (by exact HA.out)).mono ?_
  rintro e w1 ⟨v, rfl, hown, hb⟩
  obtain ⟨b, cap, rfl, -, -⟩ := hown.form h1
  have HO := Lib.hid hown
  have HB := Lib.hid hb
  clear hown hb
  go_wp2_with fail
  go_ret
  exact ⟨b, cap, rfl, HO.out, HB.out⟩

theorem info_prf : (Try.prog.info? 54).map (fun i => (i.zero, i.size, i.bytes)) = some (some (.agg #[.int .i64 0, .int .i64 0]), 2, 16) := by kernel_rfl
theorem prs_step (l : List (Int × Int)) (k : Nat) (h : k < l.length) : prs (l.take k) ++ [.int .i64 l[k].1, .int .i64 l[k].2] = prs (l.take (k + 1)) := by
  rw [List.take_succ_eq_append_getElem h]
  exact (rows_snoc prc (l.take k) l[k]).symm
theorem own_kept {w w' : World} {base n size : Nat} {e : TypeId} {v : Value} {xs : List Value} (h : w.ownsRow base e size v n xs) (hb : Below w.heap.size w w') : w'.ownsRow base e size v n xs := own_keep h fun b hb' => hb.block b (h.lt b hb').2

def ShapesPost2 (w : World) (ts : List TS) : Ending → World → Prop := fun e w' => ∃ v l', e = .returned v ∧ LIs w' w.heap.size 52 3 TM.cells3 v l' ∧ l'.map TM.t = ts ∧ Below w.heap.size w w'

theorem shape_end {w W4 w3 : World} {L B2 : Nat} {u v1 u6 tv' : Value} {lv : List TM} {x : TS} {kind : Int} {nv np : Nat} {o : Obj} (hL : LIs W4 w.heap.size 52 3 TM.cells3 u lv) (hv : W4.ownsRow L 2 1 v1 nv (ints x.values)) (hp : W4.ownsRow B2 54 2 u6 np (prs x.pairs)) (e1 : nv = x.values.length) (e2 : np = x.pairs.length)
    (HLB : ∀ y ∈ lv, ∀ b, (y.vv.ownBlock = some b ∨ y.pv.ownBlock = some b) → b < L) (hLB : L ≤ B2) (hBL : w.heap.size ≤ L) (e0 : kind = x.kind) (hbx : Below w.heap.size w W4)
    (hg : (W4.alloc o).grownBy w3 u.ownBlock) (hr : w3.ownsRow w.heap.size 52 3 tv' (lv.length + 1) (rows TM.cells3 lv ++ [.int .i64 kind, v1, u6])) :
    ∃ X : TM, X.t = x ∧ LIs w3 w.heap.size 52 3 TM.cells3 tv' (lv ++ [X]) ∧ Below w.heap.size w w3 := by
  subst e0 e1 e2
  refine ⟨⟨x, v1, u6⟩, rfl, (hL.alloc o).snoc ⟨(own_base hv hBL).alloc o, (own_base hp (by omega)).alloc o⟩ ?_ ?_ (by decide) (by decide) hg hr, ?_⟩
  · intro y hy b hb e
    have := HLB y hy b (.inl hb)
    have := (hv.lt b e).1
    omega
  · intro y hy b hb e
    have := HLB y hy b (.inr hb)
    have := (hp.lt b e).1
    omega
  · exact (hbx.alloc hbx.size o).grown hg (by have := hbx.size; simp; omega) (fun q hq => ((hL.alloc o).row.lt q hq).1)

set_option maxHeartbeats 4000000 in
theorem rshapes_any (s g base : Nat) (rv : Option Addr) (rc : Nat × Nat) (tv : Value) (c : Cfg) (regs : List Reg) (raw : List Int) (l : List TM) (w : World) (h : RIs w base s g rv rc tv c regs raw l) (hl8 : l.length ≤ 8) (hok : AllOk (l.map TM.t)) :
    Calls Try.prog 35 #[.pointer (some ⟨s, 0, none⟩)] w (ShapesPost2 w (l.map TM.t)) := by
  obtain ⟨V, vc, hvv, hvc, hV⟩ := own_shapes h.ls.row
  have c8 : w.cell? ⟨s, 8, none⟩ = some (.slice V l.length vc) := by rw [← hvv]; exact (h.blk.cell 8).trans rfl
  have HCEL : Hid (∀ k (hk : k < l.length), ∃ T, V = some ⟨T, 0, none⟩ ∧ T < w.heap.size ∧ Cel w base T (k * 3 + 1) (k * 3 + 2) l[k] ∧ w.cell? ⟨T, k * 3, none⟩ = some (.int .i64 l[k].t.kind)) := Lib.hid fun k hk => by
    obtain ⟨T, cap, htv, hcel, hTl⟩ := h.cel hk
    have hTb : tv.ownBlock = some T := by rw [htv]; rfl
    have hh := h.ls.row.cells hTb (k * 3 + 0) (.int .i64 l[k].t.kind) (by rw [rows_at TM.cells3 3 (fun _ => rfl) l k 0 hk (by omega)]; rfl)
    rw [show ((⟨T, 0, none⟩ : Addr).add (k * 3 + 0)) = ⟨T, k * 3, none⟩ by unfold Addr.add; split <;> simp_all] at hh
    rw [hvv] at htv
    injection htv with e1 e2 e3
    exact ⟨T, e1, hTl, hcel, hh⟩
  obtain ⟨n, hn⟩ : ∃ n, n = l.length := ⟨_, rfl⟩
  have HN := Lib.hid hn
  have hsl := h.blk.lt
  rw [← hn] at c8 hl8
  obtain ⟨i0, hi0, hz0, hz1, hz2⟩ := info_parts info_shape
  obtain ⟨i1, hi1, hy0, hy1, hy2⟩ := info_parts info_prf
  have HOK := Lib.hid hok
  clear h hvv hV hok hn hvc
  go_enter Try.func35, Try.ntmps35
  go_wp2_with fail
  go_loopg [3, 4] n (fun gk sv i wr => ∃ (k : Nat) (lv : List TM), i = .int .i64 k ∧ k ≤ n ∧ gk = n - k ∧ LIs wr w.heap.size 52 3 TM.cells3 sv lv ∧ lv.length = k ∧ lv.map TM.t = (l.take k).map TM.t ∧ Below w.heap.size w wr)
  case atStart => exact ⟨0, [], rfl, Nat.zero_le _, rfl, LIs.nil, rfl, rfl, Below.refl _ _⟩
  case round =>
    obtain ⟨k, lv, rfl, hk, hgk, hL, hll, hlt, hbel⟩ := hrel
    obtain ⟨wo, rfl⟩ : ∃ wo, wo = wr := ⟨_, rfl⟩
    have HG := Lib.hid hgk
    have HLL := Lib.hid hll
    have HLT := Lib.hid hlt
    have c8r : wo.cell? ⟨s, 8, none⟩ = some (.slice V n vc) := (hbel.cell (p := ⟨s, 8, none⟩) hsl).trans c8
    clear hgk hlt hll
    by_cases hkn : k < n
    · have hkl : k < l.length := by rw [← HN.out]; exact hkn
      obtain ⟨T, rfl, hTl, hcel, ck⟩ := HCEL.out k hkl
      obtain ⟨x, hx⟩ : ∃ x, x = l[k] := ⟨_, rfl⟩
      rw [← hx] at hcel ck
      have hxok : TOk x.t := HOK.out _ (List.mem_map.2 ⟨x, by rw [hx]; exact List.getElem_mem hkl, rfl⟩)
      obtain ⟨A1, a1, hv1, ha1, hR1⟩ := own_shapes hcel.th.vs
      obtain ⟨A2, a2, hv2, ha2, hR2⟩ := own_shapes hcel.th.ps
      have hn1 := hxok.lv
      have hn2 := hxok.lp
      have cv := hcel.cv
      have cp := hcel.cp
      rw [hv1] at cv
      rw [hv2] at cp
      obtain ⟨kind, hkind⟩ : ∃ q, q = x.t.kind := ⟨_, rfl⟩
      obtain ⟨nv, hnv⟩ : ∃ q, q = x.t.values.length := ⟨_, rfl⟩
      obtain ⟨np, hnp⟩ : ∃ q, q = x.t.pairs.length := ⟨_, rfl⟩
      rw [← hkind] at ck
      rw [← hnv] at cv hn1 hR1
      rw [← hnp] at cp hn2 hR2
      have g0 : wo.cell? ⟨T, k * 3, none⟩ = some (.int .i64 kind) := (hbel.cell (p := ⟨T, k * 3, none⟩) hTl).trans ck
      have g1 : wo.cell? ⟨T, k * 3 + 1, none⟩ = some (.slice A1 nv a1) := (hbel.cell (p := ⟨T, k * 3 + 1, none⟩) hTl).trans cv
      have g2 : wo.cell? ⟨T, k * 3 + 2, none⟩ = some (.slice A2 np a2) := (hbel.cell (p := ⟨T, k * 3 + 2, none⟩) hTl).trans cp
      have hTw : T < wo.heap.size := by have := hbel.size; omega
      have HX : Hid (kind = x.t.kind ∧ nv = x.t.values.length ∧ np = x.t.pairs.length ∧ x = l[k]) := Lib.hid ⟨hkind, hnv, hnp, hx⟩
      have hB5 := Blk.new wo 52 #[.int .i64 kind, .slice A1 nv a1, .slice A2 np a2]
      have hL1 := hL.alloc (.cells #[.int .i64 kind, .slice A1 nv a1, .slice A2 np a2] 52)
      have hbx : Below w.heap.size w (wo.alloc (.cells #[.int .i64 kind, .slice A1 nv a1, .slice A2 np a2] 52)) := hbel.alloc hbel.size _
      have HV := fun W (hW : Below w.heap.size w W) => numbers_any A1 nv a1 x.t.values W (by omega) ((hR1.below hW).more hW.size)
      have HVH := Lib.hid HV
      have HR2 := Lib.hid hR2
      have hm1 : lv.length + 1 ≤ maxLen := by have := HLL.out; unfold maxLen; omega
      have hnb : (lv.length + 1) * 56 ≤ 140737488355328 := by have := HLL.out; omega
      have HLB : Hid (∀ y ∈ lv, ∀ b, (y.vv.ownBlock = some b ∨ y.pv.ownBlock = some b) → b < wo.heap.size) := Lib.hid fun y hy b hb => (hL.blk (.inr ⟨y, hy, hb⟩)).2.1
      have HLB2 : Hid (∀ b, LBlocks u3 lv b → b < wo.heap.size) := Lib.hid fun b hb => (hL.blk hb).2.1
      have hBL := hbel.size
      have hki : (k : Int) < (n : Int) := by omega
      clear ck cv cp hcel hxok hR1 hR2 hkind hnv hnp hx hv1 hv2 ha1 ha2 hL hbel HV
      go_wp2_with fail
      generalize wo.alloc (.cells #[.int .i64 kind, .slice A1 nv a1, .slice A2 np a2] 52) = W1 at *
      have c51 : W1.cell? ⟨wo.heap.size, 1, none⟩ = some (.slice A1 nv a1) := (hB5.cell 1).trans rfl
      have hlt5 := hB5.lt
      clear g0 g1 g2
      refine (HVH.out W1 hbx).mono ?_
      rintro e w2 ⟨v1, rfl, hown1, hb2⟩
      obtain ⟨V1, c1, rfl, -, -⟩ := own_shapes hown1
      have hbx2 := hbx.trans (hb2.mono hbx.size)
      have hL2 := hL1.below hb2
      have hB6 := hB5.below hb2 hlt5
      have f1 : w2.frozen? ⟨wo.heap.size, 1, none⟩ = false := hB6.frozen 1
      have d1 : w2.cell? ⟨wo.heap.size, 1, none⟩ = some (.slice A1 nv a1) := (hB6.cell 1).trans rfl
      have hW1 : wo.heap.size ≤ W1.heap.size := by omega
      have hW1s : wo.heap.size < W1.heap.size := by omega
      have hlt6 := hB6.lt
      have hW2 := hb2.size
      have HO1 := Lib.hid hown1
      have HL2 := Lib.hid hL2
      have HB6 := Lib.hid hB6
      have HBX2 := Lib.hid hbx2
      clear hown1 hb2 hbx2 hL1 hL2 hB5 hB6 hbx c51
      go_wp2_with fail
      have hB7 := HB6.out.set_ 1 (.slice V1 nv c1)
      have hL7 := HL2.out.far (p := ⟨wo.heap.size, 1, none⟩) (fun b hb => Nat.ne_of_lt (HLB2.out b hb)) (.slice V1 nv c1)
      have hO7 := ownsRow_setCell_other (a := ⟨wo.heap.size, 1, none⟩) HO1.out (fun e => by have := (HO1.out.lt _ e).1; simp at this; omega) (.slice V1 nv c1)
      have hbx7 : Below w.heap.size w (w2.setCell ⟨wo.heap.size, 1, none⟩ (.slice V1 nv c1)) := HBX2.out.setCell (by exact hBL) _
      have hsz7 : W1.heap.size ≤ (w2.setCell ⟨wo.heap.size, 1, none⟩ (.slice V1 nv c1)).heap.size := by simp [World.setCell]; exact hW2
      clear f1 d1 hlt6 hlt5
      generalize w2.setCell ⟨wo.heap.size, 1, none⟩ (.slice V1 nv c1) = W7 at *
      have hlt7 := hB7.lt
      have d2 : W7.cell? ⟨wo.heap.size, 2, none⟩ = some (.slice A2 np a2) := (hB7.cell 2).trans rfl
      have HB7 := Lib.hid hB7
      have HL7 := Lib.hid hL7
      have HO7 := Lib.hid hO7
      have HBX7 := Lib.hid hbx7
      have hW7 : W1.heap.size ≤ W7.heap.size := hsz7
      have HR7 := Lib.hid (HR2.out.below HBX7.out)
      have hlt5' := HB7.out.lt
      clear hB7 hL7 hO7 hbx7
      go_wp2_with fail
      go_loopg [6, 7] np (fun gk v i wz => ∃ t : Nat, i = .int .i64 t ∧ t ≤ np ∧ gk = np - t ∧ wz.ownsRow W7.heap.size 54 2 v t (prs (x.t.pairs.take t)) ∧ Below W7.heap.size W7 wz)
      case atStart => exact ⟨0, rfl, Nat.zero_le _, rfl, World.ownsRow_nil _ _ _ _, Below.refl _ _⟩
      case round =>
        obtain ⟨t, rfl, ht, hgt, hown6, hbz⟩ := hrel
        have HGT := Lib.hid hgt
        have hsz := hbz.size
        have d2r : wr.cell? ⟨wo.heap.size, 2, none⟩ = some (.slice A2 np a2) := (hbz.cell (p := ⟨wo.heap.size, 2, none⟩) hlt7).trans d2
        have hltr : wo.heap.size < wr.heap.size := by omega
        clear hgt
        by_cases htn : t < np
        · obtain ⟨pb, poff, rfl, hpb, hpc⟩ := (HR7.out.below (hbz.mono (B' := w.heap.size) HBX7.out.size)).flatN (by omega) (by omega)
          have htl : t < x.t.pairs.length := by rw [← HX.out.2.2.1]; exact htn
          obtain ⟨X, Y, hXY⟩ : ∃ X Y, (X, Y) = x.t.pairs[t] := ⟨_, _, rfl⟩
          have px0 := prs_at x.t.pairs t 0 htl (by omega)
          have px1 := prs_at x.t.pairs t 1 htl (by omega)
          rw [← hXY] at px0 px1
          have cx : wr.cell? ⟨pb, poff + t * 2, none⟩ = some (.int .i64 X) := by simpa using hpc _ _ px0
          have cy : wr.cell? ⟨pb, poff + t * 2 + 1, none⟩ = some (.int .i64 Y) := hpc _ _ px1
          have HXY : Hid (prs (x.t.pairs.take t) ++ [.int .i64 X, .int .i64 Y] = prs (x.t.pairs.take (t + 1))) := Lib.hid (by rw [← prs_step _ _ htl, ← hXY])
          have hti : (t : Int) < (np : Int) := by omega
          have hc2 : ∀ u ∈ ([.int .i64 X, .int .i64 Y] : List Value), u.oneCell' = true := by simp [Value.oneCell']
          have hc3 : t + 1 ≤ maxLen := (by unfold maxLen; omega)
          have hc4 : (t + 1) * 16 ≤ 140737488355328 := (by omega)
          have hc5 : W7.heap.size ≤ (wr.alloc (.cells #[.int .i64 X, .int .i64 Y] 54)).heap.size := (by simp; omega)
          clear hpc px0 px1 hXY
          go_wp2_with (at_builtin; go_must (refine wpList_append_own _ rfl _ _ 50 rfl W7.heap.size 54 i1 _ 2 16 Try.underlying50 hi1 hy0 hy1 hy2 rfl (by decide) _ _ _ rfl (hown6.alloc _) ⟨wr.heap.size, 0, none⟩ 1 1 [.int .i64 X, .int .i64 Y] rfl rfl (World.news_of_block (cs := #[.int .i64 X, .int .i64 Y]) (t := 54) (fr := (0, 0)) (heap_alloc_new wr _)) hc2 hc3 hc4 hc5 ?_; intro v' w3 hown' hgrow _))
          go_roundg (np - (t + 1))
          case measure => have := HGT.out; omega
          case rel =>
            refine ⟨t + 1, by go_num, by omega, rfl, ?_, ?_⟩
            · rw [← HXY.out]
              exact hown'
            · exact (hbz.alloc hbz.size _).grown hgrow (by simp; omega) (fun q hq => ((hown6.alloc (.cells #[.int .i64 X, .int .i64 Y] 54)).lt q hq).1)
        · obtain rfl : t = np := by omega
          have hti : decide ((t : Int) < (t : Int)) = false := by simp
          obtain ⟨P6, pc6, rfl, -, -⟩ := own_shapes hown6
          have hown6' : wr.ownsRow W7.heap.size 54 2 (.slice P6 t pc6) t (prs x.t.pairs) := by
            have h := hown6
            rwa [List.take_of_length_le (by rw [HX.out.2.2.1]; exact Nat.le_refl _)] at h
          have hB8 := HB7.out.below hbz hlt7
          have hL8 := HL7.out.below hbz
          have hO8 := own_kept HO7.out hbz
          have hbx8 : Below w.heap.size w wr := HBX7.out.trans (hbz.mono HBX7.out.size)
          have f2 : wr.frozen? ⟨wo.heap.size, 2, none⟩ = false := hB8.frozen 2
          have hB9 := hB8.set_ 2 (.slice P6 t pc6)
          have hL9 := hL8.far (p := ⟨wo.heap.size, 2, none⟩) (fun b hb => Nat.ne_of_lt (HLB2.out b hb)) (.slice P6 t pc6)
          have hO9 := ownsRow_setCell_other (a := ⟨wo.heap.size, 2, none⟩) hO8 (fun e => by have h1 : W1.heap.size ≤ wo.heap.size := (hO8.lt _ e).1; omega) (.slice P6 t pc6)
          have hP9 := ownsRow_setCell_other (a := ⟨wo.heap.size, 2, none⟩) hown6' (fun e => by have h1 : W7.heap.size ≤ wo.heap.size := (hown6'.lt _ e).1; omega) (.slice P6 t pc6)
          have hbx9 : Below w.heap.size w (wr.setCell ⟨wo.heap.size, 2, none⟩ (.slice P6 t pc6)) := hbx8.setCell (by exact hBL) _
          have HB9 := Lib.hid hB9
          have HL9 := Lib.hid hL9
          have HO9 := Lib.hid hO9
          have HP9 := Lib.hid hP9
          have HBX9 := Lib.hid hbx9
          clear hB8 hL8 hO8 hbx8 hB9 hL9 hO9 hP9 hbx9 hown6 hown6' hbz
          have g20 : wr.cell? ⟨wo.heap.size, 2, none⟩ = some (.slice A2 t a2) := d2r
          go_upto_region 13 with fail
          clear f2 d2r g20 hltr
          generalize wr.setCell ⟨wo.heap.size, 2, none⟩ (.slice P6 t pc6) = W9 at *
          have k0 : W9.cell? ⟨wo.heap.size, 0, none⟩ = some (.int .i64 kind) := (HB9.out.cell 0).trans rfl
          have k1 : W9.cell? ⟨wo.heap.size, 1, none⟩ = some (.slice V1 nv c1) := (HB9.out.cell 1).trans rfl
          have k2 : W9.cell? ⟨wo.heap.size, 2, none⟩ = some (.slice P6 t pc6) := (HB9.out.cell 2).trans rfl
          have hlt9 := HB9.out.lt
          have hone : ∀ u ∈ ([.int .i64 kind, .slice V1 nv c1, .slice P6 t pc6] : List Value), u.oneCell' = true := by simp [Value.oneCell']
          have hL9 := HL9.out
          have hsz9 : w.heap.size ≤ (W9.alloc (.cells #[.int .i64 kind, .slice V1 nv c1, .slice P6 t pc6] 52)).heap.size := by have := HBX9.out.size; simp; omega
          go_wp2_with (at_builtin; go_must (refine wpList_append_own _ rfl _ _ 40 rfl w.heap.size 52 i0 _ 3 56 Try.underlying40 hi0 hz0 hz1 hz2 rfl (by decide) _ _ _ rfl (hL9.row.alloc _) ⟨W9.heap.size, 0, none⟩ 1 1 [.int .i64 kind, .slice V1 nv c1, .slice P6 t pc6] rfl rfl (World.news_of_block (cs := #[.int .i64 kind, .slice V1 nv c1, .slice P6 t pc6]) (t := 52) (fr := (0, 0)) (heap_alloc_new W9 _)) hone hm1 hnb hsz9 ?_; intro v' w3 hown' hgrow _))
          go_roundg (n - (k + 1))
          case measure => have := HG.out; omega
          case rel =>
            obtain ⟨X, hX, hLX, hbX⟩ := shape_end HL9.out HO9.out HP9.out HX.out.2.1 HX.out.2.2.1 (fun y hy b hb => Nat.lt_of_lt_of_le (HLB.out y hy b hb) hW1) hW7 (by omega) HX.out.1 HBX9.out hgrow hown'
            refine ⟨k + 1, lv ++ [X], by go_num, by omega, rfl, hLX, by rw [List.length_append, HLL.out]; rfl, ?_, hbX⟩
            rw [List.map_append, HLT.out, List.take_succ_eq_append_getElem hkl, List.map_append, ← HX.out.2.2.2]
            simp [hX]
    · have e1 : decide ((k : Int) < (n : Int)) = false := by simp; omega
      go_wp2_with fail
      go_ret
      exact ⟨_, lv, rfl, hL, by rw [HLT.out, List.take_of_length_le (by rw [← HN.out]; omega)], hbel⟩
end Go.Proofs.Ytpmpgnhbpneloaa
