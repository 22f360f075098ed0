/- The document's Order of every history: the walk. -/
import Derived.Test.YtffjcojehiblnaaGreatDoorPt
import Derived.Laws.AppendOwnNone
import Derived.Test.YtffjcojehiblnaaGreatDoorPj
import Derived.Test.YtffjcojehiblnaaGreatDoorPp
namespace Go.Proofs.YtffjcojehiblnaaGreatDoor
open Go.RowKit Go.Joins Go.ChangeShapes Go.WideShapes Go.Deep
set_option linter.unusedVariables false
set_option linter.unusedSimpArgs false
set_option maxRecDepth 100000

/-- What the comparison reads: two transactions as they are told, a number of the order. -/
structure RdO (ab ao cb co gb gi : Nat) (x y : TxZ) (v : Nat) (w : World) : Prop where
  x : w.rangeAt ab ao x.cells
  y : w.rangeAt cb co y.cells
  v : w.cell? ⟨gb, gi, none⟩ = some (.int .i64 v)
theorem RdO.below {ab ao cb co gb gi : Nat} {x y : TxZ} {v : Nat} {w w' : World} (h : RdO ab ao cb co gb gi x y v w) (hb : Below w.heap.size w w') : RdO ab ao cb co gb gi x y v w' :=
  ⟨fun j u hu => (hb.cell (World.block_lt_of_cell? w _ (h.x j u hu))).trans (h.x j u hu), fun j u hu => (hb.cell (World.block_lt_of_cell? w _ (h.y j u hu))).trans (h.y j u hu), (hb.cell (World.block_lt_of_cell? w _ h.v)).trans h.v⟩
theorem wpList_slice_g {P : Program} {ops : Array Oper} {rest : List Oper} {o : Oper} {a : Act} {Q : Exit → Act → World → Prop} {w : World} {u v : Value} {lv hv : Option Value} (hgd : o.guard = none) (t : TypeId) (x : Operand) (lo hi : Option Operand)
    (ho : o.op = .slice t x lo hi none) (hx : a.eval x = u) (hlo : lo.map a.eval = lv) (hhi : hi.map a.eval = hv) (hrun : ∀ w, (Instr.sliceAt t u lv hv none).run P w = .ok v w)
    (h : wpList P ops Q rest (a.put o.dst v) w) : wpList P ops Q (o :: rest) a w := by
  refine wpList_plain hgd fun K hK => ?_
  unfold Oper.wp
  simp only [execOp, ho, hx, hlo, hhi, Option.map_none, Sem.run_bind, hrun, Sem.run_pure, Result.andThen_ok]
  exact hK _ _ h
theorem own_lower {w : World} {B B' e size n : Nat} {v : Value} {xs : List Value} (h : w.ownsRow B e size v n xs) (hB : B' ≤ B) : w.ownsRow B' e size v n xs :=
  ⟨h.1, h.2.imp id fun ⟨g, cap, cur, a, b, r⟩ => ⟨g, cap, cur, a, by omega, r⟩⟩
def ROrderPost (w : World) (b : Book) : Ending → World → Prop := fun r w' => ∃ ov L, r = .returned (.tuple #[ov, .int .i64 0]) ∧ L.Pairwise (Lx (ltc (ordF b.l))) ∧ L.Perm (List.range b.l.length) ∧ w'.ownsRow w.heap.size 3 1 ov b.l.length (natV L) ∧ Below w.heap.size w w'
theorem natV_one (l : List Nat) : ∀ u ∈ natV l, u.oneCell' = true := by
  intro u hu
  obtain ⟨i, _, rfl⟩ := List.mem_map.1 hu
  rfl
theorem natV_take (l : List Nat) (a : Nat) : natV (l.take a) = (natV l).take a := by simp [natV]
theorem natV_append (l r : List Nat) : natV (l ++ r) = natV l ++ natV r := by simp [natV]

set_option maxHeartbeats 1000000 in
theorem rorder_good (A : Option Addr) (n nc : Nat) (l : List Ev) (b : Book) (w : World) (hn : n * 152 ≤ 140737488351232) (hbl : b.l.length ≤ n) (hst : StInv b)
    (HT : Hid (Calls Tryz.prog 19 #[.slice A n nc] w fun r w' => ∃ ov, r = .returned (.tuple #[ov, .int .i64 0, .int .i64 0]) ∧ w'.ownsRow w.heap.size 50 6 ov b.l.length (txzs (b.l.map TxP.z)) ∧ Below w.heap.size w w')) :
    Calls Tryz.prog 7 #[.slice A n nc] w (ROrderPost w b) := by
  obtain ⟨i0, hi0, hz0, hz1, hz2⟩ := info_parts info_int
  obtain ⟨m, hm⟩ : ∃ m, m = b.l.length := ⟨_, rfl⟩
  have hm8 : m ≤ 925904528640 := by omega
  have HM := Lib.hid hm
  have HST := Lib.hid hst
  unfold ROrderPost
  rw [← hm] at HT ⊢
  clear hm hn hbl hst
  go_enter Tryz.func7, Tryz.ntmps7
  go_wp2_with (go_at_call 19; refine HT.out.mono ?_; rintro r w1 ⟨lv, hr, hown1, hb1⟩; subst hr; obtain ⟨R, cc, hlv, hmc, hRd⟩ := own_shapes hown1; subst hlv)
  have HRD := Lib.hid hRd
  have HB1 := Lib.hid hb1
  have hw1 := hb1.size
  clear hRd hb1 hown1 hmc
  go_loopg [7, 8] m (fun gk ov i wr => ∃ (k : Nat) (L : List Nat), i = .int .i64 k ∧ k ≤ m ∧ gk = m - k ∧ L.Pairwise (Lx (ltc (ordF b.l))) ∧ L.Perm (List.range k) ∧ wr.ownsRow w1.heap.size 3 1 ov k (natV L) ∧ (ov = .slice none 0 0 ↔ k = 0) ∧ Below w1.heap.size w1 wr)
  case atStart => exact ⟨0, [], rfl, Nat.zero_le _, rfl, .nil, by simp, World.ownsRow_nil _ _ _ _, by simp, Below.refl _ _⟩
  case round =>
    obtain ⟨wo, rfl⟩ : ∃ wo, wo = wr := ⟨_, rfl⟩
    obtain ⟨k, L, rfl, hk, hgk, hpw, hpm, hown, hnil, hbel⟩ := hrel
    have HG := Lib.hid hgk
    have HPW := Lib.hid hpw
    have HPM := Lib.hid hpm
    have HO := Lib.hid hown
    have HBE := Lib.hid hbel
    have HLEN := Lib.hid (show L.length = k by have := hpm.length_eq; simpa using this)
    have hws := hbel.size
    clear hgk hpw hpm hown hbel
    by_cases hkm : k < m
    · have e1 : decide ((k : Int) < (m : Int)) = true := by simp; omega
      rcases Nat.eq_zero_or_pos k with h0 | h0
      · have hov := hnil.2 h0
        subst hov
        subst h0
        have HNIL := Lib.hid hnil
        clear hnil
        go_wp2_with fail
        go_loopg [9] 0 (fun ga av wr => av = .int .i64 0 ∧ wr = wo)
        case atStart => exact ⟨rfl, rfl⟩
        case round =>
          obtain ⟨rfl, rfl⟩ := hrel
          go_wp2_with (first
            | (at_builtin; (refine wpList_append_own_none rfl (.tmp 48) (.tmp 51) 24 rfl w1.heap.size 3 i0 1 Tryz.underlying24 hi0 (.slice none 0 0) 0 [] rfl (World.ownsRow_nil _ _ _ _) rfl ?_))
            | (at_builtin; (refine wpList_append_lies _ rfl (.tmp 53) (.tmp 55) 24 rfl w1.heap.size 3 i0 _ 1 8 Tryz.underlying24 hi0 hz0 hz1 hz2 rfl (by decide) (.slice none 0 0) 0 [] rfl (World.ownsRow_nil _ _ _ _) ⟨wr.heap.size, 0, none⟩ 1 1 [.int .i64 0] rfl rfl (news_int wr 0) (by simp [Value.oneCell']) (by omega) (by decide) (by decide) (by simp; omega) (wr.heap.size + 1) (by simp) ?_; intro gg cap w2 hown2 hgrow hat hlt2))
            | (at_builtin; (refine wpList_append_own_none rfl (.tmp 57) (.tmp 60) 24 rfl w1.heap.size 3 i0 1 Tryz.underlying24 hi0 _ 1 [.int .i64 0] rfl hown2 rfl ?_)))
          have hgr : Below w1.heap.size w1 w2 := (Below.alloc HBE.out hws _).trans (below_grown (World.ownsRow_nil _ w1.heap.size 3 1) hgrow (by simp; omega))
          have hL0 : L = [] := List.eq_nil_of_length_eq_zero HLEN.out
          go_wp2_with fail
          go_roundg (m - (0 + 1))
          case measure => have := HG.out; omega
          case rel =>
            refine ⟨0 + 1, [0], by go_num, by omega, rfl, List.pairwise_singleton _ _, by simp, hown2, by simp, hgr⟩
      · obtain ⟨Rg, c, hv, hkc, hRo⟩ := own_shapes HO.out
        subst hv
        obtain ⟨gb, go, rfl, hgb, hcc⟩ := reads_flat hRo (by omega) (by decide)
        have hcL : ∀ j (hj : j < L.length), wo.cell? ⟨gb, go + j, none⟩ = some (.int .i64 L[j]) := fun j hj => hcc j _ (natV_at L hj)
        have HCL := Lib.hid hcL
        obtain ⟨ab, ao, rfl, hab, hca⟩ := reads_flat HRD.out (by omega) (by decide)
        have hcz : ∀ (W : World) (q : Nat) (hq : q < b.l.length), Below w1.heap.size w1 W → W.rangeAt ab (ao + q * 6) (b.l[q]).z.cells := fun W q hq hW j u hu =>
          (hW.cell (p := ⟨ab, ao + q * 6 + j, none⟩) hab).trans (txz_at hca (k := q) (by simpa using hq) j u (by simpa using hu))
        have HCZ := Lib.hid hcz
        clear hcz hca hcL hcc hRo hnil
        go_wp2_with fail
        go_loopg [9] k (fun ga av wr => ∃ a : Nat, av = .int .i64 a ∧ a ≤ k ∧ ga = a ∧ Hid (∀ j (hj : j < L.length), a ≤ j → ltc (ordF b.l) k L[j]) ∧ Below wo.heap.size wo wr)
        case atStart => exact ⟨k, rfl, Nat.le_refl _, rfl, Lib.hid fun j hj h => absurd hj (by have := HLEN.out; omega), Below.refl _ _⟩
        case round =>
          obtain ⟨a, rfl, hak, hga, HALL, hby⟩ := hrel
          have HGA := Lib.hid hga
          have HBY := Lib.hid hby
          clear hga hby
          by_cases ha0 : 0 < a
          · obtain ⟨q, rfl⟩ : ∃ q, a = q + 1 := ⟨a - 1, by omega⟩
            rw [show ((q + 1 : Nat) : Int) = (q : Int) + 1 by omega]
            have hqL : q < L.length := by have := HLEN.out; omega
            obtain ⟨v, hv⟩ : ∃ v, v = L[q] := ⟨_, rfl⟩
            have hvk : v < k := by
              have := HPM.out.subset (hv ▸ List.getElem_mem hqL)
              rwa [List.mem_range] at this
            have hkb : k < b.l.length := by have := HM.out; omega
            have hvb : v < b.l.length := by omega
            have hbw : Below w1.heap.size w1 wr := HBE.out.trans (HBY.out.mono hws)
            have hS : RdO ab (ao + k * 6) ab (ao + v * 6) gb (go + q) (b.l[k]).z (b.l[v]).z v wr := ⟨HCZ.out wr k hkb hbw, HCZ.out wr v hvb hbw, (HBY.out.cell (p := ⟨gb, go + q, none⟩) hgb).trans (by rw [HCL.out q hqL, hv])⟩
            have hah := ahead_is b.l[k] b.l[v] (HST.out.rng _ (List.getElem_mem hkb)).1 (HST.out.rng _ (List.getElem_mem hvb)).1
            have hov : ordF b.l k v = placesF b.l[k] b.l[v] := by unfold ordF; rw [List.getD_eq_getElem?_getD, List.getD_eq_getElem?_getD, List.getElem?_eq_getElem hkb, List.getElem?_eq_getElem hvb]; rfl
            rw [← hov] at hah
            have hcall := fun W => hah ▸ ahead_any (b.l[k]).z (b.l[v]).z W
            obtain ⟨X, hX⟩ : ∃ X, X = (b.l[k]).z := ⟨_, rfl⟩
            obtain ⟨Y, hY⟩ : ∃ Y, Y = (b.l[v]).z := ⟨_, rfl⟩
            rw [← hX, ← hY] at hS hcall
            obtain ⟨x0, x1, x2, x3, x4, x5⟩ := X
            obtain ⟨y0, y1, y2, y3, y4, y5⟩ := Y
            have HSS := Lib.hid hS
            have f0 : ∀ W, RdO ab (ao + k * 6) ab (ao + v * 6) gb (go + q) ⟨x0, x1, x2, x3, x4, x5⟩ ⟨y0, y1, y2, y3, y4, y5⟩ v W → W.cell? ⟨gb, go + q, none⟩ = some (.int .i64 v) := fun _ h => h.v
            have hkm' : (k : Int) < (m : Int) := by omega
            have hvm' : (v : Int) < (m : Int) := by have := HM.out; omega
            have hqk' : (q : Int) < (k : Int) := by have := HLEN.out; omega
            have y8 : IntKind.i64.wrap (q : Int) = (q : Int) := IntWalk.i64_in _ ⟨by omega, by omega⟩
            have e2 : decide ((0 : Int) < (q : Int) + 1) = true := decide_eq_true (by omega)
            clear hX hY hah hov hS
            have HV := Lib.hid hv
            clear hv
            have cx0 : ∀ W, RdO ab (ao + k * 6) ab (ao + v * 6) gb (go + q) ⟨x0, x1, x2, x3, x4, x5⟩ ⟨y0, y1, y2, y3, y4, y5⟩ v W → W.cell? ⟨ab, ao + k * 6, none⟩ = some (.int .i64 x0) := fun _ h => h.x 0 _ rfl
            have cx1 : ∀ W, RdO ab (ao + k * 6) ab (ao + v * 6) gb (go + q) ⟨x0, x1, x2, x3, x4, x5⟩ ⟨y0, y1, y2, y3, y4, y5⟩ v W → W.cell? ⟨ab, ao + k * 6 + 1, none⟩ = some (.int .i64 x1) := fun _ h => h.x 1 _ rfl
            have cx2 : ∀ W, RdO ab (ao + k * 6) ab (ao + v * 6) gb (go + q) ⟨x0, x1, x2, x3, x4, x5⟩ ⟨y0, y1, y2, y3, y4, y5⟩ v W → W.cell? ⟨ab, ao + k * 6 + 2, none⟩ = some (.int .i64 x2) := fun _ h => h.x 2 _ rfl
            have cx3 : ∀ W, RdO ab (ao + k * 6) ab (ao + v * 6) gb (go + q) ⟨x0, x1, x2, x3, x4, x5⟩ ⟨y0, y1, y2, y3, y4, y5⟩ v W → W.cell? ⟨ab, ao + k * 6 + 3, none⟩ = some (.int .i64 x3) := fun _ h => h.x 3 _ rfl
            have cx4 : ∀ W, RdO ab (ao + k * 6) ab (ao + v * 6) gb (go + q) ⟨x0, x1, x2, x3, x4, x5⟩ ⟨y0, y1, y2, y3, y4, y5⟩ v W → W.cell? ⟨ab, ao + k * 6 + 4, none⟩ = some (.int .i64 x4) := fun _ h => h.x 4 _ rfl
            have cx5 : ∀ W, RdO ab (ao + k * 6) ab (ao + v * 6) gb (go + q) ⟨x0, x1, x2, x3, x4, x5⟩ ⟨y0, y1, y2, y3, y4, y5⟩ v W → W.cell? ⟨ab, ao + k * 6 + 5, none⟩ = some (.int .i64 x5) := fun _ h => h.x 5 _ rfl
            have cy0 : ∀ W, RdO ab (ao + k * 6) ab (ao + v * 6) gb (go + q) ⟨x0, x1, x2, x3, x4, x5⟩ ⟨y0, y1, y2, y3, y4, y5⟩ v W → W.cell? ⟨ab, ao + v * 6, none⟩ = some (.int .i64 y0) := fun _ h => h.y 0 _ rfl
            have cy1 : ∀ W, RdO ab (ao + k * 6) ab (ao + v * 6) gb (go + q) ⟨x0, x1, x2, x3, x4, x5⟩ ⟨y0, y1, y2, y3, y4, y5⟩ v W → W.cell? ⟨ab, ao + v * 6 + 1, none⟩ = some (.int .i64 y1) := fun _ h => h.y 1 _ rfl
            have cy2 : ∀ W, RdO ab (ao + k * 6) ab (ao + v * 6) gb (go + q) ⟨x0, x1, x2, x3, x4, x5⟩ ⟨y0, y1, y2, y3, y4, y5⟩ v W → W.cell? ⟨ab, ao + v * 6 + 2, none⟩ = some (.int .i64 y2) := fun _ h => h.y 2 _ rfl
            have cy3 : ∀ W, RdO ab (ao + k * 6) ab (ao + v * 6) gb (go + q) ⟨x0, x1, x2, x3, x4, x5⟩ ⟨y0, y1, y2, y3, y4, y5⟩ v W → W.cell? ⟨ab, ao + v * 6 + 3, none⟩ = some (.int .i64 y3) := fun _ h => h.y 3 _ rfl
            have cy4 : ∀ W, RdO ab (ao + k * 6) ab (ao + v * 6) gb (go + q) ⟨x0, x1, x2, x3, x4, x5⟩ ⟨y0, y1, y2, y3, y4, y5⟩ v W → W.cell? ⟨ab, ao + v * 6 + 4, none⟩ = some (.int .i64 y4) := fun _ h => h.y 4 _ rfl
            have cy5 : ∀ W, RdO ab (ao + k * 6) ab (ao + v * 6) gb (go + q) ⟨x0, x1, x2, x3, x4, x5⟩ ⟨y0, y1, y2, y3, y4, y5⟩ v W → W.cell? ⟨ab, ao + v * 6 + 5, none⟩ = some (.int .i64 y5) := fun _ h => h.y 5 _ rfl
            by_cases hlt : ordF b.l k v < 0
            · rw [decide_eq_true hlt] at hcall
              have HAH := Lib.hid hcall
              have HLT := Lib.hid hlt
              clear hcall hlt
              go_wp2_with fail
              go_region_held (RdO ab (ao + k * 6) ab (ao + v * 6) gb (go + q) ⟨x0, x1, x2, x3, x4, x5⟩ ⟨y0, y1, y2, y3, y4, y5⟩ v) (first | exact ⟨HSS.out.x, HSS.out.y, HSS.out.v⟩ | exact RdO.below (w := wr.drew) ⟨HSS.out.x, HSS.out.y, HSS.out.v⟩ hb1) ((go_at_call 20; refine (HAH.out _).mono ?_; rintro r w2 ⟨hr, hb1⟩; subst hr))
              go_wp2_with fail
              have hby2 : Below wo.heap.size wo w2 := HBY.out.drew.trans (hb1.mono (by have := HBY.out.size; simpa using this))
              go_roundg q
              case measure => have := HGA.out; omega
              case rel =>
                refine ⟨q, by congr 1 <;> omega, by omega, rfl, Lib.hid fun j hj hqj => ?_, hby2⟩
                rcases Nat.lt_or_eq_of_le hqj with h | h
                · exact HALL.out j hj h
                · subst h
                  have := HLT.out
                  rw [HV.out] at this
                  exact this
            · rw [decide_eq_false hlt] at hcall
              have HAH := Lib.hid hcall
              have HLT := Lib.hid hlt
              clear hcall hlt
              go_wp2_with fail
              go_region_held (RdO ab (ao + k * 6) ab (ao + v * 6) gb (go + q) ⟨x0, x1, x2, x3, x4, x5⟩ ⟨y0, y1, y2, y3, y4, y5⟩ v) (first | exact ⟨HSS.out.x, HSS.out.y, HSS.out.v⟩ | exact RdO.below (w := wr.drew) ⟨HSS.out.x, HSS.out.y, HSS.out.v⟩ hb1) ((go_at_call 20; refine (HAH.out _).mono ?_; rintro r w2 ⟨hr, hb1⟩; subst hr))
              have hby2 : Below wo.heap.size wo w2 := HBY.out.drew.trans (hb1.mono (by have := HBY.out.size; simpa using this))
              have HINS := Lib.hid (ins_lx (ord_lt3 b.l) HPW.out HPM.out (a := q + 1) (by omega) (fun h => by have := HLT.out; rw [HV.out] at this; simp only [Nat.add_sub_cancel]; exact Int.not_lt.2 this) HALL.out)
              clear hb1 f0 cx0 cx1 cx2 cx3 cx4 cx5 cy0 cy1 cy2 cy3 cy4 cy5 e2 HAH HLT HSS
              obtain ⟨aa, haa⟩ : ∃ aa, aa = q + 1 := ⟨_, rfl⟩
              rw [← haa] at HINS
              have hak2 : aa ≤ k := by omega
              rw [show ((q : Int) + 1) = (aa : Int) by omega]
              clear haa hak hqk' y8
              have hwt : wo.heap.size ≤ w2.heap.size := hby2.size
              have hgbt : gb < w2.heap.size := by omega
              have hcw : Below wo.heap.size wo w2 := hby2
              have hq1 : (aa : Int) ≤ (k : Int) := by omega
              have hq2 : (0 : Int) ≤ (aa : Int) := by omega
              have hq3 : (aa : Int) ≤ (c : Int) := by omega
              obtain ⟨ad, hsl2, hadn⟩ : ∃ ad : Addr, (∀ W : World, (Instr.sliceAt 24 (.slice (some ⟨gb, go, none⟩) k c) (some (.int .i64 (aa : Int))) none none).run Tryz.prog W = .ok (.slice (some ad) (k - aa) (c - aa)) W) ∧ ∀ W : World, (∀ j (hj : j < L.length), W.cell? ⟨gb, go + j, none⟩ = some (.int .i64 L[j])) → ∀ j u, (natV (L.drop aa))[j]? = some u → W.cell? (ad.add j) = some u := by
                by_cases hcc : c = aa
                · refine ⟨⟨gb, go, none⟩, fun W => ?_, fun W hW j u hu => ?_⟩
                  · go_simp
                  · rw [List.drop_eq_nil_of_le (by have := HLEN.out; omega)] at hu
                    simp [natV] at hu
                · refine ⟨⟨gb, go + aa, none⟩, fun W => ?_, fun W hW j u hu => ?_⟩
                  · go_simp
                  · have hj : j < (L.drop aa).length := by
                      have := (List.getElem?_eq_some_iff.1 hu).1
                      rwa [natV_length] at this
                    rw [natV_at _ hj, List.getElem_drop] at hu
                    rw [Addr.add_mid, Nat.add_assoc, hW _ (by rw [List.length_drop] at hj; omega)]
                    exact hu
              have hsl1 : ∀ W : World, (Instr.sliceAt 24 (.slice (some ⟨gb, go, none⟩) k c) none (some (.int .i64 (aa : Int))) none).run Tryz.prog W = .ok (.slice (some ⟨gb, go, none⟩) aa c) W := fun W => by go_simp
              have hcell1 : ∀ (W : World), Below w2.heap.size w2 W → ∀ j (hj : j < L.length), W.cell? ⟨gb, go + j, none⟩ = some (.int .i64 L[j]) := fun W hW j hj => (hW.cell (p := ⟨gb, go + j, none⟩) hgbt).trans ((hcw.cell (p := ⟨gb, go + j, none⟩) hgb).trans (HCL.out j hj))
              have hnews1 : ∀ j u, (natV (L.take aa))[j]? = some u → w2.cell? ((⟨gb, go, none⟩ : Addr).add j) = some u := by
                intro j u hu
                have hj : j < (L.take aa).length := by
                  have := (List.getElem?_eq_some_iff.1 hu).1
                  rwa [natV_length] at this
                rw [natV_at _ hj, List.getElem_take] at hu
                rw [Addr.add_mid, hcell1 _ (Below.refl _ _) j (by rw [List.length_take] at hj; omega)]
                exact hu
              have hlen1 : (natV (L.take aa)).length = aa * 1 := by have := HLEN.out; simp [natV]; omega
              have hlen2 : (natV (L.drop aa)).length = (k - aa) * 1 := by have := HLEN.out; simp [natV]; omega
              have HC1 := Lib.hid hcell1
              have HN1 := Lib.hid hnews1
              have HL1 := Lib.hid hlen1
              have HL2 := Lib.hid hlen2
              have HAD := Lib.hid hadn
              clear hcell1 hnews1 hlen1 hlen2 hadn
              go_wp2_with (first
                | (refine wpList_slice_g rfl 24 (.tmp 49) none (some (.tmp 50)) rfl rfl rfl rfl hsl1 ?_)
                | (refine wpList_slice_g rfl 24 (.tmp 58) (some (.tmp 59)) none rfl rfl rfl rfl hsl2 ?_)
                | (at_builtin; (refine wpList_append_own _ rfl (.tmp 48) (.tmp 51) 24 rfl w2.heap.size 3 i0 (.int .i64 0) 1 8 Tryz.underlying24 hi0 hz0 hz1 hz2 rfl (by decide) (.slice none 0 0) 0 [] rfl (World.ownsRow_nil _ _ _ _) ⟨gb, go, none⟩ aa c (natV (L.take aa)) rfl HL1.out HN1.out (natV_one _) (by unfold maxLen; omega) (by omega) (Nat.le_refl _) ?_; intro v1 w3 hown3 hgrow3 hnl3; rw [Nat.zero_add] at hown3; (have hb3 : Below w2.heap.size w2 w3 := below_grown (World.ownsRow_nil _ w2.heap.size 3 1) hgrow3 (Nat.le_refl _)); (have hz3 := hb3.size); clear hgrow3 hnl3))
                | (at_builtin; (refine wpList_append_lies _ rfl (.tmp 53) (.tmp 55) 24 rfl w2.heap.size 3 i0 _ 1 8 Tryz.underlying24 hi0 hz0 hz1 hz2 rfl (by decide) v1 aa _ rfl (hown3.alloc _) ⟨w3.heap.size, 0, none⟩ 1 1 [.int .i64 k] rfl rfl (news_int w3 k) (by simp [Value.oneCell']) (by omega) (by unfold maxLen; omega) (by omega) (by simp; omega) (w3.heap.size + 1) (by simp) ?_; intro g4 c4 w4 hown4 hgrow4 hat4 hlt4; (have hb4 : Below w2.heap.size w2 w4 := (Below.alloc hb3 hz3 _).trans (below_grown (hown3.alloc _) hgrow4 (by simp; omega))); (have hz4 := hb4.size); (have hn4 := HAD.out w4 (HC1.out w4 hb4)); clear hgrow4 hat4 hlt4))
                | (at_builtin; go_must (refine wpList_append_own _ rfl (.tmp 57) (.tmp 60) 24 rfl w2.heap.size 3 i0 (.int .i64 0) 1 8 Tryz.underlying24 hi0 hz0 hz1 hz2 rfl (by decide) _ (aa + 1) _ rfl hown4 ad (k - aa) (c - aa) (natV (L.drop aa)) rfl HL2.out hn4 (natV_one _) (by unfold maxLen; omega) (by omega) hz4 ?_; intro v5 w5 hown5 hgrow5 hnl5; (have hb5 : Below w2.heap.size w2 w5 := hb4.trans (below_grown hown4 hgrow5 hz4)); clear hgrow5)))
              obtain ⟨hi1, hi2⟩ := HINS.out
              have hrow : (([] ++ natV (L.take aa) ++ [.int .i64 (k : Int)]) ++ natV (L.drop aa)) = natV (L.take aa ++ [k] ++ L.drop aa) := by simp [natV]
              have hown6 : w5.ownsRow w1.heap.size 3 1 v5 (k + 1) (natV (L.take aa ++ [k] ++ L.drop aa)) := by
                have h := hown5
                rw [hrow, show aa + 1 + (k - aa) = k + 1 by omega] at h
                exact own_lower h (by omega)
              have hbf : Below w1.heap.size w1 w5 := (HBE.out.trans (hcw.mono hws)).trans (hb5.mono (by omega))
              go_wp2_with fail
              go_roundg (m - (k + 1))
              case measure => have := HG.out; omega
              case rel => exact ⟨k + 1, _, by go_num, by omega, rfl, hi1, hi2, hown6, ⟨fun h => absurd (hnl5.1 h).1 (fun h9 => by injection h9 with h9; cases h9), fun h => absurd h (by omega)⟩, hbf⟩
          · have HINS := Lib.hid (ins_lx (ord_lt3 b.l) HPW.out HPM.out (a := a) (by have := HLEN.out; omega) (fun h => absurd h (by omega)) HALL.out)
            have e2 : decide ((0 : Int) < (a : Int)) = false := decide_eq_false (by omega)
            have hak2 : a ≤ k := hak
            have hby2 := HBY.out
            have hwt : wo.heap.size ≤ wr.heap.size := hby2.size
            have hgbt : gb < wr.heap.size := by omega
            have hcw : Below wo.heap.size wo wr := hby2
            have hq1 : (a : Int) ≤ (k : Int) := by omega
            have hq2 : (0 : Int) ≤ (a : Int) := by omega
            have hq3 : (a : Int) ≤ (c : Int) := by omega
            obtain ⟨ad, hsl2, hadn⟩ : ∃ ad : Addr, (∀ W : World, (Instr.sliceAt 24 (.slice (some ⟨gb, go, none⟩) k c) (some (.int .i64 (a : Int))) none none).run Tryz.prog W = .ok (.slice (some ad) (k - a) (c - a)) W) ∧ ∀ W : World, (∀ j (hj : j < L.length), W.cell? ⟨gb, go + j, none⟩ = some (.int .i64 L[j])) → ∀ j u, (natV (L.drop a))[j]? = some u → W.cell? (ad.add j) = some u := by
              by_cases hcc : c = a
              · refine ⟨⟨gb, go, none⟩, fun W => ?_, fun W hW j u hu => ?_⟩
                · go_simp
                · rw [List.drop_eq_nil_of_le (by have := HLEN.out; omega)] at hu
                  simp [natV] at hu
              · refine ⟨⟨gb, go + a, none⟩, fun W => ?_, fun W hW j u hu => ?_⟩
                · go_simp
                · have hj : j < (L.drop a).length := by
                    have := (List.getElem?_eq_some_iff.1 hu).1
                    rwa [natV_length] at this
                  rw [natV_at _ hj, List.getElem_drop] at hu
                  rw [Addr.add_mid, Nat.add_assoc, hW _ (by rw [List.length_drop] at hj; omega)]
                  exact hu
            have hsl1 : ∀ W : World, (Instr.sliceAt 24 (.slice (some ⟨gb, go, none⟩) k c) none (some (.int .i64 (a : Int))) none).run Tryz.prog W = .ok (.slice (some ⟨gb, go, none⟩) a c) W := fun W => by go_simp
            have hcell1 : ∀ (W : World), Below wr.heap.size wr W → ∀ j (hj : j < L.length), W.cell? ⟨gb, go + j, none⟩ = some (.int .i64 L[j]) := fun W hW j hj => (hW.cell (p := ⟨gb, go + j, none⟩) hgbt).trans ((hcw.cell (p := ⟨gb, go + j, none⟩) hgb).trans (HCL.out j hj))
            have hnews1 : ∀ j u, (natV (L.take a))[j]? = some u → wr.cell? ((⟨gb, go, none⟩ : Addr).add j) = some u := by
              intro j u hu
              have hj : j < (L.take a).length := by
                have := (List.getElem?_eq_some_iff.1 hu).1
                rwa [natV_length] at this
              rw [natV_at _ hj, List.getElem_take] at hu
              rw [Addr.add_mid, hcell1 _ (Below.refl _ _) j (by rw [List.length_take] at hj; omega)]
              exact hu
            have hlen1 : (natV (L.take a)).length = a * 1 := by have := HLEN.out; simp [natV]; omega
            have hlen2 : (natV (L.drop a)).length = (k - a) * 1 := by have := HLEN.out; simp [natV]; omega
            have HC1 := Lib.hid hcell1
            have HN1 := Lib.hid hnews1
            have HL1 := Lib.hid hlen1
            have HL2 := Lib.hid hlen2
            have HAD := Lib.hid hadn
            clear hcell1 hnews1 hlen1 hlen2 hadn
            go_wp2_with (first
              | (refine wpList_slice_g rfl 24 (.tmp 49) none (some (.tmp 50)) rfl rfl rfl rfl hsl1 ?_)
              | (refine wpList_slice_g rfl 24 (.tmp 58) (some (.tmp 59)) none rfl rfl rfl rfl hsl2 ?_)
              | (at_builtin; (refine wpList_append_own _ rfl (.tmp 48) (.tmp 51) 24 rfl wr.heap.size 3 i0 (.int .i64 0) 1 8 Tryz.underlying24 hi0 hz0 hz1 hz2 rfl (by decide) (.slice none 0 0) 0 [] rfl (World.ownsRow_nil _ _ _ _) ⟨gb, go, none⟩ a c (natV (L.take a)) rfl HL1.out HN1.out (natV_one _) (by unfold maxLen; omega) (by omega) (Nat.le_refl _) ?_; intro v1 w3 hown3 hgrow3 hnl3; rw [Nat.zero_add] at hown3; (have hb3 : Below wr.heap.size wr w3 := below_grown (World.ownsRow_nil _ wr.heap.size 3 1) hgrow3 (Nat.le_refl _)); (have hz3 := hb3.size); clear hgrow3 hnl3))
              | (at_builtin; (refine wpList_append_lies _ rfl (.tmp 53) (.tmp 55) 24 rfl wr.heap.size 3 i0 _ 1 8 Tryz.underlying24 hi0 hz0 hz1 hz2 rfl (by decide) v1 a _ rfl (hown3.alloc _) ⟨w3.heap.size, 0, none⟩ 1 1 [.int .i64 k] rfl rfl (news_int w3 k) (by simp [Value.oneCell']) (by omega) (by unfold maxLen; omega) (by omega) (by simp; omega) (w3.heap.size + 1) (by simp) ?_; intro g4 c4 w4 hown4 hgrow4 hat4 hlt4; (have hb4 : Below wr.heap.size wr w4 := (Below.alloc hb3 hz3 _).trans (below_grown (hown3.alloc _) hgrow4 (by simp; omega))); (have hz4 := hb4.size); (have hn4 := HAD.out w4 (HC1.out w4 hb4)); clear hgrow4 hat4 hlt4))
              | (at_builtin; go_must (refine wpList_append_own _ rfl (.tmp 57) (.tmp 60) 24 rfl wr.heap.size 3 i0 (.int .i64 0) 1 8 Tryz.underlying24 hi0 hz0 hz1 hz2 rfl (by decide) _ (a + 1) _ rfl hown4 ad (k - a) (c - a) (natV (L.drop a)) rfl HL2.out hn4 (natV_one _) (by unfold maxLen; omega) (by omega) hz4 ?_; intro v5 w5 hown5 hgrow5 hnl5; (have hb5 : Below wr.heap.size wr w5 := hb4.trans (below_grown hown4 hgrow5 hz4)); clear hgrow5)))
            obtain ⟨hi1, hi2⟩ := HINS.out
            have hrow : (([] ++ natV (L.take a) ++ [.int .i64 (k : Int)]) ++ natV (L.drop a)) = natV (L.take a ++ [k] ++ L.drop a) := by simp [natV]
            have hown6 : w5.ownsRow w1.heap.size 3 1 v5 (k + 1) (natV (L.take a ++ [k] ++ L.drop a)) := by
              have h := hown5
              rw [hrow, show a + 1 + (k - a) = k + 1 by omega] at h
              exact own_lower h (by omega)
            have hbf : Below w1.heap.size w1 w5 := (HBE.out.trans (hcw.mono hws)).trans (hb5.mono (by omega))
            go_wp2_with fail
            go_roundg (m - (k + 1))
            case measure => have := HG.out; omega
            case rel => exact ⟨k + 1, _, by go_num, by omega, rfl, hi1, hi2, hown6, ⟨fun h => absurd (hnl5.1 h).1 (fun h9 => by injection h9 with h9; cases h9), fun h => absurd h (by omega)⟩, hbf⟩
    · have e1 : decide ((k : Int) < (m : Int)) = false := by simp; omega
      have hkk : k = m := by omega
      subst hkk
      go_wp2_with fail
      go_ret2
      exact ⟨_, L, rfl, HPW.out, HPM.out, own_lower HO.out hw1, HB1.out.trans (HBE.out.mono hw1)⟩
theorem rorder_bad (A : Option Addr) (n nc : Nat) (q : Nat) (w : World)
    (HT : Hid (Calls Tryz.prog 19 #[.slice A n nc] w fun r w' => r = .returned (.tuple #[.slice none 0 0, .int .i64 14, .int .i64 q]) ∧ Below w.heap.size w w')) :
    Calls Tryz.prog 7 #[.slice A n nc] w fun r w' => r = .returned (.tuple #[.slice none 0 0, .int .i64 14]) ∧ Below w.heap.size w w' := by
  go_enter Tryz.func7, Tryz.ntmps7
  go_wp2_with (go_at_call 19; refine HT.out.mono ?_; rintro r w1 ⟨hr, hb1⟩; subst hr)
  go_ret2
  exact ⟨rfl, hb1⟩
end Go.Proofs.YtffjcojehiblnaaGreatDoor

/- Two equal lists of ints held against each other. -/
namespace Go.Proofs.YtffjcojehiblnaaGreatDoor
open Go.RowKit Go.Joins Go.ChangeShapes Go.WideShapes Go.Deep
set_option linter.unusedVariables false
set_option linter.unusedSimpArgs false
set_option maxRecDepth 100000

theorem ints_same (A C : Option Addr) (n ac cc : Nat) (zs : List Value) (w : World) (hi : ∀ (j : Nat) (hj : j < zs.length), ∃ x : Int, zs[j] = .int .i64 x) (hn : n ≤ 925904528640) (hA : Reads w w.heap.size 1 A n zs) (hC : Reads w w.heap.size 1 C n zs) :
    Calls Tryz.prog 8 #[.slice A n ac, .slice C n cc] w fun r w' => r = .returned (.bool true) ∧ Below w.heap.size w w' := by
  have hl : zs.length = n := by have := hA.1; omega
  have HA := Lib.hid hA
  have HC := Lib.hid hC
  have HI := Lib.hid hi
  have HL := Lib.hid hl
  clear hA hC hi hl
  go_enter Tryz.func8, Tryz.ntmps8
  go_wp2_with fail
  go_loopg [5] n (fun gk i wr => ∃ k : Nat, i = .int .i64 k ∧ k ≤ n ∧ gk = n - k ∧ Below w.heap.size w wr)
  case atStart => exact ⟨0, rfl, Nat.zero_le _, rfl, Below.refl _ _⟩
  case round =>
    obtain ⟨k, rfl, hk, hgk, hbel⟩ := hrel
    have HB := Lib.hid hbel
    clear hbel
    have HG := Lib.hid hgk
    clear hgk
    by_cases hkn : k < n
    · have hkl : k < zs.length := by rw [HL.out]; exact hkn
      obtain ⟨ab, ao, rfl, hab, hca⟩ := reads_flat HA.out (by omega) (by decide)
      obtain ⟨cb, co, rfl, hcb, hcc⟩ := reads_flat HC.out (by omega) (by decide)
      obtain ⟨x, hx⟩ := HI.out k hkl
      have ca : wr.cell? ⟨ab, ao + k, none⟩ = some (.int .i64 x) := (HB.out.cell (p := ⟨ab, ao + k, none⟩) hab).trans (hca k _ (by rw [List.getElem?_eq_getElem hkl, hx]))
      have cc2 : wr.cell? ⟨cb, co + k, none⟩ = some (.int .i64 x) := (HB.out.cell (p := ⟨cb, co + k, none⟩) hcb).trans (hcc k _ (by rw [List.getElem?_eq_getElem hkl, hx]))
      have e1 : decide ((k : Int) < (n : Int)) = true := by simp; omega
      have e2 : (k : Int) < (n : Int) := by omega
      have e3 : (x != x) = false := by simp
      have hk8 : (k : Int) + 1 ≤ 9223372036854775807 := by omega
      clear hca hcc hx hkl
      go_wp2_with fail
      go_quiet (fail)
      go_wp2_with fail
      go_roundg (n - (k + 1))
      case measure => have := HG.out; omega
      case rel => exact ⟨k + 1, by go_num, by omega, rfl, below_drewN HB.out _⟩
    · have hkk : n = k := by omega
      subst hkk
      have e1 : decide ((n : Int) < (n : Int)) = false := by simp
      go_wp2_with fail
      go_ret
      exact ⟨rfl, HB.out⟩
end Go.Proofs.YtffjcojehiblnaaGreatDoor

/- The law of HistoryOrders, behind shown. -/
namespace Go.Proofs.YtffjcojehiblnaaGreatDoor
open Go.RowKit Go.Joins Go.ChangeShapes Go.WideShapes Go.Deep
set_option linter.unusedVariables false
set_option linter.unusedSimpArgs false
set_option maxRecDepth 100000

theorem natV_ints (L : List Nat) (j : Nat) (hj : j < (natV L).length) : ∃ x : Int, (natV L)[j] = .int .i64 x := by
  rw [natV_length] at hj
  refine ⟨L[j], ?_⟩
  simp [natV]
theorem law_orders (A : Option Addr) (n nc : Nat) (l : List Ev) (p : Addr) (w : World) (hl : l.length = n) (hn : n * 152 ≤ 140737488351232) (hR : Reads w w.heap.size 19 A n (evs l)) (hE : LaidAt w p) (hsh : ∀ W, LaidAt W p → Calls Tryz.prog 5 #[] W (SaysTrue W)) :
    Calls Tryz.prog 3 #[.slice A n nc] w (SaysTrue w) := by
  have hn8 : n ≤ 925904528640 := by omega
  have HSH := Lib.hid (hsh w hE)
  have h2 := hE.lt
  have HRD : ∀ W, Below w.heap.size w W → Reads W W.heap.size 19 A n (evs l) := fun W hW => (hR.below hW).more hW.size
  have HLD : ∀ W, Below w.heap.size w W → LaidAt W p := fun W hW => hE.below hW (by omega)
  rcases may_split l with hm | ⟨q, hq, hm, hb⟩
  · obtain ⟨b, hrd, I, hln, hz⟩ := read_good l hm
    have hbl : b.l.length ≤ n := by have := (read_small0 hrd).1.l; omega
    have HOR : Hid (∀ W, Below w.heap.size w W → Calls Tryz.prog 6 #[.slice A n nc] W (OrderPost W b)) := Lib.hid fun W hW => order_good A n nc l p b W hl hn (HRD W hW) (HLD W hW) hrd hbl
    have HRO : Hid (∀ W, Below w.heap.size w W → Calls Tryz.prog 7 #[.slice A n nc] W (ROrderPost W b)) := Lib.hid fun W hW => rorder_good A n nc l b W hn hbl (st_read0 hrd) (Lib.hid (rtxs_good A n nc l b W hl hn (HRD W hW) hm hrd I hln hz))
    have HN := Lib.hid hbl
    clear hR hE hsh HRD HLD hm hrd I hln hz hl hn hbl
    go_enter Tryz.func3, Tryz.ntmps3
    go_wp2_with (first
      | (go_at_call 5; refine HSH.out.mono ?_; rintro r w1 ⟨hr, hb1⟩; subst hr)
      | (go_at_call 6; refine (HOR.out _ hb1).mono ?_; rintro r w2 ⟨R2, c2, L2, hr, q1, q2, hR2, hb2⟩; subst hr; (have hb12 := hb1.trans (hb2.mono hb1.size)))
      | (go_at_call 7; refine (HRO.out _ hb12).mono ?_; rintro r w3 ⟨ov, L3, hr, q3, q4, hown3, hb3⟩; subst hr; (have hLL : L3 = L2 := perm_eq (fun x y => Lx.asym (ord_lt3 b.l)) q3 q1 (q4.trans q2.symm)); rw [hLL] at hown3; obtain ⟨R3, c3, hv3, _, hR3⟩ := own_shapes hown3; subst hv3)
      | (go_at_call 8; refine (ints_same R2 R3 b.l.length c2 c3 (natV L2) _ (natV_ints L2) (by have := HN.out; omega) ((hR2.below hb3).more hb3.size) hR3).mono ?_; rintro r w4 ⟨hr, hb4⟩; subst hr))
    go_ret
    exact ⟨rfl, (hb12.trans (hb3.mono hb12.size)).trans (hb4.mono (Nat.le_trans hb12.size hb3.size))⟩
  · obtain ⟨k, hrd⟩ : ∃ k, readF book0 0 l = .error k := ⟨_, read_bad l q hq hm hb⟩
    have HOR : Hid (∀ W, Below w.heap.size w W → Calls Tryz.prog 6 #[.slice A n nc] W fun r w' => r = .returned (.tuple #[.slice none 0 0, .int .i64 14]) ∧ Below W.heap.size W w') := Lib.hid fun W hW => order_bad A n nc l p k W hl hn (HRD W hW) (HLD W hW) hrd
    have HRO : Hid (∀ W, Below w.heap.size w W → Calls Tryz.prog 7 #[.slice A n nc] W fun r w' => r = .returned (.tuple #[.slice none 0 0, .int .i64 14]) ∧ Below W.heap.size W w') := Lib.hid fun W hW => rorder_bad A n nc q W (Lib.hid (rtxs_bad A n nc l q W hl hn (HRD W hW) (by omega) hm (fun e he => by rw [List.getElem?_eq_getElem hq] at he; injection he with he; subst he; exact hb)))
    clear hR hE hsh HRD HLD hm hrd hl hn hb
    go_enter Tryz.func3, Tryz.ntmps3
    go_wp2_with (first
      | (go_at_call 5; refine HSH.out.mono ?_; rintro r w1 ⟨hr, hb1⟩; subst hr)
      | (go_at_call 6; refine (HOR.out _ hb1).mono ?_; rintro r w2 ⟨hr, hb2⟩; subst hr; (have hb12 := hb1.trans (hb2.mono hb1.size)))
      | (go_at_call 7; refine (HRO.out _ hb12).mono ?_; rintro r w3 ⟨hr, hb3⟩; subst hr)
      | (go_at_call 8; refine (ints_same none none 0 0 0 [] _ (fun j hj => absurd hj (by simp)) (by omega) ⟨rfl, fun h => absurd h (by omega)⟩ ⟨rfl, fun h => absurd h (by omega)⟩).mono ?_; rintro r w4 ⟨hr, hb4⟩; subst hr))
    go_ret
    exact ⟨rfl, (hb12.trans (hb3.mono hb12.size)).trans (hb4.mono (Nat.le_trans hb12.size hb3.size))⟩
end Go.Proofs.YtffjcojehiblnaaGreatDoor
