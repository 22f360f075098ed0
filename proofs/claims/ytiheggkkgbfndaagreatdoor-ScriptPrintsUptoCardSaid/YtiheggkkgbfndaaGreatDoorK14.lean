/- carousellaw24: lines of the same. -/
import Derived.Test.YtiheggkkgbfndaaGreatDoorK13
import Derived.Test.YtiheggkkgbfndaaGreatDoorK09
import Derived.Test.YtiheggkkgbfndaaGreatDoorK12
namespace Go.Proofs.YtiheggkkgbfndaaGreatDoor
open Go.RowKit Go.Joins Go.ChangeShapes Go.WideShapes Go.Deep
set_option linter.unusedVariables false
set_option linter.unusedSimpArgs false
set_option maxRecDepth 100000
def ListRd {α : Type} (W : World) (C : Nat) (enc : α → List Value) (l : List α) (v : Value) : Prop := ∃ R c, v = .slice R l.length c ∧ l.length ≤ 9223372036854775807 ∧ Reads W C 1 R l.length (rows enc l)
structure LinesRd (W : World) (C : Nat) (l : List PLine) (lv : Value) : Prop where
 le : l.length ≤ 9223372036854775807
 rd : ∃ R c vs, lv = .slice R l.length c ∧ vs.length = l.length ∧ Reads W C 2 R l.length (rows lnC (l.zip vs)) ∧ ∀ (i : Nat) x v, l[i]? = some x → vs[i]? = some v → ListRd W C natC x.thr v
theorem ListRd.below {α : Type} {W W' : World} {C : Nat} {enc : α → List Value} {l : List α} {v : Value} (h : ListRd W C enc l v) (hb : Below C W W') : ListRd W' C enc l v := by
 obtain ⟨R, c, h1, h2, h3⟩ := h
 exact ⟨R, c, h1, h2, h3.below hb⟩
theorem ListRd.more {α : Type} {W : World} {C C' : Nat} {enc : α → List Value} {l : List α} {v : Value} (h : ListRd W C enc l v) (hC : C ≤ C') : ListRd W C' enc l v := by
 obtain ⟨R, c, h1, h2, h3⟩ := h
 exact ⟨R, c, h1, h2, h3.more hC⟩
theorem LinesRd.below {W W' : World} {C : Nat} {l : List PLine} {lv : Value} (h : LinesRd W C l lv) (hb : Below C W W') : LinesRd W' C l lv := by
 obtain ⟨h0, R, c, vs, h1, h2, h3, h4⟩ := h
 exact ⟨h0, R, c, vs, h1, h2, h3.below hb, fun i x v hx hv => (h4 i x v hx hv).below hb⟩
theorem LinesRd.more {W : World} {C C' : Nat} {l : List PLine} {lv : Value} (h : LinesRd W C l lv) (hC : C ≤ C') : LinesRd W C' l lv := by
 obtain ⟨h0, R, c, vs, h1, h2, h3, h4⟩ := h
 exact ⟨h0, R, c, vs, h1, h2, h3.more hC, fun i x v hx hv => (h4 i x v hx hv).more hC⟩
theorem own_maxlen {w : World} {base e size n : Nat} {v : Value} {xs : List Value} (h : w.ownsRow base e size v n xs) : n ≤ 9223372036854775807 := by
 rcases h.2 with ⟨_, rfl⟩ | ⟨g, cap, cur, _, _, _, hnc, hcm, _⟩
 ·omega
 ·unfold maxLen at hcm; omega
theorem ListRd.of_own {α : Type} {w : World} {B e : Nat} {enc : α → List Value} {l : List α} {v : Value} (h : w.ownsRow B e 1 v l.length (rows enc l)) : ListRd w w.heap.size enc l v := by
 obtain ⟨R, c, rfl, _, hR⟩ := own_shapes h
 exact ⟨R, c, rfl, own_maxlen h, hR⟩
theorem zip_maps {α β : Type} : ∀ L : List (α × β), (L.map (·.1)).zip (L.map (·.2)) = L
 | [] => rfl
 | a :: r => by rw [List.map_cons, List.map_cons, List.zip_cons_cons, zip_maps r]
theorem lnC_len (x : PLine × Value) : (lnC x).length = 2 := rfl
theorem SetAt.lines_rd {B : Nat} {w : World} {x : SSt} {rv pv tv lv : Value} {T : List (Value × List (PJob × Value))} {L : List (PLine × Value)} (h : SetAt B w x rv pv tv lv T L) : LinesRd w w.heap.size x.lines lv := by
 obtain ⟨R, c, rfl, _, hR⟩ := own_shapes h.lines
 have hl : L.length = x.lines.length := h.lens.2
 have hz : x.lines.zip (L.map (·.2)) = L := by
  rw [← h.linesEq]
  exact zip_maps L
 refine ⟨by rw [← hl]; exact own_maxlen h.lines, R, c, L.map (·.2), by rw [hl], by rw [List.length_map, hl], by rw [hz, ← hl]; exact hR, fun i y v hy hv => ?_⟩
 rw [← h.linesEq, List.getElem?_map] at hy
 rw [List.getElem?_map] at hv
 cases hL : L[i]? with
 | none => rw [hL] at hy; cases hy
 | some z =>
  rw [hL] at hy hv
  injection hy with hy
  injection hv with hv
  subst hy hv
  exact ListRd.of_own (h.steps.own (z.2, z.1.thr) (List.mem_map.2 ⟨z, List.mem_of_getElem? hL, rfl⟩))
theorem line_cells {W : World} {C n : Nat} {R : Option Addr} {l : List PLine} {vs : List Value} (h : Reads W C 2 R n (rows lnC (l.zip vs))) (hv : vs.length = l.length) (hl : l.length = n) (hn : 0 < n) :
  ∃ b off, R = some ⟨b, off, none⟩ ∧ b < C ∧ ∀ (i : Nat) x v, l[i]? = some x → vs[i]? = some v → W.cell? ⟨b, off + i * 2, none⟩ = some (.int .i64 (x.kind : Int)) ∧ W.cell? ⟨b, off + i * 2 + 1, none⟩ = some v := by
 obtain ⟨b, off, rfl, hb, hc⟩ := reads_flat h hn (by omega)
 refine ⟨b, off, rfl, hb, fun i x v hx hvx => ?_⟩
 have hi : i < l.length := (List.getElem?_eq_some_iff.1 hx).1
 have hzi : (l.zip vs)[i]? = some (x, v) := by
  rw [List.getElem?_zip_eq_some]
  exact ⟨hx, hvx⟩
 have hil : i < (l.zip vs).length := (List.getElem?_eq_some_iff.1 hzi).1
 have hze : (l.zip vs)[i] = (x, v) := (List.getElem?_eq_some_iff.1 hzi).2
 have h0 := rows_at lnC 2 lnC_len (l.zip vs) i 0 hil (by omega)
 have h1 := rows_at lnC 2 lnC_len (l.zip vs) i 1 hil (by omega)
 rw [hze] at h0 h1
 exact ⟨by have := hc (i * 2 + 0) _ h0; simpa using this, by have := hc (i * 2 + 1) _ h1; simpa [Nat.add_assoc] using this⟩
set_option maxHeartbeats 2000000 in
theorem lines_same (l : List PLine) (C : Nat) (lv lv' : Value) (w : World) (hC : C ≤ w.heap.size) (hL : LinesRd w C l lv) (hL' : LinesRd w C l lv') :
  Calls Tryz.prog 12 #[lv, lv'] w fun e w' => e = .returned (.bool true) ∧ ∃ m, w' = w.drewN m := by
 obtain ⟨hle, R, c, vs, rfl, hvl, hR, hT⟩ := hL
 obtain ⟨_, R', c', vs', rfl, hvl', hR', hT'⟩ := hL'
 obtain ⟨n, hn⟩ : ∃ n, n = l.length := ⟨_, rfl⟩
 rw [← hn] at hR hR' hle ⊢
 by_cases hn0 : 0 < n
 ·obtain ⟨b, off, rfl, hb, hc⟩ := line_cells hR hvl hn.symm hn0
  obtain ⟨b', off', rfl, hb', hc'⟩ := line_cells hR' hvl' hn.symm hn0
  have HL := Lib.hid hn
  have HCL : Hid (∀ i, i < n → ∃ (x : PLine) (v v' : Value), ∀ k, (w.drewN k).cell? ⟨b, off + i * 2, none⟩ = some (.int .i64 (x.kind : Int)) ∧ (w.drewN k).cell? ⟨b, off + i * 2 + 1, none⟩ = some v ∧ (w.drewN k).cell? ⟨b', off' + i * 2, none⟩ = some (.int .i64 (x.kind : Int)) ∧ (w.drewN k).cell? ⟨b', off' + i * 2 + 1, none⟩ = some v' ∧ Calls Tryz.prog 25 #[v, v'] (w.drewN k) fun e w' => e = .returned (.bool true) ∧ ∃ m, w' = (w.drewN k).drewN m) := Lib.hid fun i hi => by
   obtain ⟨x, hx⟩ : ∃ x, l[i]? = some x := ⟨_, List.getElem?_eq_getElem (by omega)⟩
   obtain ⟨v, hv⟩ : ∃ v, vs[i]? = some v := ⟨_, List.getElem?_eq_getElem (by omega)⟩
   obtain ⟨v', hv'⟩ : ∃ v, vs'[i]? = some v := ⟨_, List.getElem?_eq_getElem (by omega)⟩
   refine ⟨x, v, v', fun k => ⟨(hc i x v hx hv).1, (hc i x v hx hv).2, (hc' i x v' hx hv').1, (hc' i x v' hx hv').2, ?_⟩⟩
   obtain ⟨S, d, rfl, g1, g2⟩ := hT i x v hx hv
   obtain ⟨S', d', rfl, _, g2'⟩ := hT' i x v' hx hv'
   exact ints_same x.thr x.thr.length d d' C S S' (w.drewN k) rfl g1 hC (g2.drewN k) (g2'.drewN k)
  have hbl : b < w.heap.size := Nat.lt_of_lt_of_le hb hC
  have hbl' : b' < w.heap.size := Nat.lt_of_lt_of_le hb' hC
  clear hR hR' hc hc' hT hT' hb hb' hC hn hvl hvl'
  go_enter Tryz.func12, Tryz.ntmps12
  go_upto_region 4 with fail
  go_loopg [5, 6] n (fun gk iv _ W => ∃ i : Nat, iv = .int .i64 i ∧ i ≤ n ∧ gk + i = n ∧ Hid (∃ k, W = w.drewN k))
  case atStart => exact ⟨0, rfl, Nat.zero_le _, rfl, Lib.hid ⟨0, rfl⟩⟩
  case round =>
   obtain ⟨i, rfl, hi, hgk, HW⟩ := hrel
   have HG := Lib.hid hgk
   clear hgk
   by_cases hil : i < n
   ·have e1 : decide ((i : Int) < (n : Int)) = true := decide_eq_true (by omega)
    have e2 : decide (i < n) = true := decide_eq_true hil
    have e3 : (i : Int) < (n : Int) := by omega
    obtain ⟨k, hk⟩ := HW.out
    obtain ⟨x, v, v', hall⟩ := HCL.out i hil
    have c1 : wr.cell? ⟨b, off + i * 2, none⟩ = some (.int .i64 (x.kind : Int)) := by rw [hk]; exact (hall k).1
    have c2 : wr.cell? ⟨b, off + i * 2 + 1, none⟩ = some v := by rw [hk]; exact (hall k).2.1
    have c3 : wr.cell? ⟨b', off' + i * 2, none⟩ = some (.int .i64 (x.kind : Int)) := by rw [hk]; exact (hall k).2.2.1
    have c4 : wr.cell? ⟨b', off' + i * 2 + 1, none⟩ = some v' := by rw [hk]; exact (hall k).2.2.2.1
    have HIN : Hid (∀ m, Calls Tryz.prog 25 #[v, v'] (wr.drewN m) fun e w' => e = .returned (.bool true) ∧ ∃ j, w' = (wr.drewN m).drewN j) := Lib.hid fun m => by
     have h1 := (hall (k + m)).2.2.2.2
     rw [hk, World.drewN_drewN]
     exact h1
    have hbr : b < wr.heap.size := by rw [hk]; exact hbl
    have hbr' : b' < wr.heap.size := by rw [hk]; exact hbl'
    have q1 : ((x.kind : Int) != (x.kind : Int)) = false := by simp
    have zw : IntKind.i64.wrap ((i : Int) + 1) = (i : Int) + 1 := by rw [IntKind.wrap_i64]; omega
    have HK := Lib.hid hk
    clear hk hall
    go_upto_region 6 with fail
    go_quiet ((go_at_call 25; exact Calls.quiet_of (HIN.out _)))
    go_upto_region 7 with fail
    go_quiet (fail)
    go_wp2
    go_roundg (n - (i + 1))
    case measure => have := HG.out; omega
    case rel => exact ⟨i + 1, by simp, by omega, by omega, Lib.hid ⟨_, by rw [HK.out, World.drewN_drewN]⟩⟩
   ·have e1 : decide ((i : Int) < (n : Int)) = false := decide_eq_false (by omega)
    have e2 : decide (i < n) = false := decide_eq_false hil
    go_wp2
    go_ret
    exact ⟨rfl, HW.out⟩
 ·obtain rfl : n = 0 := by omega
  clear hR hR' hT hT' hC hn hvl hvl'
  go_enter Tryz.func12, Tryz.ntmps12
  go_upto_region 4 with fail
  go_loopg [5, 6] 0 (fun gk iv _ W => iv = .int .i64 0 ∧ W = w)
  case atStart => exact ⟨rfl, rfl⟩
  case round =>
   obtain ⟨rfl, rfl⟩ := hrel
   go_wp2
   go_ret
   exact ⟨rfl, 0, rfl⟩
end Go.Proofs.YtiheggkkgbfndaaGreatDoor
namespace Go.Proofs.YtiheggkkgbfndaaGreatDoor
open Go Go.Lib
set_option linter.unusedVariables false
set_option linter.unusedSimpArgs false
theorem split_row : ∀ (l : List Int) (w : List UInt8), (32 : UInt8) ∉ w → splitF 32 (w ++ l.flatMap fun n => 32 :: itoa n) = w :: l.map itoa
 | [], w, h => by
  rw [List.flatMap_nil, List.append_nil]
  exact split_last w h
 | n :: l, w, h => by
  rw [List.flatMap_cons, List.cons_append, split_word w _ h, split_row l (itoa n) (itoa_no n).1]
  rfl
theorem row_no10 (l : List Int) : (10 : UInt8) ∉ l.flatMap fun n => 32 :: itoa n := by
 intro h
 obtain ⟨n, _, h⟩ := List.mem_flatMap.1 h
 rcases List.mem_cons.1 h with h | h
 ·cases h
 ·exact (itoa_no n).2.1 h
theorem maxI_eq : maxI = 9223372036854775807 := rfl
theorem minI_eq : minI = -9223372036854775808 := rfl
def i64I (v : Int) : Prop := minI ≤ v ∧ v ≤ maxI
theorem numIn_nat {v : Int} (h1 : 0 ≤ v) (h2 : v ≤ maxI) : numIn (itoa v) 0 maxI = some v := numIn_itoa h1 h2 (by rw [minI_eq]; omega) (Int.le_refl _)
/-! the first line -/
def configW (c : Cfg) : List UInt8 := wConfig ++ 32 :: (itoa c.raw ++ 32 :: (itoa c.ring ++ 32 :: (itoa c.writes ++ 32 :: (itoa c.stamps ++ 32 :: (itoa c.tries ++ 32 :: (if c.multi then wMulti else wSingle))))))
theorem configT_eq (c : Cfg) (r : List UInt8) : configT c ++ r = configW c ++ 10 :: r := by
 unfold configT configW
 simp [List.append_assoc]
theorem configL_text (c : Cfg) (l : List Reg) (h : cfgOk c l) : configL (configW c) = some c ∧ (10 : UInt8) ∉ configW c := by
 obtain ⟨raw, ring, writes, stamps, multi, tries⟩ := c
 obtain ⟨h1, h2, h3, h4, h5, h6, h7, h8, h9, h10, _⟩ := h
 simp only at h1 h2 h3 h4 h5 h6 h7 h8 h9 h10
 have hw : (32 : UInt8) ∉ (if multi then wMulti else wSingle) := by cases multi <;> decide
 have hsp : splitF 32 (configW ⟨raw, ring, writes, stamps, multi, tries⟩) = [wConfig, itoa raw, itoa ring, itoa writes, itoa stamps, itoa tries, if multi then wMulti else wSingle] := by
  unfold configW
  simp only
  rw [split_word _ _ (by decide), split_word _ _ (itoa_no raw).1, split_word _ _ (itoa_no ring).1, split_word _ _ (itoa_no writes).1, split_word _ _ (itoa_no stamps).1, split_word _ _ (itoa_no tries).1, split_last _ hw]
 constructor
 ·unfold configL
  rw [hsp]
  simp only
  rw [if_pos ⟨trivial, by cases multi <;> simp⟩, numIn_nat (by omega) (by rw [maxI_eq]; omega), numIn_nat (by omega) (by rw [maxI_eq]; omega), numIn_nat (by omega) (by rw [maxI_eq]; omega), numIn_nat (by omega) (by rw [maxI_eq]; omega), numIn_nat (by omega) (by rw [maxI_eq]; omega)]
  simp only
  cases multi <;> rfl
 ·have hn : ∀ v, (10 : UInt8) ∉ itoa v := fun v => (itoa_no v).2.1
  unfold configW
  cases multi <;> simp [List.mem_append, List.mem_cons, hn, wConfig, wMulti, wSingle]
/-! regions -/
theorem kinds_ok : ∀ k, k < 4 → (32 : UInt8) ∉ kindsL.getD k [] ∧ (10 : UInt8) ∉ kindsL.getD k [] ∧ kindF (kindsL.getD k []) = some (k + 1) := by decide
theorem looks_ok : ∀ k, k < 6 → (10 : UInt8) ∉ looksL.getD k [] ∧ splitF 32 (looksL.getD k []) = [looksL.getD k []] ∧ lookF (looksL.getD k []) = some (k + 2) ∧ looksL.getD k [] ≠ wRegion ∧ looksL.getD k [] ≠ wThread ∧ looksL.getD k [] ≠ wJob ∧ looksL.getD k [] ≠ wRun ∧ looksL.getD k [] ≠ wProgram := by decide
theorem goL_region {pos part : Nat} {x : SSt} {r : Reg} {t : List UInt8} (hp : part ≤ 1) (hr : regOk r) : ∃ pos', goL pos part x (regionT r ++ t) = goL pos' 1 { x with set := { x.set with regs := x.set.regs ++ [r] } } t := by
 obtain ⟨kind, cap⟩ := r
 obtain ⟨h1, h2, h3, h4⟩ := hr
 simp only at h1 h2 h3 h4
 obtain ⟨k, rfl⟩ : ∃ k : Nat, kind = (k : Int) + 1 := ⟨(kind - 1).toNat, by omega⟩
 obtain ⟨k1, k2, k3⟩ := kinds_ok k (by omega)
 have hidx : ((k : Int) + 1).toNat - 1 = k := by omega
 obtain ⟨l, hl⟩ : ∃ l, l = wRegion ++ 32 :: (kindsL.getD k [] ++ [cap].flatMap fun n => 32 :: itoa n) := ⟨_, rfl⟩
 have e : regionT ⟨(k : Int) + 1, cap⟩ ++ t = l ++ 10 :: t := by
  rw [hl]
  unfold regionT rowT
  simp only [hidx]
  simp [List.append_assoc]
 have hsp : splitF 32 l = [wRegion, kindsL.getD k [], itoa cap] := by
  rw [hl, split_word _ _ (by decide), split_row [cap] _ k1]
  rfl
 have h10 : (10 : UInt8) ∉ l := by
  rw [hl]
  intro h
  rcases List.mem_append.1 h with h | h
  ·exact absurd h (by decide)
  ·rcases List.mem_cons.1 h with h | h
   ·cases h
   ·rcases List.mem_append.1 h with h | h
    ·exact k2 h
    ·exact row_no10 [cap] h
 have hnum := numIn_nat (v := cap) h3 (by rw [maxI_eq]; omega)
 have hs : plainL x l (splitF 32 l) = .ok { x with set := { x.set with regs := x.set.regs ++ [⟨(k : Int) + 1, cap⟩] } } := by
  rw [hsp]
  unfold plainL
  rw [if_pos (show [wRegion, kindsL.getD k [], itoa cap].head? = some wRegion from rfl)]
  unfold regionL
  simp only [hnum, k3]
  rfl
 have hwp : l ≠ wProgram := by
  intro h
  rw [h] at hsp
  have : splitF 32 wProgram = [wProgram] := by decide
  rw [this] at hsp
  simp at hsp
 have hpt : partL ((splitF 32 l).head?.getD []) = 1 := by
  rw [hsp]
  show partL wRegion = 1
  decide
 refine ⟨pos + l.length + 1, ?_⟩
 rw [e, goL_line h10 (by rw [hpt]; exact hp) hwp hs, hpt]
theorem goL_regions : ∀ (l : List Reg) (pos part : Nat) (x : SSt) (t : List UInt8), part ≤ 1 → (∀ r ∈ l, regOk r) → ∃ pos' part', part' ≤ 1 ∧ goL pos part x (l.flatMap regionT ++ t) = goL pos' part' { x with set := { x.set with regs := x.set.regs ++ l } } t
 | [], pos, part, x, t, hp, _ => ⟨pos, part, hp, by simp⟩
 | r :: l, pos, part, x, t, hp, h => by
  obtain ⟨p1, h1⟩ := goL_region (pos := pos) (x := x) (t := l.flatMap regionT ++ t) hp (h r (by simp))
  obtain ⟨p2, q2, h2, h3⟩ := goL_regions l p1 1 { x with set := { x.set with regs := x.set.regs ++ [r] } } t (Nat.le_refl _) fun y hy => h y (List.mem_cons_of_mem _ hy)
  refine ⟨p2, q2, h2, ?_⟩
  rw [List.flatMap_cons, List.append_assoc, h1, h3]
  simp [List.append_assoc]
/-! programs -/
theorem bodyL_lines : ∀ (ls : List (List UInt8)) (f : Nat) (r : List UInt8), (∀ l ∈ ls, (10 : UInt8) ∉ l ∧ l ≠ wEnd) → ls.length < f → bodyL f ((ls.flatMap fun l => l ++ [10]) ++ (wEnd ++ 10 :: r)) = some (ls.flatMap fun l => l ++ [10], r)
 | [], 0, r, _, h => absurd h (by omega)
 | [], f + 1, r, _, _ => by
  rw [List.flatMap_nil, List.nil_append, bodyL, nextL_line wEnd r (by decide)]
  rfl
 | l :: ls, 0, r, _, h => absurd h (by omega)
 | l :: ls, f + 1, r, hl, h => by
  obtain ⟨h1, h2⟩ := hl l (by simp)
  have e : ((l :: ls).flatMap fun l => l ++ [10]) ++ (wEnd ++ 10 :: r) = l ++ 10 :: ((ls.flatMap fun l => l ++ [10]) ++ (wEnd ++ 10 :: r)) := by
   rw [List.flatMap_cons]
   simp [List.append_assoc]
  rw [e, bodyL, nextL_line l _ h1]
  simp only
  rw [if_neg h2, bodyL_lines ls f r (fun y hy => hl y (List.mem_cons_of_mem _ hy)) (by simpa using h)]
  simp [List.append_assoc]
theorem words_end : ∀ c, c < 41 → wordsB.getD c [] ≠ wEnd := by decide
theorem raw_end (L : List AOp) (hL : Enc L) : ∀ l ∈ rawTo L L.length ++ lbl L (sizeF L), (10 : UInt8) ∉ l ∧ l ≠ wEnd := by
 have hlbl : ∀ p, ∀ l ∈ lbl L p, l ≠ wEnd := by
  intro p l hl
  unfold lbl at hl
  split at hl
  ·obtain rfl := List.mem_singleton.1 hl
   intro h
   unfold labW wEnd at h
   rw [List.cons_append] at h
   injection h with h
   cases h
  ·cases hl
 intro l hl
 rcases List.mem_append.1 hl with hl | hl
 ·refine ⟨raw_no10 L hL _ (Nat.le_refl _) l hl, ?_⟩
  obtain ⟨i, hi, hl⟩ := List.mem_flatMap.1 hl
  have hi' := List.mem_range.1 hi
  rcases List.mem_append.1 hl with hl | hl
  ·exact hlbl _ l hl
  ·obtain rfl := List.mem_singleton.1 hl
   have hc := (hL L[i] (List.getElem_mem _)).1
   have e : L.getD i ⟨0, 0⟩ = L[i] := by rw [List.getD_eq_getElem?_getD, List.getElem?_eq_getElem (by omega)]; rfl
   rw [e]
   have hw := words_end _ hc
   intro h
   have hopr : oprF L i = [] ∨ ∃ r, oprF L i = 32 :: r := by
    unfold oprF
    split
    ·exact .inr ⟨_, rfl⟩
    ·split
     ·exact .inr ⟨_, rfl⟩
     ·exact .inl rfl
   rcases hopr with ho | ⟨r, ho⟩
   ·rw [ho, List.append_nil] at h
    exact hw h
   ·rw [ho] at h
    have : (32 : UInt8) ∈ wEnd := by rw [← h]; simp
    exact absurd this (by decide)
 ·exact ⟨lbl_no10 L _ l hl, hlbl _ l hl⟩
theorem goL_program {pos part : Nat} {x : SSt} {L : List AOp} {t : List UInt8} (hp : part ≤ 2) (hn : x.set.progs.length < 16) (hL : Enc L) (hs : sizeF L ≤ 512) :
  ∃ pos', goL pos part x (progT (printF L) ++ t) = goL pos' 2 { x with set := { x.set with progs := x.set.progs ++ [bytesOf L] } } t := by
 have e : progT (printF L) ++ t = wProgram ++ 10 :: (printF L ++ wEnd ++ 10 :: t) := by
  unfold progT
  simp [List.append_assoc]
 rw [e]
 have ht := print_text L
 refine goL_prog hp (by omega) ?_ (parse_print hL hs)
 rw [ht, List.append_assoc]
 refine bodyL_lines _ _ t (raw_end L hL) ?_
 have hlen : ∀ ls : List (List UInt8), ls.length ≤ (ls.flatMap fun l => l ++ [10]).length := by
  intro ls
  induction ls with
  | nil => exact Nat.le_refl _
  | cons l ls ih =>
   rw [List.flatMap_cons, List.length_append, List.length_append, List.length_cons, List.length_cons]
   omega
 have := hlen (rawTo L L.length ++ lbl L (sizeF L))
 have h2 : ∀ a b : List UInt8, (a ++ b).length = a.length + b.length := fun _ _ => List.length_append
 rw [h2]
 omega
theorem goL_programs : ∀ (l : List (List AOp)) (pos part : Nat) (x : SSt) (t : List UInt8), part ≤ 2 → x.set.progs.length + l.length ≤ 16 → (∀ L ∈ l, Enc L ∧ sizeF L ≤ 512) → ∃ pos' part', part' ≤ 2 ∧ goL pos part x ((l.map printF).flatMap progT ++ t) = goL pos' part' { x with set := { x.set with progs := x.set.progs ++ l.map bytesOf } } t
 | [], pos, part, x, t, hp, _, _ => ⟨pos, part, hp, by simp⟩
 | L :: l, pos, part, x, t, hp, hn, h => by
  obtain ⟨g1, g2⟩ := h L (by simp)
  obtain ⟨p1, h1⟩ := goL_program (pos := pos) (x := x) (t := (l.map printF).flatMap progT ++ t) hp (by rw [List.length_cons] at hn; omega) g1 g2
  obtain ⟨p2, q2, h2, h3⟩ := goL_programs l p1 2 { x with set := { x.set with progs := x.set.progs ++ [bytesOf L] } } t (Nat.le_refl _) (by simp only [List.length_append, List.length_cons, List.length_nil] at hn ⊢; omega) fun y hy => h y (List.mem_cons_of_mem _ hy)
  refine ⟨p2, q2, h2, ?_⟩
  rw [List.map_cons, List.flatMap_cons, List.append_assoc, h1, h3]
  simp [List.append_assoc]
/-! jobs -/
theorem argsL_text : ∀ (l : List Int), (∀ v ∈ l, i64I v) → argsL (l.map itoa) = some l
 | [], _ => rfl
 | v :: l, h => by
  obtain ⟨h1, h2⟩ := h v (by simp)
  rw [List.map_cons, argsL, numIn_itoa h1 h2 (Int.le_refl _) (Int.le_refl _), argsL_text l fun y hy => h y (List.mem_cons_of_mem _ hy)]
def jobOk (n : Nat) (j : PJob) : Prop := j.prog < n ∧ j.args.length ≤ 4 ∧ ∀ v ∈ j.args, i64I v
def withThr (x : SSt) (thr : List (List PJob)) : SSt := { x with set := { x.set with thr := thr } }
theorem partL_wThread : partL ((splitF 32 wThread).head?.getD []) = 3 := by decide
theorem goL_job {pos part : Nat} {x : SSt} {T : List (List PJob)} {d : List PJob} {j : PJob} {t : List UInt8} (hp : part ≤ 3) (hT : x.set.thr = T ++ [d]) (hd : d.length < 32) (hn : x.set.progs.length ≤ 16) (hj : jobOk x.set.progs.length j) :
  ∃ pos', goL pos part x (jobT j ++ t) = goL pos' 3 (withThr x (T ++ [d ++ [j]])) t := by
 obtain ⟨prog, args⟩ := j
 obtain ⟨h1, h2, h3⟩ := hj
 simp only at h1 h2 h3
 obtain ⟨l, hl⟩ : ∃ l, l = wJob ++ (((prog : Int) :: args).flatMap fun n => 32 :: itoa n) := ⟨_, rfl⟩
 have e : jobT ⟨prog, args⟩ ++ t = l ++ 10 :: t := by
  rw [hl]
  unfold jobT rowT
  rw [List.append_assoc _ [10] t]
  rfl
 have hsp : splitF 32 l = wJob :: itoa (prog : Int) :: args.map itoa := by
  rw [hl, split_row _ _ (by decide)]
  rfl
 have h10 : (10 : UInt8) ∉ l := by
  rw [hl]
  intro h
  rcases List.mem_append.1 h with h | h
  ·exact absurd h (by decide)
  ·exact row_no10 _ h
 have hne : ∀ w, (32 : UInt8) ∉ w → l ≠ w := by
  intro w hw h
  rw [h, split_last w hw] at hsp
  simp at hsp
 have hnum := numIn_nat (v := (prog : Int)) (by omega) (by rw [maxI_eq]; omega)
 have hlast : (T ++ [d]).getLast?.getD [] = d := by simp
 have hs : plainL x l (splitF 32 l) = .ok (withThr x (T ++ [d ++ [⟨prog, args⟩]])) := by
  rw [hsp]
  unfold plainL
  rw [if_neg (by simp [wJob, wRegion]), if_neg (hne wThread (by decide)), if_pos (show (wJob :: itoa (prog : Int) :: args.map itoa).head? = some wJob from rfl)]
  unfold jobL
  simp only [hT, hnum, argsL_text args h3, hlast]
  rw [if_neg (by simp), if_neg (by omega), if_neg (by omega)]
  simp only
  unfold addJob withThr
  simp
 have hpt : partL ((splitF 32 l).head?.getD []) = 3 := by rw [hsp]; rfl
 refine ⟨pos + l.length + 1, ?_⟩
 rw [e, goL_line h10 (by rw [hpt]; exact hp) (hne wProgram (by decide)) hs, hpt]
theorem goL_jobs : ∀ (l : List PJob) (pos part : Nat) (x : SSt) (T : List (List PJob)) (d : List PJob) (t : List UInt8), part ≤ 3 → x.set.thr = T ++ [d] → d.length + l.length ≤ 32 → x.set.progs.length ≤ 16 → (∀ j ∈ l, jobOk x.set.progs.length j) →
  ∃ pos' part', part' ≤ 3 ∧ goL pos part x (l.flatMap jobT ++ t) = goL pos' part' (withThr x (T ++ [d ++ l])) t
 | [], pos, part, x, T, d, t, hp, hT, _, _, _ => by
  refine ⟨pos, part, hp, ?_⟩
  rw [List.append_nil, ← hT]
  rfl
 | j :: l, pos, part, x, T, d, t, hp, hT, hd, hn, h => by
  obtain ⟨p1, h1⟩ := goL_job (pos := pos) (x := x) (t := l.flatMap jobT ++ t) hp hT (by rw [List.length_cons] at hd; omega) hn (h j (by simp))
  obtain ⟨p2, q2, h2, h3⟩ := goL_jobs l p1 3 (withThr x (T ++ [d ++ [j]])) T (d ++ [j]) t (Nat.le_refl _) rfl (by simp only [List.length_append, List.length_cons, List.length_nil] at hd ⊢; omega) hn fun y hy => h y (List.mem_cons_of_mem _ hy)
  refine ⟨p2, q2, h2, ?_⟩
  rw [List.flatMap_cons, List.append_assoc, h1, h3]
  simp [withThr, List.append_assoc]
theorem goL_thread {pos part : Nat} {x : SSt} {l : List PJob} {t : List UInt8} (hp : part ≤ 3) (ht : x.set.thr.length < 8) (hl : l.length ≤ 32) (hn : x.set.progs.length ≤ 16) (h : ∀ j ∈ l, jobOk x.set.progs.length j) :
  ∃ pos' part', part' ≤ 3 ∧ goL pos part x (threadT l ++ t) = goL pos' part' (withThr x (x.set.thr ++ [l])) t := by
 have e : threadT l ++ t = wThread ++ 10 :: (l.flatMap jobT ++ t) := by
  unfold threadT
  simp [List.append_assoc]
 have hs : plainL x wThread (splitF 32 wThread) = .ok (withThr x (x.set.thr ++ [[]])) := by
  unfold plainL
  rw [if_neg (by decide), if_pos rfl, if_neg (by omega)]
  rfl
 obtain ⟨p2, q2, h2, h3⟩ := goL_jobs l (pos + wThread.length + 1) 3 (withThr x (x.set.thr ++ [[]])) x.set.thr [] t (Nat.le_refl _) rfl (by simpa using hl) hn h
 refine ⟨p2, q2, h2, ?_⟩
 rw [e, goL_line (by decide) (by rw [partL_wThread]; exact hp) (by decide) hs, partL_wThread, h3]
 rfl
theorem goL_threads : ∀ (T : List (List PJob)) (pos part : Nat) (x : SSt) (t : List UInt8), part ≤ 3 → x.set.thr.length + T.length ≤ 8 → x.set.progs.length ≤ 16 → (∀ l ∈ T, l.length ≤ 32 ∧ ∀ j ∈ l, jobOk x.set.progs.length j) →
  ∃ pos' part', part' ≤ 3 ∧ goL pos part x (T.flatMap threadT ++ t) = goL pos' part' (withThr x (x.set.thr ++ T)) t
 | [], pos, part, x, t, hp, _, _, _ => by
  refine ⟨pos, part, hp, ?_⟩
  rw [List.append_nil]
  rfl
 | l :: T, pos, part, x, t, hp, ht, hn, h => by
  obtain ⟨g1, g2⟩ := h l (by simp)
  obtain ⟨p1, q1, h0, h1⟩ := goL_thread (pos := pos) (x := x) (t := T.flatMap threadT ++ t) hp (by rw [List.length_cons] at ht; omega) g1 hn g2
  obtain ⟨p2, q2, h2, h3⟩ := goL_threads T p1 q1 (withThr x (x.set.thr ++ [l])) t h0 (by simp only [withThr, List.length_append, List.length_cons, List.length_nil] at ht ⊢; omega) hn fun y hy => h y (List.mem_cons_of_mem _ hy)
  refine ⟨p2, q2, h2, ?_⟩
  rw [List.flatMap_cons, List.append_assoc, h1, h3]
  simp [withThr, List.append_assoc]
/-! steps -/
theorem runsF_ok : ∀ (l : List Nat), spread (runsF l) = l ∧ manyF (runsF l) = l.length ∧ (∀ x ∈ runsF l, x.1 ∈ l ∧ 1 ≤ x.2 ∧ x.2 ≤ l.length) ∧ (l ≠ [] → runsF l ≠ [])
 | [] => ⟨rfl, rfl, by simp [runsF], fun h => absurd rfl h⟩
 | a :: l => by
  obtain ⟨h1, h2, h3, h4⟩ := runsF_ok l
  unfold runsF
  cases hr : runsF l with
  | nil =>
   have hl : l = [] := by
    cases l with
    | nil => rfl
    | cons b l => exact absurd hr (h4 (by simp))
   subst hl
   refine ⟨rfl, rfl, ?_, by simp⟩
   intro x hx
   obtain rfl := List.mem_singleton.1 hx
   simp
  | cons y r =>
   obtain ⟨b, k⟩ := y
   rw [hr] at h1 h2 h3
   have hh := h3 (b, k) (by simp)
   simp only at hh
   by_cases hab : a = b
   ·subst hab
    simp only [if_true]
    refine ⟨?_, ?_, ?_, by simp⟩
    ·rw [← h1]
     unfold spread
     rw [List.flatMap_cons, List.flatMap_cons, List.replicate_succ]
     rfl
    ·unfold manyF at h2 ⊢
     rw [List.length_cons, ← h2, List.map_cons, List.map_cons, List.sum_cons, List.sum_cons]
     simp only
     omega
    ·intro x hx
     rcases List.mem_cons.1 hx with e | e
     ·subst e
      exact ⟨by simp, by simp, by simpa using hh.2.2⟩
     ·obtain ⟨g1, g2, g3⟩ := h3 x (List.mem_cons_of_mem _ e)
      exact ⟨List.mem_cons_of_mem _ g1, g2, by rw [List.length_cons]; omega⟩
   ·simp only [if_neg hab]
    refine ⟨?_, ?_, ?_, by simp⟩
    ·rw [← h1]
     unfold spread
     rw [List.flatMap_cons, List.flatMap_cons]
     rfl
    ·unfold manyF at h2 ⊢
     rw [List.length_cons, ← h2, List.map_cons, List.sum_cons]
     simp only
     omega
    ·intro x hx
     rcases List.mem_cons.1 hx with e | e
     ·subst e
      exact ⟨by simp, by simp, by simp⟩
     ·obtain ⟨g1, g2, g3⟩ := h3 x e
      exact ⟨List.mem_cons_of_mem _ g1, g2, by rw [List.length_cons]; omega⟩
theorem cutAt_none : ∀ (u : List UInt8), (42 : UInt8) ∉ u → cutAt 42 u = none
 | [], _ => rfl
 | c :: u, h => by
  have hc : c ≠ 42 := fun e => h (by simp [e])
  rw [cutAt, if_neg hc, cutAt_none u fun e => h (by simp [e])]
  rfl
theorem cutAt_some : ∀ (u r : List UInt8), (42 : UInt8) ∉ u → cutAt 42 (u ++ 42 :: r) = some (u, r)
 | [], r, _ => rfl
 | c :: u, r, h => by
  have hc : c ≠ 42 := fun e => h (by simp [e])
  rw [List.cons_append, cutAt, if_neg hc, cutAt_some u r fun e => h (by simp [e])]
  rfl
def itemW (x : Nat × Nat) : List UInt8 := itoa (x.1 : Int) ++ if 1 < x.2 then 42 :: itoa (x.2 : Int) else []
theorem itemW_no (x : Nat × Nat) : (32 : UInt8) ∉ itemW x ∧ (10 : UInt8) ∉ itemW x := by
 have h1 := itoa_no (x.1 : Int)
 have h2 := itoa_no (x.2 : Int)
 unfold itemW
 constructor
 ·intro h
  rcases List.mem_append.1 h with h | h
  ·exact h1.1 h
  ·split at h
   ·rcases List.mem_cons.1 h with h | h
    ·cases h
    ·exact h2.1 h
   ·cases h
 ·intro h
  rcases List.mem_append.1 h with h | h
  ·exact h1.2.1 h
  ·split at h
   ·rcases List.mem_cons.1 h with h | h
    ·cases h
    ·exact h2.2.1 h
   ·cases h
theorem itemL_text (x : Nat × Nat) (h1 : x.1 ≤ 99) (h2 : 1 ≤ x.2) (h3 : x.2 ≤ 20000) : itemL (itemW x) = some x := by
 obtain ⟨a, k⟩ := x
 simp only at h1 h2 h3
 have hn := numIn_itoa (v := (a : Int)) (lo := 0) (hi := 99) (by omega) (by omega) (by rw [minI_eq]; omega) (by rw [maxI_eq]; omega)
 unfold itemL itemW
 by_cases hk : 1 < k
 ·simp only [if_pos hk]
  rw [cutAt_some _ _ (itoa_no _).2.2]
  simp only
  rw [hn, numIn_itoa (v := (k : Int)) (lo := 2) (hi := 20000) (by omega) (by omega) (by rw [minI_eq]; omega) (by rw [maxI_eq]; omega)]
  simp only [Int.toNat_natCast]
 ·simp only [if_neg hk]
  rw [List.append_nil, cutAt_none _ (itoa_no _).2.2]
  simp only
  rw [hn]
  have : k = 1 := by omega
  subst this
  simp only [Option.map_some, Int.toNat_natCast]
theorem itemsL_text : ∀ (l : List (Nat × Nat)), (∀ x ∈ l, x.1 ≤ 99 ∧ 1 ≤ x.2 ∧ x.2 ≤ 20000) → itemsL (l.map itemW) = some l
 | [], _ => rfl
 | x :: l, h => by
  obtain ⟨h1, h2, h3⟩ := h x (by simp)
  rw [List.map_cons, itemsL, itemL_text x h1 h2 h3, itemsL_text l fun y hy => h y (List.mem_cons_of_mem _ hy)]
theorem split_items : ∀ (l : List (Nat × Nat)) (w : List UInt8), (32 : UInt8) ∉ w → splitF 32 (w ++ l.flatMap itemT) = w :: l.map itemW
 | [], w, h => by
  rw [List.flatMap_nil, List.append_nil]
  exact split_last w h
 | x :: l, w, h => by
  have e : itemT x = 32 :: itemW x := rfl
  rw [List.flatMap_cons, e, List.cons_append, split_word w _ h, split_items l (itemW x) (itemW_no x).1]
  rfl
theorem items_no10 (l : List (Nat × Nat)) : (10 : UInt8) ∉ l.flatMap itemT := by
 intro h
 obtain ⟨x, _, h⟩ := List.mem_flatMap.1 h
 have e : itemT x = 32 :: itemW x := rfl
 rw [e] at h
 rcases List.mem_cons.1 h with h | h
 ·cases h
 ·exact (itemW_no x).2 h
/-! lines -/
def lineOk (x : PLine) : Prop := (x.kind = 1 ∧ x.thr ≠ [] ∧ ∀ t ∈ x.thr, t ≤ 99) ∨ (2 ≤ x.kind ∧ x.kind ≤ 7 ∧ x.thr = [])
def withLines (x : SSt) (l : List PLine) (n : Nat) : SSt := ⟨x.set, l, n⟩
def stepsN (l : List PLine) : Nat := (l.map fun x => x.thr.length).sum
theorem goL_oneLine {pos part : Nat} {x : SSt} {p : PLine} {t : List UInt8} (hp : part ≤ 4) (h : lineOk p) (hn : x.steps + p.thr.length ≤ 20000) :
  ∃ pos', goL pos part x (lineT p ++ t) = goL pos' 4 (withLines x (x.lines ++ [p]) (x.steps + p.thr.length)) t := by
 obtain ⟨kind, thr⟩ := p
 rcases h with ⟨h1, h2, h3⟩ | ⟨h1, h2, h3⟩
 ·simp only at h1 h2 h3 hn
  subst h1
  obtain ⟨r1, r2, r3, r4⟩ := runsF_ok thr
  have r4 := r4 h2
  obtain ⟨l, hl⟩ : ∃ l, l = wRun ++ (runsF thr).flatMap itemT := ⟨_, rfl⟩
  have e : lineT ⟨1, thr⟩ ++ t = l ++ 10 :: t := by
   rw [hl]
   unfold lineT stepsT
   rw [if_pos rfl]
   simp only
   rw [List.append_assoc _ [10] t]
   rfl
  have hsp : splitF 32 l = wRun :: (runsF thr).map itemW := by rw [hl, split_items _ _ (by decide)]
  have h10 : (10 : UInt8) ∉ l := by
   rw [hl]
   intro h
   rcases List.mem_append.1 h with h | h
   ·exact absurd h (by decide)
   ·exact items_no10 _ h
  have hne : ∀ w, (32 : UInt8) ∉ w → l ≠ w := by
   intro w hw h
   rw [h, split_last w hw] at hsp
   injection hsp with _ hsp
   have := List.map_eq_nil_iff.1 hsp.symm
   exact r4 this
  have hit := itemsL_text (runsF thr) fun x hx => by
   obtain ⟨g1, g2, g3⟩ := r3 x hx
   exact ⟨h3 _ g1, g2, by omega⟩
  have hs : plainL x l (splitF 32 l) = .ok (withLines x (x.lines ++ [⟨1, thr⟩]) (x.steps + thr.length)) := by
   rw [hsp]
   unfold plainL
   rw [if_neg (by simp [wRun, wRegion]), if_neg (hne wThread (by decide)), if_neg (by simp [wRun, wJob]), if_pos (show (wRun :: (runsF thr).map itemW).head? = some wRun from rfl)]
   unfold runL
   cases hc : runsF thr with
   | nil => exact absurd hc r4
   | cons i is =>
    rw [hc] at hit r1 r2
    rw [List.map_cons] at hit ⊢
    simp only [hit]
    rw [if_neg (by omega), r1, r2]
    rfl
  have hpt : partL ((splitF 32 l).head?.getD []) = 4 := by
   rw [hsp]
   show partL wRun = 4
   decide
  refine ⟨pos + l.length + 1, ?_⟩
  rw [e, goL_line h10 (by rw [hpt]; exact hp) (hne wProgram (by decide)) hs, hpt]
 ·simp only at h1 h2 h3 hn
  subst h3
  obtain ⟨k, rfl⟩ : ∃ k, kind = k + 2 := ⟨kind - 2, by omega⟩
  obtain ⟨l1, l2, l3, l4, l5, l6, l7, l8⟩ := looks_ok k (by omega)
  have e : lineT ⟨k + 2, []⟩ ++ t = looksL.getD k [] ++ 10 :: t := by
   unfold lineT
   rw [if_neg (by simp)]
   simp only [Nat.add_sub_cancel]
   rw [List.append_assoc]
   rfl
  have hs : plainL x (looksL.getD k []) (splitF 32 (looksL.getD k [])) = .ok (withLines x (x.lines ++ [⟨k + 2, []⟩]) (x.steps + 0)) := by
   rw [l2]
   unfold plainL
   rw [if_neg (by simpa using l4), if_neg l5, if_neg (by simpa using l6), if_neg (by simpa using l7), l3]
   rfl
  have hpt : partL ((splitF 32 (looksL.getD k [])).head?.getD []) = 4 := by
   rw [l2]
   unfold partL
   simp only [List.head?_cons, Option.getD_some]
   refine (if_neg l4).trans ((if_neg l8).trans (if_neg fun h => ?_))
   rcases h with h | h
   ·exact l5 h
   ·exact l6 h
  refine ⟨pos + (looksL.getD k []).length + 1, ?_⟩
  rw [e, goL_line l1 (by rw [hpt]; exact hp) l8 hs, hpt]
  rfl
theorem goL_lines : ∀ (l : List PLine) (pos part : Nat) (x : SSt), part ≤ 4 → x.steps + stepsN l ≤ 20000 → (∀ p ∈ l, lineOk p) → goL pos part x (l.flatMap lineT) = .ok (withLines x (x.lines ++ l) (x.steps + stepsN l))
 | [], pos, part, x, _, _, _ => by
  rw [List.append_nil]
  rfl
 | p :: l, pos, part, x, hp, hn, h => by
  have e : stepsN (p :: l) = p.thr.length + stepsN l := by simp [stepsN]
  rw [e] at hn ⊢
  obtain ⟨p1, h1⟩ := goL_oneLine (pos := pos) (t := l.flatMap lineT) hp (h p (by simp)) (x := x) (by omega)
  rw [List.flatMap_cons, h1, goL_lines l p1 4 _ (Nat.le_refl _) (by simp only [withLines]; omega) fun y hy => h y (List.mem_cons_of_mem _ hy)]
  simp [withLines, List.append_assoc, Nat.add_assoc]
/-! ### all of it -/
structure SetOk (s : PSet) (ps : List (List AOp)) (l : List PLine) : Prop where
 cfg : cfgOk s.cfg s.regs
 thr : s.thr.length ≤ 8
 progs : s.progs = ps.map bytesOf
 many : ps.length ≤ 16
 enc : ∀ L ∈ ps, Enc L ∧ sizeF L ≤ 512
 jobs : ∀ t ∈ s.thr, t.length ≤ 32 ∧ ∀ j ∈ t, jobOk s.progs.length j
 lines : ∀ p ∈ l, lineOk p
 steps : stepsN l ≤ 20000
theorem parse_text {s : PSet} {ps : List (List AOp)} {l : List PLine} (h : SetOk s ps l) (ht : (textS s (ps.map printF) l).length ≤ 65535) : parseS (textS s (ps.map printF) l) = .ok ⟨s, l, stepsN l⟩ := by
 obtain ⟨r, hr⟩ : ∃ r, r = s.regs.flatMap regionT ++ ((ps.map printF).flatMap progT ++ (s.thr.flatMap threadT ++ l.flatMap lineT)) := ⟨_, rfl⟩
 have e : textS s (ps.map printF) l = configW s.cfg ++ 10 :: r := by
  rw [← configT_eq, hr]
  unfold textS
  simp only [List.append_assoc]
 rw [e] at ht ⊢
 obtain ⟨c1, c2⟩ := configL_text s.cfg s.regs h.cfg
 unfold parseS
 rw [if_neg (by omega), nextL_line _ r c2]
 simp only [c1]
 have hregs : ∀ r ∈ s.regs, regOk r := by
  obtain ⟨_, _, _, _, _, _, _, _, _, _, hc⟩ := h.cfg
  first
   | exact hc.2
   | exact hc.1
   | exact hc
   | exact fun r hr => (hc.2 r hr)
 have hgo : goesL (r.length + 1) ((configW s.cfg).length + 1) 1 ⟨⟨s.cfg, [], [], []⟩, [], 0⟩ r = .ok ⟨s, l, stepsN l⟩ := by
  show goL ((configW s.cfg).length + 1) 1 ⟨⟨s.cfg, [], [], []⟩, [], 0⟩ r = _
  rw [hr]
  obtain ⟨p1, q1, hq1, e1⟩ := goL_regions s.regs ((configW s.cfg).length + 1) 1 ⟨⟨s.cfg, [], [], []⟩, [], 0⟩ ((ps.map printF).flatMap progT ++ (s.thr.flatMap threadT ++ l.flatMap lineT)) (Nat.le_refl _) hregs
  rw [e1]
  obtain ⟨p2, q2, hq2, e2⟩ := goL_programs ps p1 q1 ⟨⟨s.cfg, [] ++ s.regs, [], []⟩, [], 0⟩ (s.thr.flatMap threadT ++ l.flatMap lineT) (by omega) (by simpa using h.many) h.enc
  rw [e2]
  have hpl : (([] : List (List UInt8)) ++ ps.map bytesOf).length = s.progs.length := by rw [h.progs]; rfl
  obtain ⟨p3, q3, hq3, e3⟩ := goL_threads s.thr p2 q2 ⟨⟨s.cfg, [] ++ s.regs, [] ++ ps.map bytesOf, []⟩, [], 0⟩ (l.flatMap lineT) (by omega) (by simpa using h.thr) (by simpa using h.many) (by
   intro t ht
   obtain ⟨g1, g2⟩ := h.jobs t ht
   refine ⟨g1, fun j hj => ?_⟩
   show jobOk (([] : List (List UInt8)) ++ ps.map bytesOf).length j
   rw [hpl]
   exact g2 j hj)
  rw [e3, goL_lines l p3 q3 _ (by omega) (by simpa [withThr] using h.steps) h.lines]
  have : s = ⟨s.cfg, s.regs, ps.map bytesOf, s.thr⟩ := by rw [← h.progs]
  rw [this]
  simp [withThr, withLines]
 rw [hgo]
 simp only
 rw [if_pos h.cfg]
end Go.Proofs.YtiheggkkgbfndaaGreatDoor
