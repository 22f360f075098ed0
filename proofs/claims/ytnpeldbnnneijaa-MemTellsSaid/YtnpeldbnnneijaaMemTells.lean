/- Proves Rows.MemTellsSaid: for every input 'carousellaw03.MemTells' returns true and each argument reads behind the call as it read before. Conditions: none beyond the row's own. -/
import Derived.Test.YtnpeldbnnneijaaMsh
import Derived.Test.YtnpeldbnnneijaaMarg
namespace Go.Proofs.Ytnpeldbnnneijaa.memTells
open Go.RowKit Go.Joins Go.ChangeShapes Go.WideShapes Go.ChangeAt Go.Deep
set_option linter.unusedVariables false
set_option maxRecDepth 100000

theorem walk_no (c r k i j : Int) (A : Option Addr) (n nc : Nat) (w : World) (hno : ¬ (1 ≤ c ∧ c ≤ 1024 ∧ 1 ≤ r ∧ r ≤ 16)) :
    Calls Try.prog 3 #[.agg #[.int .i64 c, .int .i64 r, .slice A n nc, .int .i64 k, .int .i64 i, .int .i64 j]] w fun e w' => e = .returned (.bool true) ∧ Below w.heap.size w w' := by
  have HNO := Lib.hid hno
  clear hno
  go_enter Try.func3, Try.ntmps3
  go_wp2_with fail
  refine (shown_any _).mono ?_
  rintro e w1 ⟨rfl, hb⟩
  go_wp2_with fail
  refine (takes_no c r _ HNO.out).mono ?_
  rintro e w2 ⟨rfl, rfl⟩
  go_wp2_with fail
  go_ret
  exact ⟨rfl, (by refine Below.trans ?_ (hb.mono (by first | (simp; done) | (simp; omega))); repeat (first | with_reducible exact Below.refl _ _ | with_reducible refine Below.drew ?_ | ((with_reducible refine Below.alloc ?_ ?_ _); (rotate_left; focus (first | with_reducible exact Nat.le_refl _ | (simp; done) | (simp; omega) | (simp [World.setCell]; done) | (simp [World.setCell]; omega)))) | ((with_reducible refine Below.setCell ?_ ?_ _); (rotate_left; focus (first | with_reducible exact Nat.le_refl _ | (simp; done) | (simp; omega) | (simp [World.setCell]; done) | (simp [World.setCell]; omega))))))⟩

def Rel1 (w : World) (base b gh gs gc : Nat) (cs bs : Array Value) (m0 : MS) (n : Nat) (gk : Nat) (i : Value) (wr : World) : Prop :=
  ∃ (q : Nat) (lv : Value) (m : MS), i = .int .i64 q ∧ q ≤ n ∧ gk = n - q ∧ MIs wr base b gh gs gc lv m ∧ Told m0 m ∧ m.log.length ≤ q ∧ Blk wr w.heap.size 26 cs ∧ Blk wr (w.heap.size + 1) 24 bs ∧ Below w.heap.size w wr

theorem acts_flat {w : World} {B n : Nat} {A : Option Addr} {l : List Actz} (h : Reads w B 8 A n (acts l)) (hn : 0 < n) :
    ∃ b off, A = some ⟨b, off, none⟩ ∧ b < B ∧ ∀ j u, (acts l)[j]? = some u → w.cell? ⟨b, off + j, none⟩ = some u := by
  obtain ⟨ad, rfl, hb, hc⟩ := h.2 hn
  obtain ⟨b, off, spot⟩ := ad
  have hl : 0 < (acts l).length := by have := h.1; omega
  have h0 := hc 0 _ (List.getElem?_eq_getElem hl)
  have hs : spot = none := by simpa [Addr.add] using World.cell?_spot h0
  subst hs
  refine ⟨b, off, rfl, hb, fun j u hu => ?_⟩
  have := hc j u hu
  unfold Addr.add at this
  by_cases hj : j = 0
  · subst hj
    simpa using this
  · rw [if_neg hj] at this
    exact this

theorem peek_gen {w : World} {base b gh gs gc : Nat} {lv : Value} {m : MS} (h : MIs w base b gh gs gc lv m) (k i j : Int) :
    Calls Try.prog 9 #[.pointer (some ⟨b, 0, none⟩), .agg #[.int .i64 k, .int .i64 i, .int .i64 j]] w fun e w' =>
      ∃ z1 z2 : Int, Hid (z1 = (wordAt m k i j).getD 0) ∧ Hid (z2 = if (wordAt m k i j).isSome = true then 0 else 1) ∧ e = .returned (.tuple #[.int .i64 z1, .int .i64 z2]) ∧ Below w.heap.size w w' :=
  (peek_any h k i j).mono fun e w' ⟨he, hb⟩ => ⟨_, _, Lib.hid rfl, Lib.hid rfl, he, hb⟩

theorem tell_cons {k i j : Int} {x : Acc} {l : List Acc} {wd f : Int} (h : tell k i j (x :: l) wd = some f) :
    (¬ (x.k = k ∧ x.i = i ∧ x.j = j) ∧ tell k i j l wd = some f) ∨ ((x.k = k ∧ x.i = i ∧ x.j = j) ∧ ((x.kind = 1 ∧ x.value = wd ∧ tell k i j l wd = some f) ∨ (x.kind = 2 ∧ tell k i j l x.value = some f) ∨
      (x.kind = 3 ∧ x.yes = true ∧ x.old = wd ∧ tell k i j l x.value = some f) ∨ (x.kind = 3 ∧ x.yes = false ∧ x.old ≠ wd ∧ tell k i j l wd = some f) ∨ (x.kind ≠ 1 ∧ x.kind ≠ 2 ∧ x.kind ≠ 3 ∧ tell k i j l wd = some f))) := by
  unfold tell at h
  by_cases ha : x.k = k ∧ x.i = i ∧ x.j = j
  · right
    refine ⟨ha, ?_⟩
    rw [if_neg (fun hn => hn ha)] at h
    by_cases hbad : (x.kind = 1 ∧ x.value ≠ wd) ∨ (x.kind = 3 ∧ x.yes ≠ decide (x.old = wd))
    · rw [if_pos hbad] at h; cases h
    · rw [if_neg hbad] at h
      by_cases h1 : x.kind = 1
      · left
        rw [if_neg (by omega)] at h
        exact ⟨h1, Classical.byContradiction fun hv => hbad (.inl ⟨h1, hv⟩), h⟩
      · by_cases h2 : x.kind = 2
        · right; left
          rw [if_pos (.inl h2)] at h
          exact ⟨h2, h⟩
        · by_cases h3 : x.kind = 3
          · right; right
            have hy : x.yes = decide (x.old = wd) := Classical.byContradiction fun hv => hbad (.inr ⟨h3, hv⟩)
            by_cases ho : x.old = wd
            · left
              have hy' : x.yes = true := by rw [hy]; simp [ho]
              rw [if_pos (.inr ⟨h3, hy'⟩)] at h
              exact ⟨h3, hy', ho, h⟩
            · right; left
              have hy' : x.yes = false := by rw [hy]; simp [ho]
              rw [if_neg (by rw [hy']; simp [h2])] at h
              exact ⟨h3, hy', ho, h⟩
          · right; right; right; right
            rw [if_neg (by omega)] at h
            exact ⟨h1, h2, h3, h⟩
  · left
    rw [if_pos ha] at h
    exact ⟨ha, h⟩

def Rel2 (w : World) (base base2 b gh gs gc : Nat) (lv v : Value) (m : MS) (k i j fin : Int) (bs : Array Value) (gk : Nat) (wv iv : Value) (wr : World) : Prop :=
  ∃ (q : Nat) (wd : Int), wv = .int .i64 wd ∧ iv = .int .i64 q ∧ q ≤ m.log.length ∧ gk = m.log.length - q ∧ tell k i j (m.log.drop q) wd = some fin ∧ MIs wr base b gh gs gc lv m ∧
    wr.ownsRow base2 44 8 v m.log.length (accs m.log) ∧ Blk wr (w.heap.size + 1) 24 bs ∧ Below w.heap.size w wr

set_option maxHeartbeats 4000000 in
theorem walk_yes (C R : Nat) (k i j : Int) (A : Option Addr) (n nc : Nat) (l : List Actz) (w : World) (hl : l.length = n) (hn : n * 64 ≤ 140737488351232) (hc1 : 1 ≤ C) (hc2 : C ≤ 1024) (hr1 : 1 ≤ R) (hr2 : R ≤ 16) (hA : Reads w w.heap.size 8 A n (acts l)) :
    Calls Try.prog 3 #[.agg #[.int .i64 C, .int .i64 R, .slice A n nc, .int .i64 k, .int .i64 i, .int .i64 j]] w fun e w' => e = .returned (.bool true) ∧ Below w.heap.size w w' := by
  have HL := Lib.hid hl
  clear hl
  go_enter Try.func3, Try.ntmps3
  go_wp2_with fail
  refine (shown_any _).mono ?_
  rintro e w1 ⟨rfl, hb⟩
  have hB1 : Blk w1 w.heap.size 26 #[.int .i64 C, .int .i64 R, .slice A n nc, .int .i64 k, .int .i64 i, .int .i64 j] := ((Blk.new w _ _).alloc _).below hb (by simp; omega)
  have hA1 : Blk w1 (w.heap.size + 1) 24 #[.int .i64 k, .int .i64 i, .int .i64 j] := (Blk.new' (by simp)).below hb (by simp)
  have hbel1 : Below w.heap.size w w1 := (by refine Below.trans ?_ (hb.mono (by first | (simp; done) | (simp; omega))); repeat (first | with_reducible exact Below.refl _ _ | with_reducible refine Below.drew ?_ | ((with_reducible refine Below.alloc ?_ ?_ _); (rotate_left; focus (first | with_reducible exact Nat.le_refl _ | (simp; done) | (simp; omega) | (simp [World.setCell]; done) | (simp [World.setCell]; omega)))) | ((with_reducible refine Below.setCell ?_ ?_ _); (rotate_left; focus (first | with_reducible exact Nat.le_refl _ | (simp; done) | (simp; omega) | (simp [World.setCell]; done) | (simp [World.setCell]; omega))))))
  have hs1 := hb.size
  clear hb
  go_wp2_with fail
  refine (takes_yes C R _ ⟨by omega, by omega, by omega, by omega⟩).mono ?_
  rintro e w2 ⟨rfl, rfl⟩
  go_wp2_with fail
  refine (new_yes C R w1 hc1 hc2 hr1 hr2).mono ?_
  rintro e w2 ⟨b, gh, gs, gc, rfl, hM2, hb2⟩
  have hs1' : w.heap.size + 2 ≤ w1.heap.size := by simpa using hs1
  have hB2 := hB1.below hb2 hB1.lt
  have hA2 := hA1.below hb2 hA1.lt
  have hbel2 := hbel1.trans (hb2.mono hbel1.size)
  have a0 : w2.cell? ⟨w.heap.size + 1, 0, none⟩ = some (.int .i64 k) := (hA2.cell 0).trans rfl
  have a1 : w2.cell? ⟨w.heap.size + 1, 1, none⟩ = some (.int .i64 i) := (hA2.cell 1).trans rfl
  have a2 : w2.cell? ⟨w.heap.size + 1, 2, none⟩ = some (.int .i64 j) := (hA2.cell 2).trans rfl
  clear hB1 hA1 hbel1 hb2 hs1
  go_wp2_with fail
  refine (peek_any hM2 k i j).mono ?_
  rintro e w3 ⟨rfl, hb3⟩
  have hM3 := hM2.below hb3
  have hB3 := hB2.below hb3 hB2.lt
  have hA3 := hA2.below hb3 hA2.lt
  have hbel3 := hbel2.trans (hb3.mono hbel2.size)
  clear hM2 hB2 hA2 hbel2 hb3 a0 a1 a2
  obtain ⟨beg, hbeg⟩ : ∃ z, z = (wordAt (newM C R) k i j).getD 0 := ⟨_, rfl⟩
  obtain ⟨ec, hec⟩ : ∃ z : Int, z = (if (wordAt (newM C R) k i j).isSome = true then 0 else 1) := ⟨_, rfl⟩
  rw [← hbeg, ← hec]
  have HBEG := Lib.hid hbeg
  have HEC := Lib.hid hec
  clear hbeg hec
  go_wp2_with fail
  go_loopg [13] n (fun gk iv wr => Rel1 w w1.heap.size b gh gs gc #[.int .i64 C, .int .i64 R, .slice A n nc, .int .i64 k, .int .i64 i, .int .i64 j] #[.int .i64 k, .int .i64 i, .int .i64 j] (newM C R) n gk iv wr)
  case atStart => exact ⟨0, _, _, rfl, Nat.zero_le _, rfl, hM3, Told.start rfl, Nat.le_refl _, hB3, hA3, hbel3⟩
  case round =>
    clear hM3 hB3 hA3 hbel3
    obtain ⟨q, lv, m, rfl, hq, hgk, hM, hT, hlog, hB, hA4, hbel⟩ := hrel
    have HG := Lib.hid hgk
    have HT := Lib.hid hT
    clear hgk hT
    have hsz := hbel.size
    have hBl := hB.lt
    have hAl := hA4.lt
    by_cases hqn : q < n
    · have hql : q < l.length := by rw [HL.out]; exact hqn
      obtain ⟨lb, lo, rfl, hlb, hlc⟩ := acts_flat hA (by omega)
      obtain ⟨X, hX⟩ : ∃ X, X = l[q] := ⟨_, rfl⟩
      have hx : ∀ t u, t < 8 → X.cells[t]? = some u → wr.cell? ⟨lb, lo + q * 8 + t, none⟩ = some u := by
        intro t u ht hu
        rw [hX, ← acts_at l q t hql ht] at hu
        rw [Nat.add_assoc]
        exact (hbel.cell (p := ⟨lb, lo + (q * 8 + t), none⟩) hlb).trans (hlc _ _ hu)
      obtain ⟨kd, th, xk, xi, xj, ol, vl, xn⟩ := X
      have x0 : wr.cell? ⟨lb, lo + q * 8, none⟩ = some (.int .i64 kd) := hx 0 _ (by omega) rfl
      have x1 : wr.cell? ⟨lb, lo + q * 8 + 1, none⟩ = some (.int .i64 th) := hx 1 _ (by omega) rfl
      have x2 : wr.cell? ⟨lb, lo + q * 8 + 2, none⟩ = some (.int .i64 xk) := hx 2 _ (by omega) rfl
      have x3 : wr.cell? ⟨lb, lo + q * 8 + 3, none⟩ = some (.int .i64 xi) := hx 3 _ (by omega) rfl
      have x4 : wr.cell? ⟨lb, lo + q * 8 + 4, none⟩ = some (.int .i64 xj) := hx 4 _ (by omega) rfl
      have x5 : wr.cell? ⟨lb, lo + q * 8 + 5, none⟩ = some (.int .i64 ol) := hx 5 _ (by omega) rfl
      have x6 : wr.cell? ⟨lb, lo + q * 8 + 6, none⟩ = some (.int .i64 vl) := hx 6 _ (by omega) rfl
      have x7 : wr.cell? ⟨lb, lo + q * 8 + 7, none⟩ = some (.int .i64 xn) := hx 7 _ (by omega) rfl
      have hlbr : lb < wr.heap.size := by omega
      clear hlc hX hx
      by_cases h1 : kd = 1
      · subst h1
        cases hw : wordAt m xk xi xj with
        | none =>
          have HW := Lib.hid hw
          clear hw
          go_wp2_with fail
          refine (load_no (hM.alloc _) th xk xi xj HW.out).mono ?_
          rintro e w5 ⟨rfl, hb5⟩
          go_wp2_with fail
          go_roundg (n - (q + 1))
          case measure => have := HG.out; omega
          case rel => exact ⟨q + 1, lv, m, by go_num, by omega, rfl, (hM.alloc _).below hb5, HT.out, by omega, (hB.alloc _).below hb5 (hB.alloc _).lt, (hA4.alloc _).below hb5 (hA4.alloc _).lt, (hbel.alloc hbel.size _).trans (hb5.mono (by simp; omega))⟩
        | some V =>
          have HW := Lib.hid hw
          clear hw
          go_wp2_with fail
          refine (load_yes (hM.alloc _) th xk xi xj V HW.out (by omega)).mono ?_
          rintro e w5 ⟨lv5, rfl, hM5, hf5⟩
          have hb5 := hf5.below (hM.alloc _)
          go_wp2_with fail
          go_roundg (n - (q + 1))
          case measure => have := HG.out; omega
          case rel => exact ⟨q + 1, lv5, _, by go_num, by omega, rfl, hM5, HT.out.load HW.out, by simp [withLog, setAt_log]; omega, (hB.alloc _).below hb5 (by omega), (hA4.alloc _).below hb5 (by omega), (hbel.alloc hbel.size _).trans (hb5.mono (by omega))⟩
      by_cases h2 : kd = 2
      · subst h2
        clear h1
        cases hw : wordAt m xk xi xj with
        | none =>
          have HW := Lib.hid hw
          clear hw
          go_wp2_with fail
          refine (store_no (hM.alloc _) th xk xi xj vl HW.out).mono ?_
          rintro e w5 ⟨rfl, hb5⟩
          go_wp2_with fail
          go_roundg (n - (q + 1))
          case measure => have := HG.out; omega
          case rel => exact ⟨q + 1, lv, m, by go_num, by omega, rfl, (hM.alloc _).below hb5, HT.out, by omega, (hB.alloc _).below hb5 (hB.alloc _).lt, (hA4.alloc _).below hb5 (hA4.alloc _).lt, (hbel.alloc hbel.size _).trans (hb5.mono (by simp; omega))⟩
        | some V =>
          have HW := Lib.hid hw
          clear hw
          go_wp2_with fail
          refine (store_yes (hM.alloc _) th xk xi xj vl V HW.out (by omega)).mono ?_
          rintro e w5 ⟨lv5, rfl, hM5, hf5⟩
          have hb5 := hf5.below (hM.alloc _)
          go_wp2_with fail
          go_roundg (n - (q + 1))
          case measure => have := HG.out; omega
          case rel => exact ⟨q + 1, lv5, _, by go_num, by omega, rfl, hM5, HT.out.write HW.out ⟨rfl, rfl, rfl⟩ rfl (.inl rfl), by simp [withLog, setAt_log]; omega, (hB.alloc _).below hb5 (by omega), (hA4.alloc _).below hb5 (by omega), (hbel.alloc hbel.size _).trans (hb5.mono (by omega))⟩
      by_cases h3 : kd = 3
      · subst h3
        clear h1 h2
        cases hw : wordAt m xk xi xj with
        | none =>
          have HW := Lib.hid hw
          clear hw
          go_wp2_with fail
          refine (swap_no (hM.alloc _) th xk xi xj ol vl HW.out).mono ?_
          rintro e w5 ⟨rfl, hb5⟩
          go_wp2_with fail
          go_roundg (n - (q + 1))
          case measure => have := HG.out; omega
          case rel => exact ⟨q + 1, lv, m, by go_num, by omega, rfl, (hM.alloc _).below hb5, HT.out, by omega, (hB.alloc _).below hb5 (hB.alloc _).lt, (hA4.alloc _).below hb5 (hA4.alloc _).lt, (hbel.alloc hbel.size _).trans (hb5.mono (by simp; omega))⟩
        | some V =>
          have HW := Lib.hid hw
          clear hw
          by_cases hov : V = ol
          · subst hov
            go_wp2_with fail
            refine (swap_yes (hM.alloc _) th xk xi xj vl V HW.out (by omega)).mono ?_
            rintro e w5 ⟨lv5, rfl, hM5, hf5⟩
            have hb5 := hf5.below (hM.alloc _)
            go_wp2_with fail
            go_roundg (n - (q + 1))
            case measure => have := HG.out; omega
            case rel => exact ⟨q + 1, lv5, _, by go_num, by omega, rfl, hM5, HT.out.write HW.out ⟨rfl, rfl, rfl⟩ rfl (.inr ⟨rfl, rfl, rfl⟩), by simp [withLog, setAt_log]; omega, (hB.alloc _).below hb5 (by omega), (hA4.alloc _).below hb5 (by omega), (hbel.alloc hbel.size _).trans (hb5.mono (by omega))⟩
          · have hne : (V == ol) = false := by simp [hov]
            have HOV := Lib.hid hov
            clear hov
            go_wp2_with fail
            refine (swap_keep (hM.alloc _) th xk xi xj ol vl V HW.out hne (by omega)).mono ?_
            rintro e w5 ⟨lv5, rfl, hM5, hf5⟩
            have hb5 := hf5.below (hM.alloc _)
            go_wp2_with fail
            go_roundg (n - (q + 1))
            case measure => have := HG.out; omega
            case rel => exact ⟨q + 1, lv5, _, by go_num, by omega, rfl, hM5, HT.out.swapNo HW.out ⟨rfl, rfl, rfl⟩ rfl rfl (fun e => HOV.out e.symm), by simp [withLog, setAt_log]; omega, (hB.alloc _).below hb5 (by omega), (hA4.alloc _).below hb5 (by omega), (hbel.alloc hbel.size _).trans (hb5.mono (by omega))⟩
      by_cases h4 : kd = 4
      · subst h4
        clear h1 h2 h3
        go_wp2_with fail
        refine (peek_gen (hM.alloc _) xk xi xj).mono ?_
        rintro e w5 ⟨z1, z2, _, _,rfl, hb5⟩
        go_wp2_with fail
        go_roundg (n - (q + 1))
        case measure => have := HG.out; omega
        case rel => exact ⟨q + 1, lv, m, by go_num, by omega, rfl, (hM.alloc _).below hb5, HT.out, by omega, (hB.alloc _).below hb5 (hB.alloc _).lt, (hA4.alloc _).below hb5 (hA4.alloc _).lt, (hbel.alloc hbel.size _).trans (hb5.mono (by simp; omega))⟩
      · have e1 : (kd == 1) = false := by simp [h1]
        have e2 : (kd == 2) = false := by simp [h2]
        have e3 : (kd == 3) = false := by simp [h3]
        have e4 : (kd == 4) = false := by simp [h4]
        clear h1 h2 h3 h4
        go_wp2_with fail
        go_roundg (n - (q + 1))
        case measure => have := HG.out; omega
        case rel => exact ⟨q + 1, lv, m, by go_num, by omega, rfl, hM.alloc _, HT.out, by omega, hB.alloc _, hA4.alloc _, hbel.alloc hbel.size _⟩
    · obtain rfl : q = n := by omega
      clear hqn hA
      obtain ⟨nl, hnl⟩ : ∃ z, z = m.log.length := ⟨_, rfl⟩
      have HNL := Lib.hid hnl
      go_wp2_with fail
      refine (log_any hM (by omega)).mono ?_
      rintro e w6 ⟨v6, rfl, hown6, hb6⟩
      obtain ⟨R6, c6, rfl⟩ : ∃ R c, v6 = .slice R nl c := by
        rw [hnl]
        rcases hown6.2 with ⟨h, h0⟩ | ⟨g, cap, cur, h, _⟩
        · exact ⟨none, 0, by rw [h, h0]⟩
        · exact ⟨_, cap, h⟩
      have hM6 := hM.below hb6
      have hA6 := hA4.below hb6 hAl
      have hbel6 := hbel.trans (hb6.mono hsz)
      have htell : tell k i j (m.log.drop 0) beg = some ((wordAt m k i j).getD 0) := by rw [List.drop_zero, HBEG.out]; exact HT.out.2 k i j
      have HTELL := Lib.hid htell
      have hnl2 : nl ≤ 2199023255488 := by omega
      clear hM hB hA4 hbel hb6 htell hnl hsz hBl hAl
      go_wp2_with fail
      go_loopg [16, 17] nl (fun gk wv iv wr2 => Rel2 w w1.heap.size wr.heap.size b gh gs gc lv (.slice R6 nl c6) m k i j ((wordAt m k i j).getD 0) #[.int .i64 k, .int .i64 i, .int .i64 j] gk wv iv wr2)
      case atStart => exact ⟨0, beg, rfl, rfl, Nat.zero_le _, by rw [HNL.out]; rfl, HTELL.out, hM6, hown6, hA6, hbel6⟩
      case round =>
        clear hM6 hown6 hA6 hbel6
        obtain ⟨t, wd, rfl, rfl, ht, hgt, htl, hM7, hown7, hA7, hbel7⟩ := hrel
        rw [← HNL.out] at ht hgt hown7
        have HGT := Lib.hid hgt
        have HTL := Lib.hid htl
        have hAl7 := hA7.lt
        have hsz7 := hbel7.size
        have a0 : wr.cell? ⟨w.heap.size + 1, 0, none⟩ = some (.int .i64 k) := (hA7.cell 0).trans rfl
        have a1 : wr.cell? ⟨w.heap.size + 1, 1, none⟩ = some (.int .i64 i) := (hA7.cell 1).trans rfl
        have a2 : wr.cell? ⟨w.heap.size + 1, 2, none⟩ = some (.int .i64 j) := (hA7.cell 2).trans rfl
        clear hgt htl
        by_cases htn : t < nl
        · obtain ⟨g, cap, hv6, hg6, hgl⟩ := hown7.form (by omega)
          injection hv6 with j1 j2 j3
          subst j1 j3
          have htl2 : t < m.log.length := by rw [← HNL.out]; exact htn
          have hx : ∀ s u, s < 8 → (m.log[t].cells)[s]? = some u → wr.cell? ⟨g, t * 8 + s, none⟩ = some u := by
            intro s u hs hu
            rw [hown7.cellAt (t * 8 + s) (by omega), show t * 8 + s = 8 * t + s by omega, accs_at m.log t s htl2 hs]
            exact hu
          have htl3 := HTL.out
          rw [List.drop_eq_getElem_cons htl2] at htl3
          obtain ⟨X, hX⟩ : ∃ X, X = m.log[t] := ⟨_, rfl⟩
          rw [← hX] at hx htl3
          obtain ⟨th, kd, xk, xi, xj, ol, vl, ys⟩ := X
          have x0 : wr.cell? ⟨g, t * 8, none⟩ = some (.int .i64 th) := hx 0 _ (by omega) rfl
          have x1 : wr.cell? ⟨g, t * 8 + 1, none⟩ = some (.int .i64 kd) := hx 1 _ (by omega) rfl
          have x2 : wr.cell? ⟨g, t * 8 + 2, none⟩ = some (.int .i64 xk) := hx 2 _ (by omega) rfl
          have x3 : wr.cell? ⟨g, t * 8 + 3, none⟩ = some (.int .i64 xi) := hx 3 _ (by omega) rfl
          have x4 : wr.cell? ⟨g, t * 8 + 4, none⟩ = some (.int .i64 xj) := hx 4 _ (by omega) rfl
          have x5 : wr.cell? ⟨g, t * 8 + 5, none⟩ = some (.int .i64 ol) := hx 5 _ (by omega) rfl
          have x6 : wr.cell? ⟨g, t * 8 + 6, none⟩ = some (.int .i64 vl) := hx 6 _ (by omega) rfl
          have x7 : wr.cell? ⟨g, t * 8 + 7, none⟩ = some (.bool ys) := hx 7 _ (by omega) rfl
          clear hX hx
          rcases tell_cons htl3 with ⟨hne, hgo⟩ | ⟨⟨e0, e1, e2⟩, hkinds⟩
          · simp only at hne
            clear htl3
            by_cases g0 : xk = k
            · subst g0
              by_cases g1 : xi = i
              · subst g1
                have g2 : (xj == j) = false := by simpa using hne
                clear hne
                have HGO := Lib.hid hgo
                clear hgo
                go_wp2_with fail
                go_roundg (nl - (t + 1))
                case measure => have := HGT.out; omega
                case rel => exact ⟨t + 1, wd, rfl, by go_num, by rw [← HNL.out]; omega, by rw [← HNL.out], HGO.out, hM7.alloc _, by rw [← HNL.out]; exact hown7.alloc _, hA7.alloc _, hbel7.alloc hbel7.size _⟩
              · have g1' : (xi == i) = false := by simpa using g1
                clear hne g1
                have HGO := Lib.hid hgo
                clear hgo
                go_wp2_with fail
                go_roundg (nl - (t + 1))
                case measure => have := HGT.out; omega
                case rel => exact ⟨t + 1, wd, rfl, by go_num, by rw [← HNL.out]; omega, by rw [← HNL.out], HGO.out, hM7.alloc _, by rw [← HNL.out]; exact hown7.alloc _, hA7.alloc _, hbel7.alloc hbel7.size _⟩
            · have g0' : (xk == k) = false := by simpa using g0
              clear hne g0
              have HGO := Lib.hid hgo
              clear hgo
              go_wp2_with fail
              go_roundg (nl - (t + 1))
              case measure => have := HGT.out; omega
              case rel => exact ⟨t + 1, wd, rfl, by go_num, by rw [← HNL.out]; omega, by rw [← HNL.out], HGO.out, hM7.alloc _, by rw [← HNL.out]; exact hown7.alloc _, hA7.alloc _, hbel7.alloc hbel7.size _⟩
          · simp only at e0 e1 e2
            subst e0 e1 e2
            clear htl3
            rcases hkinds with ⟨hk, hv, hgo⟩ | ⟨hk, hgo⟩ | ⟨hk, hy, ho, hgo⟩ | ⟨hk, hy, ho, hgo⟩ | ⟨hk1, hk2, hk3, hgo⟩
            · simp only at hk hv
              subst hk hv
              have HGO := Lib.hid hgo
              clear hgo
              go_wp2_with fail
              go_roundg (nl - (t + 1))
              case measure => have := HGT.out; omega
              case rel => exact ⟨t + 1, vl, rfl, by go_num, by rw [← HNL.out]; omega, by rw [← HNL.out], HGO.out, hM7.alloc _, by rw [← HNL.out]; exact hown7.alloc _, hA7.alloc _, hbel7.alloc hbel7.size _⟩
            · simp only at hk
              subst hk
              have HGO := Lib.hid hgo
              clear hgo
              go_wp2_with fail
              go_roundg (nl - (t + 1))
              case measure => have := HGT.out; omega
              case rel => exact ⟨t + 1, vl, rfl, by go_num, by rw [← HNL.out]; omega, by rw [← HNL.out], HGO.out, hM7.alloc _, by rw [← HNL.out]; exact hown7.alloc _, hA7.alloc _, hbel7.alloc hbel7.size _⟩
            · simp only at hk hy ho
              subst hk hy ho
              have HGO := Lib.hid hgo
              clear hgo
              go_wp2_with fail
              go_roundg (nl - (t + 1))
              case measure => have := HGT.out; omega
              case rel => exact ⟨t + 1, vl, rfl, by go_num, by rw [← HNL.out]; omega, by rw [← HNL.out], HGO.out, hM7.alloc _, by rw [← HNL.out]; exact hown7.alloc _, hA7.alloc _, hbel7.alloc hbel7.size _⟩
            · simp only at hk hy ho
              subst hk hy
              have ho' : (ol == wd) = false := by simpa using ho
              clear ho
              have HGO := Lib.hid hgo
              clear hgo
              go_wp2_with fail
              go_roundg (nl - (t + 1))
              case measure => have := HGT.out; omega
              case rel => exact ⟨t + 1, wd, rfl, by go_num, by rw [← HNL.out]; omega, by rw [← HNL.out], HGO.out, hM7.alloc _, by rw [← HNL.out]; exact hown7.alloc _, hA7.alloc _, hbel7.alloc hbel7.size _⟩
            · simp only at hk1 hk2 hk3
              have f1 : (kd == 1) = false := by simp [hk1]
              have f2 : (kd == 2) = false := by simp [hk2]
              have f3 : (kd == 3) = false := by simp [hk3]
              clear hk1 hk2 hk3
              have HGO := Lib.hid hgo
              clear hgo
              go_wp2_with fail
              go_roundg (nl - (t + 1))
              case measure => have := HGT.out; omega
              case rel => exact ⟨t + 1, wd, rfl, by go_num, by rw [← HNL.out]; omega, by rw [← HNL.out], HGO.out, hM7.alloc _, by rw [← HNL.out]; exact hown7.alloc _, hA7.alloc _, hbel7.alloc hbel7.size _⟩
        · have htn' : t = nl := by omega
          have hfin : wd = (wordAt m k i j).getD 0 := by
            have h1 := HTL.out
            rw [htn', HNL.out, List.drop_length] at h1
            simpa [tell] using h1
          have HFIN := Lib.hid hfin
          clear hfin
          go_wp2_with fail
          refine (peek_gen hM7 k i j).mono ?_
          rintro e w8 ⟨z1, z2, H1, H2, rfl, hb8⟩
          have hM8 := hM7.below hb8
          go_wp2_with fail
          refine (count_any hM8).mono ?_
          rintro e w9 ⟨rfl, rfl⟩
          obtain rfl : z1 = wd := H1.out.trans HFIN.out.symm
          obtain rfl : z2 = ec := by rw [H2.out, HEC.out, HT.out.1 k i j]
          rw [← HNL.out]
          go_wp2_with fail
          go_ret
          exact ⟨rfl, hbel7.trans (hb8.mono hsz7)⟩

theorem opened {H : Type} (enc : TypeId × Value → H) (W : World) (b0 : Nat) (v0 : Value) (d0 : DataW H) (p0 : List MemPlace) (hv : Value.okWide Try.prog W .any b0 26 v0)
    (h0 : DataW.Trod enc Try.prog W 0 (fun _ => true) true 26 v0 d0 p0) (hsz : (DataW.weightsEach Try.prog [26] [d0]).all (· ≤ reachBytes) = true) :
    Calls Try.prog 3 #[v0] W fun e W' => e = .returned (.bool true) ∧ Below W.heap.size W W' := by
  obtain ⟨c, r, k, i, j, A, n, nc, l, rfl, hl, hn, hnc, hA, hsize⟩ := tells_open hv h0
  have hms := hsize hsz (j := 0) rfl rfl
  by_cases hok : 1 ≤ c ∧ c ≤ 1024 ∧ 1 ≤ r ∧ r ≤ 16
  · obtain ⟨h1, h2, h3, h4⟩ := hok
    obtain ⟨C, rfl⟩ := Int.eq_ofNat_of_zero_le (show 0 ≤ c by omega)
    obtain ⟨R, rfl⟩ := Int.eq_ofNat_of_zero_le (show 0 ≤ r by omega)
    exact walk_yes C R k i j A n nc l W hl hms (by omega) (by omega) (by omega) (by omega) hA
  · exact walk_no c r k i j A n nc W hok

/-! ### The row -/
set_option maxRecDepth 100000 in
theorem lifted (os : Os) (started : os.Started) (H : Type) (enc : TypeId × Value → H) :
    ReturnsInHanded {} Try.checked os 3 .any (Rows.memTellsSpec.pre6 enc Try.prog Try.f3 Rows.memTellsRow.domain false) (Rows.memTellsSpec.post enc Try.prog Try.f3 false true false false) := by
  refine returnsInHanded_of_change_sized (C := Try.checked) own started (by kernel_rfl) Try.func3
    (ChangeSpec.witness6 (enc := enc) (C := Try.checked) false ⟨#[], #[.agg #[.int .i64 0, .int .i64 0, .slice none 0 0, .int .i64 0, .int .i64 0, .int .i64 0]], []⟩ 8 (by kernel_rfl) (by kernel_rfl) (by kernel_rfl) (by kernel_rfl)) ?_
  intro W base args ds gs before hval0 hW hcnd hsz0 hholds
  have hval : ∀ (j : Nat) t v, Try.f3.params[j]? = some t → args[j]? = some v → Value.okWide Try.prog W .any base t v := hval0
  have hsz : (DataW.weightsEach Try.prog (Try.f3.params.toList ++ Rows.memTellsSpec.plain.varTypes Try.prog) (ds ++ gs)).all (· ≤ reachBytes) = true := hsz0
  have hW' := hW
  obtain ⟨p, q, hA0, hV, rfl, hfz, hnd⟩ := hW
  have hA : DataW.TrodAll enc Try.prog W 0 (fun _ => true) true Try.f3.params.toList args.toList ds p := hA0
  obtain ⟨rfl, rfl⟩ := trodVars_none hV
  have hlt : ∀ x ∈ p, x.block < W.heap.size := fun x hx => hW'.lt x (by simpa using hx)
  rw [Try.params3] at hA hval hsz
  obtain ⟨v0, vs0, d0, ds0, p0, q0, hargs, rfl, rfl, h0, r0⟩ := trodAll_cons hA
  obtain ⟨rfl, rfl, rfl⟩ := trodAll_nil r0
  obtain rfl : args = #[v0] := by cases args; simp_all
  clear hA0 hval0 hsz0
  refine (opened enc W base v0 d0 p0 (hval 0 _ v0 rfl rfl) h0 hsz).mono fun e W' ⟨he, bel⟩ => ?_
  subst he
  exact ⟨_, rfl, _, _, _, [], _, [], hW', trodAll_mk1 (shut_bool Try.underlying4 _), Below.trodAll laidOut (by intro t ht; have ht' : t ∈ [26] := ht; clear ht; simp only [List.mem_cons, List.not_mem_nil, or_false] at ht'; rcases ht' with rfl <;> exact ⟨by kernel_rfl, of_decide_eq_true (by kernel_rfl)⟩) hA bel hlt, rfl, bel.frame _, fun h => by cases h⟩

theorem over : Rows.memTellsRow.holds Try.pinned (OpenSpec.ofChange Rows.memTellsSpec) :=
  OpenClaim.holds_of_wide 3 Try.f3 rfl rfl rfl rfl rfl rfl rfl ⟨rfl, rfl, rfl, rfl, rfl⟩ rfl rfl rfl rfl rfl (by kernel_rfl) Try.func3 (by kernel_rfl)
    (of_decide_eq_true (by kernel_rfl)) (by unfold Func.isWrapper; first | (rw [if_pos (by decide +kernel)]; kernel_rfl) | (rw [if_neg (by decide +kernel)]; exact ⟨rfl, rfl⟩))
    (fun os started H enc _ => lifted os started H enc)

/-- THE STATEMENT -/
theorem proved : Rows.MemTellsSaid := over
#print axioms proved
end Go.Proofs.Ytnpeldbnnneijaa.memTells
