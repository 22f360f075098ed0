/- Plain: the order of transactions' places; stamps of a history. -/
import Derived.Test.YtffjcojehiblnaaGreatDoorPk
import Derived.Test.YtffjcojehiblnaaGreatDoorPp
import Derived.Test.YtffjcojehiblnaaGreatDoorPs
import Derived.Test.YtffjcojehiblnaaGreatDoorPi
namespace Go.Proofs.YtffjcojehiblnaaGreatDoor
set_option linter.unusedVariables false
set_option linter.unusedSimpArgs false

theorem places_lt (a b : TxP) : placesF a b < 0 ↔ place1 a < place1 b ∨ (place1 a = place1 b ∧ place2 a < place2 b) := by
  unfold placesF cmp3
  repeat' split
  all_goals omega
theorem places_lt3 : Lt3 (fun x y : TxP => placesF x y < 0) where
  irr x := by rw [places_lt]; omega
  tr x y z := by rw [places_lt, places_lt, places_lt]; omega
  ntr x y z := by rw [places_lt, places_lt, places_lt]; omega
def t00 : TxP := ⟨0, 0, 0, 0, 0, 0, false, false, []⟩
/-- The comparison of two numbers by their transactions. -/
def ordF (ts : List TxP) (i j : Nat) : Int := placesF (ts.getD i t00) (ts.getD j t00)
theorem ord_lt3 (ts : List TxP) : Lt3 (fun i j => ordF ts i j < 0) where
  irr x := places_lt3.irr _
  tr x y z := places_lt3.tr _ _ _
  ntr x y z := places_lt3.ntr _ _ _

/-- Stamps: none, or one of those published, each once. -/
structure StInv (b : Book) : Prop where
  rng : ∀ t ∈ b.l, 0 ≤ t.stamp ∧ t.stamp ≤ b.pub
  ne : b.l.Pairwise fun x y => x.stamp = 0 ∨ x.stamp ≠ y.stamp
theorem StInv.start : StInv book0 := ⟨fun _ h => absurd h (by simp [book0]), .nil⟩
theorem StInv.set {b : Book} (I : StInv b) {n : Nat} (hn : n < b.l.length) {t' : TxP} (h : t'.stamp = b.l[n].stamp) {b' : Book} (hl : b'.l = b.l.set n t') (hp : b.pub ≤ b'.pub) : StInv b' := by
  constructor
  · intro t ht
    rw [hl] at ht
    rcases List.mem_or_eq_of_mem_set ht with ht | ht
    · have := I.rng t ht
      omega
    · subst ht
      have := I.rng _ (List.getElem_mem hn)
      omega
  · rw [hl, List.pairwise_iff_getElem]
    intro i j hi hj hij
    rw [List.length_set] at hi hj
    have := List.pairwise_iff_getElem.1 I.ne i j hi hj hij
    rw [List.getElem_set, List.getElem_set]
    split <;> split <;> (try subst_vars) <;> (try rw [h]) <;> first | exact this | omega
theorem StInv.pub {b : Book} (I : StInv b) {n : Nat} (hn : n < b.l.length) {t' : TxP} (h : t'.stamp = (b.pub : Int) + 1) {b' : Book} (hl : b'.l = b.l.set n t') (hp : b'.pub = b.pub + 1) : StInv b' := by
  constructor
  · intro t ht
    rw [hl] at ht
    rcases List.mem_or_eq_of_mem_set ht with ht | ht
    · have := I.rng t ht
      omega
    · subst ht
      omega
  · rw [hl, List.pairwise_iff_getElem]
    intro i j hi hj hij
    rw [List.length_set] at hi hj
    have := List.pairwise_iff_getElem.1 I.ne i j hi hj hij
    have ri := I.rng _ (List.getElem_mem hi)
    have rj := I.rng _ (List.getElem_mem hj)
    rw [List.getElem_set, List.getElem_set]
    split
    · split
      · omega
      · omega
    · split
      · omega
      · exact this
theorem st_next {b b' : Book} {e : Ev} (I : StInv b) (hn : nextF b e = some b') : StInv b' := by
  unfold nextF at hn
  split at hn
  · cases hn
  split at hn
  · split at hn
    · cases hn
    · injection hn with hn
      subst hn
      constructor
      · intro t ht
        rcases List.mem_append.1 ht with ht | ht
        · exact I.rng t ht
        · rw [List.mem_singleton] at ht
          subst ht
          exact ⟨Int.le_refl _, by show (0 : Int) ≤ (b.pub : Int); omega⟩
      · show (b.l ++ [_]).Pairwise _
        rw [List.pairwise_append]
        refine ⟨I.ne, List.pairwise_singleton _ _, fun x hx y hy => ?_⟩
        obtain rfl := List.mem_singleton.1 hy
        by_cases h0 : x.stamp = 0
        · exact .inl h0
        · exact .inr h0
  split at hn
  · next hx =>
    unfold nextT at hn
    split at hn
    · cases hn
    split at hn
    · split at hn
      · cases hn
      · injection hn with hn
        subst hn
        exact I.set hx.2 (by rfl) rfl (Nat.le_refl _)
    split at hn
    · cases hg : goesF (b.l[e.tx.toNat]'hx.2) b.pub b.done e with
      | none => rw [hg] at hn; cases hn
      | some z =>
        obtain ⟨t', p', d'⟩ := z
        rw [hg] at hn
        injection hn with hn
        subst hn
        unfold goesF at hg
        split at hg
        · split at hg
          · cases hg
          · simp only [Option.some.injEq, Prod.mk.injEq] at hg
            obtain ⟨rfl, rfl, rfl⟩ := hg
            exact I.set hx.2 (by rfl) rfl (Nat.le_refl _)
        split at hg
        · cases hg
        split at hg
        · split at hg
          · cases hg
          · simp only [Option.some.injEq, Prod.mk.injEq] at hg
            obtain ⟨rfl, rfl, rfl⟩ := hg
            exact I.set hx.2 (by rfl) rfl (Nat.le_refl _)
        split at hg
        · split at hg
          · cases hg
          · next he =>
            simp only [Option.some.injEq, Prod.mk.injEq] at hg
            obtain ⟨rfl, rfl, rfl⟩ := hg
            exact I.pub hx.2 (by simpa using he) rfl rfl
        split at hg
        · simp only [Option.some.injEq, Prod.mk.injEq] at hg
          obtain ⟨rfl, rfl, rfl⟩ := hg
          exact I.set hx.2 (by rfl) rfl (Nat.le_refl _)
        · cases hg
    · cases hn
  · cases hn
theorem st_read {l : List Ev} : ∀ {b b' : Book} {i : Nat}, StInv b → readF b i l = .ok b' → StInv b' := by
  induction l with
  | nil =>
    intro b b' i I h
    injection h with h
    exact h ▸ I
  | cons e r ih =>
    intro b b' i I h
    unfold readF at h
    cases hn : nextF b e with
    | none => rw [hn] at h; cases h
    | some b1 =>
      rw [hn] at h
      exact ih (st_next I hn) h
theorem st_read0 {l : List Ev} {b : Book} (h : readF book0 0 l = .ok b) : StInv b := st_read StInv.start h
end Go.Proofs.YtffjcojehiblnaaGreatDoor

/- history.Order of every history. -/
namespace Go.Proofs.YtffjcojehiblnaaGreatDoor
open Go.RowKit Go.Joins Go.ChangeShapes Go.WideShapes Go.Deep
set_option linter.unusedVariables false
set_option linter.unusedSimpArgs false
set_option maxRecDepth 100000

def natV (l : List Nat) : List Value := l.map fun i : Nat => Value.int .i64 (i : Int)
theorem natV_length (l : List Nat) : (natV l).length = l.length := by simp [natV]
theorem natV_at (l : List Nat) {i : Nat} (h : i < l.length) : (natV l)[i]? = some (.int .i64 l[i]) := by
  unfold natV
  rw [List.getElem?_map, List.getElem?_eq_getElem h]
  rfl
theorem natV_range_succ (k : Nat) : natV (List.range (k + 1)) = natV (List.range k) ++ [.int .i64 k] := by simp [natV, List.range_succ]
/-- An order as it is handed back. -/
def OrderPost (w : World) (b : Book) : Ending → World → Prop := fun r w' => ∃ R c L, r = .returned (.tuple #[.slice R b.l.length c, .int .i64 0]) ∧ L.Pairwise (Lx (ltc (ordF b.l))) ∧ L.Perm (List.range b.l.length) ∧ Reads w' w'.heap.size 1 R b.l.length (natV L) ∧ Below w.heap.size w w'
theorem row_of_own {w : World} {B n : Nat} {v : Value} (h : w.ownsRow B 3 1 v n (natV (List.range n))) : (v = .slice none 0 0 ∧ n = 0) ∨ ∃ g c, v = .slice (some ⟨g, 0, none⟩) n c ∧ B ≤ g ∧ RowF w g n id := by
  rcases h.2 with h0 | ⟨g, cap, cur, hv, hg, hb, hc, _, hs, ht⟩
  · exact .inl h0
  · refine .inr ⟨g, cap, hv, hg, cur, hb, by omega, fun i hi => ?_⟩
    have h1 : (cur.toList.take (n * 1))[i]? = some (.int .i64 i) := by
      rw [ht, natV_at _ (by simpa using hi), List.getElem_range]
    rw [List.getElem?_take] at h1
    split at h1
    · simpa using h1
    · cases h1
theorem reads_of_row {w : World} {g n : Nat} {f : Nat → Nat} (h : RowF w g n f) : Reads w w.heap.size 1 (some ⟨g, 0, none⟩) n (natV ((List.range n).map f)) := by
  refine ⟨by simp [natV], fun hn => ⟨_, rfl, h.lt, fun j u hu => ?_⟩⟩
  have hj : j < n := by
    have := (List.getElem?_eq_some_iff.1 hu).1
    simpa [natV] using this
  rw [natV_at _ (by simpa using hj)] at hu
  rw [Addr.add_mid, Nat.zero_add, h.cell hj, ← hu]
  simp
theorem insert_nil (c : Value) (w : World) : Calls Tryz.prog 51 #[.slice none 0 0, .int .i64 0, .int .i64 0, c] w fun r w' => r = .returned (.tuple #[]) ∧ w' = w := by
  go_enter Tryz.func51, Tryz.ntmps51
  go_wp2_with fail
  refine wp_loop_rounds 1 ?_
  rw [rounds_succ]
  go_wp2_with fail
  go_end0
  exact ⟨rfl, rfl⟩
theorem stable_nil (c : Value) (w : World) : Calls Tryz.prog 16 #[.slice none 0 0, c] w fun r w' => r = .returned (.tuple #[]) ∧ w' = w := by
  have HST : Hid (Calls Tryz.prog 30 #[.slice none 0 0, .int .i64 0, c] w fun r w' => r = .returned (.tuple #[]) ∧ w' = w) := by
    refine Lib.hid ?_
    go_enter Tryz.func30, Tryz.ntmps30
    go_wp2_with fail
    refine wp_loop_rounds 1 ?_
    rw [rounds_succ]
    go_wp2_with (go_at_call 51; refine (insert_nil _ _).mono ?_; rintro r w1 ⟨hr, hw⟩; subst hr; subst hw)
    refine wp_loop_rounds 1 ?_
    rw [rounds_succ]
    go_wp2_with fail
    go_end0
    exact ⟨rfl, rfl⟩
  go_enter Tryz.func16, Tryz.ntmps16
  go_wp2_with (go_at_call 30; refine HST.out.mono ?_; rintro r w1 ⟨hr, hw⟩; subst hr; subst hw)
  go_end0
  exact ⟨rfl, rfl⟩

set_option maxHeartbeats 1000000 in
theorem order_good (A : Option Addr) (n nc : Nat) (l : List Ev) (p : Addr) (b : Book) (w : World) (hl : l.length = n) (hn : n * 152 ≤ 140737488351232) (hR : Reads w w.heap.size 19 A n (evs l)) (hE : LaidAt w p) (hrd : readF book0 0 l = .ok b) (hbl : b.l.length ≤ n) :
    Calls Tryz.prog 6 #[.slice A n nc] w (OrderPost w b) := by
  have HRD := Lib.hid ((read_any A n nc l p w hl hn hR hE.ev (by have := hE.lt; omega)))
  obtain ⟨i0, hi0, hz0, hz1, hz2⟩ := info_parts info_int
  obtain ⟨m, hm⟩ : ∃ m, m = b.l.length := ⟨_, rfl⟩
  have hm8 : m ≤ 925904528640 := by omega
  have HM := Lib.hid hm
  clear hl hn hR hE hbl
  unfold OrderPost
  rw [← hm]
  clear hm
  go_enter Tryz.func6, Tryz.ntmps6
  go_wp2_with (go_at_call 15; refine HRD.out.mono ?_; rintro r w1 hq; unfold ReadPost at hq; rw [hrd] at hq; obtain ⟨lv, s, ll, hq, hBk, hb1⟩ := hq; subst hq; obtain ⟨R, cc, hlv, hmc, hRd⟩ := own_shapes hBk.row; (have hll : ll.length = m := by rw [HM.out]; exact hBk.len.symm); rw [hll] at hlv hmc hRd; subst hlv)
  have hBv : Blk (w1.alloc (.cells #[.slice R m cc] 51)) w1.heap.size 51 #[.slice R m cc] := Blk.new w1 _ _
  have hb2 : Below w.heap.size w (w1.alloc (.cells #[.slice R m cc] 51)) := Below.alloc hb1 hb1.size _
  have hb12 : Below w1.heap.size w1 (w1.alloc (.cells #[.slice R m cc] 51)) := Below.alloc (Below.refl _ _) (Nat.le_refl _) _
  have hsz : (w1.alloc (.cells #[.slice R m cc] 51)).heap.size = w1.heap.size + 1 := by simp
  have HBV := Lib.hid hBv
  have HB := Lib.hid hb2
  have hcm : CmpOK (w1.alloc (.cells #[.slice R m cc] 51)) (w1.alloc (.cells #[.slice R m cc] 51)).heap.size m w1.heap.size (ordF b.l) := by
    intro W i j hW hi hj
    have hil : i < ll.length := by omega
    have hjl : j < ll.length := by omega
    obtain ⟨rb, ro, rfl, hrb, hcc⟩ := reads_flat hRd (by omega) (by decide)
    have hX := hBk.txs _ (List.getElem_mem hil)
    have hY := hBk.txs _ (List.getElem_mem hjl)
    have hfr : Frm w1 W (fun _ => False) := Frm.of_below (hb12.trans (hW.mono (by omega)))
    have hX1 := hX.frm hfr (fun _ _ h => h)
    have hY1 := hY.frm hfr (fun _ _ h => h)
    have hw1W : Below w1.heap.size w1 W := hb12.trans (hW.mono (by omega))
    have hS : OrdS w1.heap.size rb ro i j m cc ll[i].g ll[j].g W := ⟨(hW.cell (p := ⟨w1.heap.size, 0, none⟩) (by simp)).trans ((hBv.cell 0).trans rfl), (hw1W.cell (p := ⟨rb, ro + i, none⟩) hrb).trans (hcc i _ (by rw [List.getElem?_map, List.getElem?_eq_getElem hil]; rfl)), (hw1W.cell (p := ⟨rb, ro + j, none⟩) hrb).trans (hcc j _ (by rw [List.getElem?_map, List.getElem?_eq_getElem hjl]; rfl))⟩
    have ex : ∀ k (hk : k < ll.length), ll[k].t = b.l.getD k t00 := by
      intro k hk
      have h1 := hBk.nth (n := k) (by rw [← HM.out]; omega)
      rw [List.getElem?_eq_getElem hk] at h1
      rw [List.getD_eq_getElem?_getD, List.getElem?_eq_getElem (by rw [← HM.out]; omega)]
      exact Option.some.inj h1
    have := ordcmp_any hS hi hj hX1 hY1
    unfold ordF
    rw [← ex i hil, ← ex j hjl]
    exact this
  have HCM := Lib.hid hcm
  clear hb1 hb2 hBk hRd hll hmc hBv hcm hb12 hsz HRD hrd
  have hv0 : (w1.alloc (.cells #[.slice R m cc] 51)).cell? ⟨w1.heap.size, 0, none⟩ = some (.slice R m cc) := (HBV.out.cell 0).trans rfl
  have hvs : w1.heap.size < (w1.alloc (.cells #[.slice R m cc] 51)).heap.size := by simp
  generalize w1.heap.size = v at *
  generalize w1.alloc (.cells #[.slice R m cc] 51) = W1 at *
  go_wp2_with fail
  go_loopg [6, 17] m (fun gk ov i wr => ∃ k : Nat, i = .int .i64 k ∧ k ≤ m ∧ gk = m - k ∧ wr.ownsRow W1.heap.size 3 1 ov k (natV (List.range k)) ∧ Below W1.heap.size W1 wr)
  case atStart => exact ⟨0, rfl, Nat.zero_le _, rfl, World.ownsRow_nil _ _ _ _, Below.refl _ _⟩
  case round =>
    obtain ⟨k, rfl, hk, hgk, hown, hbel⟩ := hrel
    have HG := Lib.hid hgk
    have HBE := Lib.hid hbel
    have HO := Lib.hid hown
    have hws := hbel.size
    clear hgk hbel hown
    by_cases hkm : k < m
    · have e1 : decide ((k : Int) < (m : Int)) = true := by simp; omega
      go_wp2_with (at_builtin; go_must (refine wpList_append_lies _ rfl (.tmp 20) (.tmp 22) 24 rfl W1.heap.size 3 i0 _ 1 8 Tryz.underlying24 hi0 hz0 hz1 hz2 rfl (by decide) _ k _ rfl (HO.out.alloc _) ⟨wr.heap.size, 0, none⟩ 1 1 [.int .i64 k] rfl rfl (news_int wr k) (by simp [Value.oneCell']) (by omega) (by unfold maxLen; omega) (by omega) (by simp; omega) (wr.heap.size + 1) (by simp) ?_; intro gg cap w2 hown2 hgrow hat hlt2))
      have hgr : Below W1.heap.size W1 w2 := (Below.alloc HBE.out hws _).trans (below_grown (HO.out.alloc _) hgrow (by simp; omega))
      rw [← natV_range_succ] at hown2
      clear hgrow hat
      go_wp2_with fail
      go_roundg (m - (k + 1))
      case measure => have := HG.out; omega
      case rel => exact ⟨k + 1, by go_num, by omega, rfl, hown2, hgr⟩
    · have e1 : decide ((k : Int) < (m : Int)) = false := by simp; omega
      have hkk : k = m := by omega
      subst hkk
      rcases row_of_own HO.out with ⟨hov, h0⟩ | ⟨g, c, hov, hgB, hRow⟩
      · subst hov
        subst h0
        clear HO
        go_wp2_with (go_at_call 16; refine (stable_nil _ _).mono ?_; rintro r w4 ⟨hr, hw⟩; subst hr; subst hw)
        go_ret2
        exact ⟨none, 0, [], rfl, .nil, by simp, ⟨rfl, fun h => absurd h (by omega)⟩, HB.out.trans (HBE.out.mono HB.out.size)⟩
      · subst hov
        have HS := Lib.hid (sortStable_any (c := c) (ord_lt3 b.l) HCM.out hRow (fun i hi => hi) hgB HBE.out (by omega))
        clear hRow HO
        go_wp2_with (go_at_call 16; refine HS.out.mono ?_; rintro r w4 ⟨hr, f', hR4, hK4, hS4, hB4⟩; subst hr)
        go_ret2
        obtain ⟨q1, q2⟩ := stable_lx hK4 hS4
        exact ⟨_, _, _, rfl, q1, q2, reads_of_row hR4, HB.out.trans (hB4.mono HB.out.size)⟩
theorem order_bad (A : Option Addr) (n nc : Nat) (l : List Ev) (p : Addr) (k : Nat) (w : World) (hl : l.length = n) (hn : n * 152 ≤ 140737488351232) (hR : Reads w w.heap.size 19 A n (evs l)) (hE : LaidAt w p) (hrd : readF book0 0 l = .error k) :
    Calls Tryz.prog 6 #[.slice A n nc] w fun r w' => r = .returned (.tuple #[.slice none 0 0, .int .i64 14]) ∧ Below w.heap.size w w' := by
  have HRD := Lib.hid ((read_any A n nc l p w hl hn hR hE.ev (by have := hE.lt; omega)))
  clear hR hE hn hl
  go_enter Tryz.func6, Tryz.ntmps6
  go_wp2_with (go_at_call 15; refine HRD.out.mono ?_; rintro r w1 hq; unfold ReadPost at hq; rw [hrd] at hq; obtain ⟨f, hq, hBf, hbf, hb1⟩ := hq; subst hq)
  go_ret2
  exact ⟨rfl, Below.alloc hb1 hb1.size _⟩
end Go.Proofs.YtffjcojehiblnaaGreatDoor

/- The document's Order of every history. -/
namespace Go.Proofs.YtffjcojehiblnaaGreatDoor
open Go.RowKit Go.Joins Go.ChangeShapes Go.WideShapes Go.Deep
set_option linter.unusedVariables false
set_option linter.unusedSimpArgs false
set_option maxRecDepth 100000

/-- Is a transaction, as it is told, ahead of another one? -/
def aheadF (a b : TxZ) : Bool := decide ((if 0 < a.stamp then a.stamp else a.seen) < (if 0 < b.stamp then b.stamp else b.seen)) || (decide ((if 0 < a.stamp then a.stamp else a.seen) = (if 0 < b.stamp then b.stamp else b.seen)) && decide ((if 0 < a.stamp then (0 : Int) else 1) < (if 0 < b.stamp then 0 else 1)))
theorem ahead_is (x y : TxP) (hx : 0 ≤ x.stamp) (hy : 0 ≤ y.stamp) : aheadF x.z y.z = decide (placesF x y < 0) := by
  have e : ∀ t : TxP, 0 ≤ t.stamp → (if 0 < t.z.stamp then t.z.stamp else t.z.seen) = place1 t ∧ (if 0 < t.z.stamp then (0 : Int) else 1) = place2 t := by
    intro t ht
    unfold place1 place2 TxP.z
    by_cases h : t.stamp = 0
    · simp [h]
    · have : 0 < t.stamp := by omega
      simp [h, this]
  unfold aheadF
  rw [(e x hx).1, (e x hx).2, (e y hy).1, (e y hy).2]
  by_cases h : placesF x y < 0
  · rw [decide_eq_true h]
    rcases (places_lt x y).1 h with h | ⟨h1, h2⟩
    · simp [h]
    · simp [h1, h2]
  · rw [decide_eq_false h]
    have hn := mt (places_lt x y).2 h
    have d1 : ¬ place1 x < place1 y := fun c => hn (.inl c)
    rw [decide_eq_false d1, Bool.false_or]
    by_cases c2 : place1 x = place1 y
    · have d2 : ¬ place2 x < place2 y := fun c => hn (.inr ⟨c2, c⟩)
      rw [decide_eq_false d2, Bool.and_false]
    · rw [decide_eq_false c2, Bool.false_and]
set_option maxHeartbeats 1000000 in
theorem ahead_any (x y : TxZ) (w : World) : Calls Tryz.prog 20 #[.agg x.cells.toArray, .agg y.cells.toArray] w fun r w' => r = .returned (.bool (aheadF x y)) ∧ Below w.heap.size w w' := by
  obtain ⟨xa, xb, xc, xs, xn, xe⟩ := x
  obtain ⟨ya, yb, yc, ys, yn, ye⟩ := y
  obtain ⟨q, hq⟩ : ∃ q, q = aheadF ⟨xa, xb, xc, xs, xn, xe⟩ ⟨ya, yb, yc, ys, yn, ye⟩ := ⟨_, rfl⟩
  rw [← hq]
  have HQ := Lib.hid hq
  clear hq
  unfold TxZ.cells
  by_cases h1 : 0 < xs
  · have d1 : decide (0 < xs) = true := by simp [h1]
    by_cases h2 : 0 < ys
    · have d2 : decide (0 < ys) = true := by simp [h2]
      by_cases g1 : xs < ys
      · have e1 : decide (xs < ys) = true := by simp [g1]
        go_enter Tryz.func20, Tryz.ntmps20
        go_wp2
        go_ret
        exact ⟨by rw [HQ.out]; (have p1 : (0 < xs) = True := eq_true (by simpa using d1)); (have p2 : (0 < ys) = True := eq_true (by simpa using d2)); simp only [aheadF, p1, p2, if_true, if_false, e1, Bool.true_or]; rfl, Below.alloc (Below.alloc (Below.refl _ _) (Nat.le_refl _) _) (by simp) _⟩
      have e1 : decide (xs < ys) = false := by simp; omega
      by_cases g2 : xs = ys
      · have e2 : (xs == ys) = true := by simp [g2]
        have e3 : decide (xs = ys) = true := by simp [g2]
        have G2 := Lib.hid g2
        have G1 := Lib.hid g1
        clear g2 g1
        go_enter Tryz.func20, Tryz.ntmps20
        go_wp2
        go_ret
        exact ⟨by rw [HQ.out]; (have p1 : (0 < xs) = True := eq_true (by simpa using d1)); (have p2 : (0 < ys) = True := eq_true (by simpa using d2)); simp only [aheadF, p1, p2, if_true, if_false, e1, e3, Bool.false_or, Bool.true_and]; rfl, Below.alloc (Below.alloc (Below.refl _ _) (Nat.le_refl _) _) (by simp) _⟩
      · have e2 : (xs == ys) = false := by simp [g2]
        have e3 : decide (xs = ys) = false := by simp [g2]
        have G2 := Lib.hid g2
        have G1 := Lib.hid g1
        clear g2 g1
        go_enter Tryz.func20, Tryz.ntmps20
        go_wp2
        go_ret
        exact ⟨by rw [HQ.out]; (have p1 : (0 < xs) = True := eq_true (by simpa using d1)); (have p2 : (0 < ys) = True := eq_true (by simpa using d2)); simp only [aheadF, p1, p2, if_true, if_false, e1, e3, Bool.false_or, Bool.false_and]; rfl, Below.alloc (Below.alloc (Below.refl _ _) (Nat.le_refl _) _) (by simp) _⟩
    · have d2 : decide (0 < ys) = false := by simp; omega
      by_cases g1 : xs < yn
      · have e1 : decide (xs < yn) = true := by simp [g1]
        go_enter Tryz.func20, Tryz.ntmps20
        go_wp2
        go_ret
        exact ⟨by rw [HQ.out]; (have p1 : (0 < xs) = True := eq_true (by simpa using d1)); (have p2 : (0 < ys) = False := eq_false (by simpa using d2)); simp only [aheadF, p1, p2, if_true, if_false, e1, Bool.true_or]; rfl, Below.alloc (Below.alloc (Below.refl _ _) (Nat.le_refl _) _) (by simp) _⟩
      have e1 : decide (xs < yn) = false := by simp; omega
      by_cases g2 : xs = yn
      · have e2 : (xs == yn) = true := by simp [g2]
        have e3 : decide (xs = yn) = true := by simp [g2]
        have G2 := Lib.hid g2
        have G1 := Lib.hid g1
        clear g2 g1
        go_enter Tryz.func20, Tryz.ntmps20
        go_wp2
        go_ret
        exact ⟨by rw [HQ.out]; (have p1 : (0 < xs) = True := eq_true (by simpa using d1)); (have p2 : (0 < ys) = False := eq_false (by simpa using d2)); simp only [aheadF, p1, p2, if_true, if_false, e1, e3, Bool.false_or, Bool.true_and]; rfl, Below.alloc (Below.alloc (Below.refl _ _) (Nat.le_refl _) _) (by simp) _⟩
      · have e2 : (xs == yn) = false := by simp [g2]
        have e3 : decide (xs = yn) = false := by simp [g2]
        have G2 := Lib.hid g2
        have G1 := Lib.hid g1
        clear g2 g1
        go_enter Tryz.func20, Tryz.ntmps20
        go_wp2
        go_ret
        exact ⟨by rw [HQ.out]; (have p1 : (0 < xs) = True := eq_true (by simpa using d1)); (have p2 : (0 < ys) = False := eq_false (by simpa using d2)); simp only [aheadF, p1, p2, if_true, if_false, e1, e3, Bool.false_or, Bool.false_and]; rfl, Below.alloc (Below.alloc (Below.refl _ _) (Nat.le_refl _) _) (by simp) _⟩
  · have d1 : decide (0 < xs) = false := by simp; omega
    by_cases h2 : 0 < ys
    · have d2 : decide (0 < ys) = true := by simp [h2]
      by_cases g1 : xn < ys
      · have e1 : decide (xn < ys) = true := by simp [g1]
        go_enter Tryz.func20, Tryz.ntmps20
        go_wp2
        go_ret
        exact ⟨by rw [HQ.out]; (have p1 : (0 < xs) = False := eq_false (by simpa using d1)); (have p2 : (0 < ys) = True := eq_true (by simpa using d2)); simp only [aheadF, p1, p2, if_true, if_false, e1, Bool.true_or]; rfl, Below.alloc (Below.alloc (Below.refl _ _) (Nat.le_refl _) _) (by simp) _⟩
      have e1 : decide (xn < ys) = false := by simp; omega
      by_cases g2 : xn = ys
      · have e2 : (xn == ys) = true := by simp [g2]
        have e3 : decide (xn = ys) = true := by simp [g2]
        have G2 := Lib.hid g2
        have G1 := Lib.hid g1
        clear g2 g1
        go_enter Tryz.func20, Tryz.ntmps20
        go_wp2
        go_ret
        exact ⟨by rw [HQ.out]; (have p1 : (0 < xs) = False := eq_false (by simpa using d1)); (have p2 : (0 < ys) = True := eq_true (by simpa using d2)); simp only [aheadF, p1, p2, if_true, if_false, e1, e3, Bool.false_or, Bool.true_and]; rfl, Below.alloc (Below.alloc (Below.refl _ _) (Nat.le_refl _) _) (by simp) _⟩
      · have e2 : (xn == ys) = false := by simp [g2]
        have e3 : decide (xn = ys) = false := by simp [g2]
        have G2 := Lib.hid g2
        have G1 := Lib.hid g1
        clear g2 g1
        go_enter Tryz.func20, Tryz.ntmps20
        go_wp2
        go_ret
        exact ⟨by rw [HQ.out]; (have p1 : (0 < xs) = False := eq_false (by simpa using d1)); (have p2 : (0 < ys) = True := eq_true (by simpa using d2)); simp only [aheadF, p1, p2, if_true, if_false, e1, e3, Bool.false_or, Bool.false_and]; rfl, Below.alloc (Below.alloc (Below.refl _ _) (Nat.le_refl _) _) (by simp) _⟩
    · have d2 : decide (0 < ys) = false := by simp; omega
      by_cases g1 : xn < yn
      · have e1 : decide (xn < yn) = true := by simp [g1]
        go_enter Tryz.func20, Tryz.ntmps20
        go_wp2
        go_ret
        exact ⟨by rw [HQ.out]; (have p1 : (0 < xs) = False := eq_false (by simpa using d1)); (have p2 : (0 < ys) = False := eq_false (by simpa using d2)); simp only [aheadF, p1, p2, if_true, if_false, e1, Bool.true_or]; rfl, Below.alloc (Below.alloc (Below.refl _ _) (Nat.le_refl _) _) (by simp) _⟩
      have e1 : decide (xn < yn) = false := by simp; omega
      by_cases g2 : xn = yn
      · have e2 : (xn == yn) = true := by simp [g2]
        have e3 : decide (xn = yn) = true := by simp [g2]
        have G2 := Lib.hid g2
        have G1 := Lib.hid g1
        clear g2 g1
        go_enter Tryz.func20, Tryz.ntmps20
        go_wp2
        go_ret
        exact ⟨by rw [HQ.out]; (have p1 : (0 < xs) = False := eq_false (by simpa using d1)); (have p2 : (0 < ys) = False := eq_false (by simpa using d2)); simp only [aheadF, p1, p2, if_true, if_false, e1, e3, Bool.false_or, Bool.true_and]; rfl, Below.alloc (Below.alloc (Below.refl _ _) (Nat.le_refl _) _) (by simp) _⟩
      · have e2 : (xn == yn) = false := by simp [g2]
        have e3 : decide (xn = yn) = false := by simp [g2]
        have G2 := Lib.hid g2
        have G1 := Lib.hid g1
        clear g2 g1
        go_enter Tryz.func20, Tryz.ntmps20
        go_wp2
        go_ret
        exact ⟨by rw [HQ.out]; (have p1 : (0 < xs) = False := eq_false (by simpa using d1)); (have p2 : (0 < ys) = False := eq_false (by simpa using d2)); simp only [aheadF, p1, p2, if_true, if_false, e1, e3, Bool.false_or, Bool.false_and]; rfl, Below.alloc (Below.alloc (Below.refl _ _) (Nat.le_refl _) _) (by simp) _⟩
end Go.Proofs.YtffjcojehiblnaaGreatDoor
