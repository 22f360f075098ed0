/- Proves Rows.DictMeansSaid: for every input 'carousellaw17.DictMeans' returns true and each argument reads behind the call as it read before. Conditions: none beyond the row's own. -/
import Derived.Test.YtjggcidaolnmbaaDx
import Derived.Test.YtjggcidaolnmbaaCa
import Derived.Test.YtjggcidaolnmbaaArg2
namespace Go.Proofs.Ytjggcidaolnmbaa.dictMeans
open Go.RowKit Go.Joins Go.ChangeShapes Go.WideShapes Go.ChangeAt Go.Deep
set_option linter.unusedVariables false
set_option maxRecDepth 100000

theorem shapePost_open {K E : Int} {L : List (Int × Int)} {w w' : World} {e : Ending} (h : ShapePost (K, E, L) w e w') :
    ∃ P pc, e = .returned (.tuple #[.agg #[.int .i64 K, .slice none 0 0, .slice P L.length pc], .int .i64 E]) ∧ Reads w' w'.heap.size 2 P L.length (prs L) ∧ Below w.heap.size w w' := by
  obtain ⟨pv, he, hown, hb⟩ := h
  obtain ⟨P, pc, rfl, _, hP⟩ := own_shapes hown
  exact ⟨P, pc, he, hP, hb⟩

theorem walk_no (most : Int) (cs : List Int) (A Q : Option Addr) (n nc m mc : Nat) (w : World) (hl : cs.length = n) (hn : n * 8 ≤ 140737488351232) (hA : Reads w w.heap.size 1 A n (ints cs)) {K E : Int} {L : List (Int × Int)} (hR : shapeR most cs = (K, E, L)) (hE : E ≠ 0) :
    Calls Try.prog 11 #[.int .i64 most, .slice A n nc, .slice Q m mc] w fun e w' => e = .returned (.bool true) ∧ Below w.heap.size w w' := by
  have HDA := dshape_any most cs
  have HRA := rshape_any most cs
  rw [hR] at HDA HRA
  have HDA' := Lib.hid HDA
  have HRA' := Lib.hid HRA
  have hee : (E == E) = true := by simp
  have hne : (E != 0) = true := by simp [hE]
  clear HDA HRA
  go_enter Try.func11, Try.ntmps11
  go_wp2_with fail
  refine (HDA'.out A n nc _ hl hA).mono ?_
  intro e w2 h2
  obtain ⟨P, pc, rfl, hP, hb2⟩ := shapePost_open h2
  clear h2
  have hs2 := hb2.size
  go_wp2_with fail
  refine (HRA'.out A n nc _ hl (by exact ((hA.below hb2).more hs2).alloc (Nat.le_refl _) _ |>.more (by simp))).mono ?_
  intro e w3 h3
  obtain ⟨Q, qc, rfl, hQ, hb3⟩ := shapePost_open h3
  clear h3
  go_wp2_with fail
  go_ret
  have hbw3 : Below w.heap.size w w3 := (hb2.alloc hs2 _).trans (hb3.mono (B' := w.heap.size) (by simp; omega))
  exact ⟨rfl, hbw3.alloc hbw3.size _⟩

theorem kept_none (v : Value) : v.ownBlock = none ∨ v.ownBlock ≠ none := by cases v.ownBlock <;> simp
theorem place_mem {l : List (Int × Int)} (hnd : (l.map (·.1)).Nodup) {X Y : Int} (h : (X, Y) ∈ l) : ∃ u, ∃ hu : u < l.length, placeI l X = (u : Int) ∧ l[u] = (X, Y) := by
  obtain ⟨u, hu, he⟩ := List.getElem_of_mem h
  refine ⟨u, hu, place_at l X u hu (by rw [he]) (fun j hj hju e => ?_), he⟩
  have hp := List.pairwise_iff_getElem.1 hnd j u (by simpa using hj) (by simpa using hu) hju
  simp only [List.getElem_map] at hp
  exact hp (by rw [e, he])

theorem below_row {a w : World} {row : Option Nat} {B : Nat} (h : a.grownBy w row) (hr : ∀ g, row = some g → B ≤ g) (hs : B ≤ a.heap.size) : Below B a w :=
  ⟨h.os, h.tape, h.output, h.size, fun q hq => h.block q (by omega) (fun e => by have := hr q e.symm; omega)⟩
theorem own_blk {w : World} {base : Nat} {e : TypeId} {size n : Nat} {v : Value} {xs : List Value} (h : w.ownsRow base e size v n xs) {b : Nat} (hb : v.ownBlock = some b) : ∃ cs, Blk w b e cs := by
  rcases h.2 with ⟨rfl, _⟩ | ⟨g, cap, cur, hv, _, hg, r⟩
  · simp [Value.ownBlock] at hb
  · rw [hv] at hb
    have : g = b := by simpa [Value.ownBlock] using hb
    subst this
    exact ⟨_, hg⟩

def Rel2 (m q n vc g B1 B2 bs : Nat) (cl : List CallZ) (w : World) (K : Int) (P : Option Addr) (k pc : Nat) (gk : Nat) (pv i : Value) (wr : World) : Prop :=
  ∃ (j : Nat) (ds : List Int) (l : List (Int × Int)), i = .int .i64 j ∧ j ≤ q ∧ gk = q - j ∧ wr.ownsRow B1 2 1 (.slice (some ⟨g, 0, none⟩) n vc) n (ints ds) ∧ wr.ownsRow B2 54 2 pv l.length (prs l) ∧ MInv m ds l ∧ Below w.heap.size w wr ∧
    Blk wr bs 47 #[.int .i64 K, .slice none 0 0, .slice P k pc] ∧ B2 ≤ wr.heap.size

set_option maxHeartbeats 4000000 in
theorem walk_yes (m : Nat) (cs : List Int) (cl : List CallZ) (A Q : Option Addr) (n nc q qc : Nat) (w : World) (hl : cs.length = n) (hn : n * 8 ≤ 140737488351232) (hA : Reads w w.heap.size 1 A n (ints cs)) (hq : q ≤ 9223372036854775807) (hcl : cl.length = q) (hQ : Reads w w.heap.size 2 Q q (rows CallZ.cells cl)) (hG : ∀ z ∈ cl, CallZ.Good w z)
    {K : Int} {L : List (Int × Int)} (hR : shapeR m cs = (K, 0, L)) (hn1 : n = 3 * m + 1) (hI : MInv m cs L) :
    Calls Try.prog 11 #[.int .i64 m, .slice A n nc, .slice Q q qc] w fun e w' => e = .returned (.bool true) ∧ Below w.heap.size w w' := by
  have HDA := dshape_any m cs
  have HRA := rshape_any m cs
  rw [hR] at HDA HRA
  have HDA' := Lib.hid HDA
  have HRA' := Lib.hid HRA
  have HG := Lib.hid hG
  have HI := Lib.hid hI
  have HL := Lib.hid hcl
  have HN1 := Lib.hid hn1
  have hm16 := hI.le
  have hfew := hI.few
  clear HDA HRA hI hG hcl hn1
  go_enter Try.func11, Try.ntmps11
  go_wp2_with fail
  refine (HDA'.out A n nc _ hl hA).mono ?_
  intro e w2 h2
  obtain ⟨P, pc, rfl, hP, hb2⟩ := shapePost_open h2
  clear h2
  have hs2 := hb2.size
  go_wp2_with fail
  refine (HRA'.out A n nc _ hl (by exact ((hA.below hb2).more hs2).alloc (Nat.le_refl _) _ |>.more (by simp))).mono ?_
  intro e w3 h3
  obtain ⟨Q', qc', rfl, hQ', hb3⟩ := shapePost_open h3
  clear h3 hQ'
  have hB3 : Blk w3 w2.heap.size 47 #[.int .i64 K, .slice none 0 0, .slice P L.length pc] := (Blk.new w2 _ _).below hb3 (by simp)
  have hbw3 : Below w.heap.size w w3 := (hb2.alloc hs2 _).trans (hb3.mono (B' := w.heap.size) (by simp; omega))
  have hP3 := (hP.alloc (Nat.le_refl _) (.cells #[.int .i64 K, .slice none 0 0, .slice P L.length pc] 47)).below (hb3.mono (B' := w2.heap.size) (by simp))
  have hs3 : w2.heap.size < w3.heap.size := hB3.lt
  have hB3' := hB3.alloc (.cells #[.int .i64 K, .slice none 0 0, .slice Q' L.length qc'] 47)
  have hbw3' := hbw3.alloc hbw3.size (.cells #[.int .i64 K, .slice none 0 0, .slice Q' L.length qc'] 47)
  have hP3' := (hP3.more (Nat.le_of_lt hs3)).alloc (Nat.le_refl _) (.cells #[.int .i64 K, .slice none 0 0, .slice Q' L.length qc'] 47)
  have hs3' : w3.heap.size < (w3.alloc (.cells #[.int .i64 K, .slice none 0 0, .slice Q' L.length qc'] 47)).heap.size := by simp
  have hA3 := hA.below hbw3'
  clear hP hb2 hb3 hB3 hbw3 hP3 hA
  go_wp2_with fail
  generalize w3.alloc (.cells #[.int .i64 K, .slice none 0 0, .slice Q' L.length qc'] 47) = W3 at *
  refine (numbers_any A n nc cs _ hn (by exact hA3.more (by omega))).mono ?_
  rintro e w4 ⟨v, rfl, hown, hb4⟩
  obtain ⟨V, vc, rfl, hvc, hV⟩ := own_shapes hown
  obtain ⟨g, rfl⟩ : ∃ g, V = some ⟨g, 0, none⟩ := by
    obtain ⟨g, cap, hv, _⟩ := hown.form (by have := HN1.out; omega)
    injection hv with e _ _
    exact ⟨g, e⟩
  have hs4 := hb4.size
  have hgl := hown.lt g rfl
  have hB4 := hB3'.below hb4 (by omega)
  have hP4 := hP3'.below (hb4.mono (B' := w3.heap.size) (by omega))
  have hbw4 : Below w.heap.size w w4 := hbw3'.trans (hb4.mono (B' := w.heap.size) (by omega))
  clear hV hb4 hbw3' hP3' hB3' hA3
  go_wp2_with fail
  obtain ⟨i0, hi0, hz0, hz1, hz2⟩ := info_parts info_pair
  have c2 : w4.cell? ⟨w2.heap.size, 2, none⟩ = some (.slice P L.length pc) := (hB4.cell 2).trans rfl
  have hl2 : w2.heap.size < w4.heap.size := by omega
  obtain ⟨N, hN⟩ : ∃ N, N = L.length := ⟨_, rfl⟩
  rw [← hN] at c2 hfew hP4 hB4
  have HNL := Lib.hid hN
  have HB4 := Lib.hid hB4
  clear hN hB4
  go_loopg [12, 13] N (fun gk pv i wr => ∃ k : Nat, i = .int .i64 k ∧ k ≤ N ∧ gk = N - k ∧ wr.ownsRow w4.heap.size 54 2 pv k (prs (L.take k)) ∧ Below w4.heap.size w4 wr)
  case atStart => exact ⟨0, rfl, Nat.zero_le _, rfl, World.ownsRow_nil _ _ _ _, Below.refl _ _⟩
  case round =>
    obtain ⟨k, rfl, hk, hgk, hownp, hbel⟩ := hrel
    have HGK := Lib.hid hgk
    clear hgk
    have c2r : W3.heap.size ≤ wr.heap.size := by have := hbel.size; omega
    have d2 := (hbel.cell (p := ⟨w2.heap.size, 2, none⟩) hl2).trans c2
    by_cases hkn : k < N
    · obtain ⟨pb, poff, rfl, hpb, hpc⟩ := ((hP4.below (hbel.mono (B' := w3.heap.size) (by omega)))).flatN (by omega) (by omega)
      have hkl : k < L.length := by rw [← HNL.out]; exact hkn
      obtain ⟨X, Y, hXY⟩ : ∃ X Y, (X, Y) = L[k] := ⟨_, _, rfl⟩
      have px0 := prs_at L k 0 hkl (by omega)
      have px1 := prs_at L k 1 hkl (by omega)
      rw [← hXY] at px0 px1
      have cx0 : wr.cell? ⟨pb, poff + k * 2, none⟩ = some (.int .i64 X) := hpc _ _ px0
      have cx1 : wr.cell? ⟨pb, poff + k * 2 + 1, none⟩ = some (.int .i64 Y) := hpc _ _ px1
      have hki : (k : Int) < (N : Int) := by omega
      have HXY := Lib.hid hXY
      have hca : ∀ u ∈ ([.int .i64 X, .int .i64 Y] : List Value), u.oneCell' = true := (by intro u hu; simp at hu; rcases hu with rfl | rfl <;> rfl)
      have hcb : k + 1 ≤ maxLen := (by unfold maxLen; omega)
      have hcc : (k + 1) * 16 ≤ 140737488355328 := (by omega)
      have hcd : w4.heap.size ≤ (wr.alloc (.cells #[.int .i64 X, .int .i64 Y] 54)).heap.size := (by have := hbel.size; simp; omega)
      clear hpc hXY px0 px1
      go_wp2_with (at_builtin; go_must (refine wpList_append_own _ rfl _ _ 45 rfl w4.heap.size 54 i0 _ 2 16 Try.underlying45 hi0 hz0 hz1 hz2 rfl (by decide) _ _ _ rfl (hownp.alloc _) ⟨wr.heap.size, 0, none⟩ 1 1 [.int .i64 X, .int .i64 Y] rfl rfl (World.news_of_block (cs := #[.int .i64 X, .int .i64 Y]) (t := 54) (fr := (0, 0)) (heap_alloc_new wr _)) hca hcb hcc hcd ?_; intro v' w1 hown' hgrow _))
      go_roundg (N - (k + 1))
      case measure => have := HGK.out; omega
      case rel =>
        refine ⟨k + 1, by go_num, by omega, rfl, ?_, ?_⟩
        · rw [List.take_succ_eq_append_getElem hkl, ← HXY.out, prs_append]
          exact hown'
        · exact (hbel.alloc hbel.size _).grown hgrow (by have := hbel.size; simp; omega) (fun q hq => by have := (hownp.alloc (.cells #[.int .i64 X, .int .i64 Y] 54)).lt q hq; omega)
    · obtain rfl : k = N := by omega
      have hownp2 : wr.ownsRow w4.heap.size 54 2 u12 k (prs L) := by
        have := hownp
        rwa [List.take_of_length_le (by rw [← HNL.out]; exact Nat.le_refl _)] at this
      have hownr := hown.kept (only_of_below hbel none) (.inr (by simp [Value.ownBlock]))
      have hbelr : Below w.heap.size w wr := hbw4.trans (hbel.mono (by omega))
      have hBr := HB4.out.below hbel hl2
      have hszr := hbel.size
      rw [HNL.out] at hownp2
      have HI2 := Lib.hid HI.out
      clear hownp hbel hown hbw4 hP4 c2 hgl
      go_wp2_with fail
      clear d2
      go_loopg [12, 14] q (fun gk2 pv i wr2 => Rel2 m q n vc g W3.heap.size w4.heap.size w2.heap.size cl w K P k pc gk2 pv i wr2)
      case atStart => exact ⟨0, cs, L, rfl, Nat.zero_le _, rfl, hownr, hownp2, HI2.out, hbelr, hBr, hszr⟩
      case round =>
        obtain ⟨j, ds, l, rfl, hj, hgj, ho1, ho2, hI, hbl, hBl, hw4⟩ := hrel
        have HGJ := Lib.hid hgj
        have HIJ := Lib.hid hI
        have HBJ := Lib.hid hBl
        clear hgj hI hBl hownr hownp2 hbelr hBr
        by_cases hjq : j < q
        · obtain ⟨qb, qoff, rfl, hqb, hqc⟩ := (hQ.below hbl).flatN (by omega) (by omega)
          have hjl : j < cl.length := by rw [HL.out]; exact hjq
          obtain ⟨z, hz⟩ : ∃ z, z = cl[j] := ⟨_, rfl⟩
          have pz0 := rows_at CallZ.cells 2 (fun _ => rfl) cl j 0 hjl (by omega)
          have pz1 := rows_at CallZ.cells 2 (fun _ => rfl) cl j 1 hjl (by omega)
          rw [← hz] at pz0 pz1
          have cz0 : wr.cell? ⟨qb, qoff + j * 2, none⟩ = some (.int .i64 z.call) := hqc _ _ pz0
          have cz1 : wr.cell? ⟨qb, qoff + j * 2 + 1, none⟩ = some (.slice z.A z.na z.ca) := hqc _ _ pz1
          have hgood := HG.out z (by rw [hz]; exact List.getElem_mem _)
          obtain ⟨gz1, gz2, gz3⟩ := hgood
          have hji : (j : Int) < (q : Int) := by omega
          have HAR := rarity_any z.call
          obtain ⟨y, hy⟩ : ∃ y, y = arityI z.call := ⟨_, rfl⟩
          rw [← hy] at HAR
          have HY := Lib.hid hy
          have HGZ := Lib.hid gz1
          clear hqc hz pz0 pz1 hy gz1
          by_cases hyn : y = (z.na : Int)
          · have ey : (y != (z.na : Int)) = false := by simp [hyn]
            have hal : arityI z.call = z.args.length := by rw [← HY.out, hyn, HGZ.out]
            have hal' := hal
            obtain ⟨ds2, hrun, hI2⟩ := means_step HIJ.out z.call z.args hal
            obtain ⟨l2, rv, rcode, hr⟩ : ∃ l2 rv rcode, (l2, rv, rcode) = meansF l m z.call z.args := ⟨_, _, _, rfl⟩
            rw [← hr] at hrun hI2
            have HR := Lib.hid hr
            have HRUN := Lib.hid hrun
            have HI3 := Lib.hid hI2
            have HAL := Lib.hid hal
            have hlm := HIJ.out.few
            have hws : w.heap.size ≤ wr.heap.size := hbl.size
            have hgB := (ho1.lt g rfl)
            have hneP : u12.ownBlock ≠ some g := by
              obtain ⟨cs0, hc0⟩ := own_blk ho1 rfl
              exact own_blk_ne ho2 hc0 (by decide)
            have hneS : u12.ownBlock ≠ some w2.heap.size := fun e => by have := (ho2.lt _ e).1; omega
            have hneQ : u12.ownBlock ≠ some qb := fun e => by have := (ho2.lt _ e).1; omega
            have hrow : ∀ q, u12.ownBlock = some q → w.heap.size ≤ q := fun q e => by have := (ho2.lt _ e).1; omega
            have HZ := Lib.hid gz3
            have HZR := Lib.hid ((gz3.below hbl).more hws)
            have HCK : Hid (callOk 0 m z.call z.args) := Lib.hid ⟨by omega, by omega, by omega, by omega, hal⟩
            have HN3 : Hid ((n : Int) = 3 * (m : Int) + 1) := Lib.hid (by have := HN1.out; omega)
            have HME : Hid (∀ (W : World), Reads W W.heap.size 1 z.A z.na (ints z.args) → W.ownsRow w4.heap.size 54 2 u12 l.length (prs l) → w4.heap.size ≤ W.heap.size → Calls Try.prog 26 #[u12, .int .i64 m, .int .i64 z.call, .slice z.A z.na z.ca] W (MeansPost (l2, rv, rcode) w4.heap.size u12 W)) :=
              Lib.hid fun W h1 h2 h3 => by rw [HR.out]; exact means_any l m z.call z.args u12 _ z.A z.na z.ca W hm16 hlm HAL.out HGZ.out h1 h2 h3
            have HO1 := Lib.hid ho1
            have HO2 := Lib.hid ho2
            have HBL := Lib.hid hbl
            clear hrun hI2 hal gz3 hyn ho1 ho2 hbl hr
            go_wp2_with fail
            go_quiet (exact Calls.quiet_of_same ((HAR _).mono fun _ _ h => ⟨h.1, h.2.symm⟩))
            go_wp2_with fail
            go_region_with (go_at_call 21; refine (drun_any m z.call z.args ds z.A z.na z.ca n vc g W3.heap.size _ gz2 (by exact HZR.out) HCK.out HN3.out (by exact HO1.out)).mono ?_; rintro e w1 ⟨v, code, cs', hrun2, rfl, hown1, hg1⟩)
            all_goals
              rw [Int.toNat_natCast, HRUN.out] at hrun2
              simp only [Prod.mk.injEq, and_true] at hrun2
              obtain ⟨⟨rfl, rfl⟩, rfl⟩ := hrun2
              have hs1 : wr.heap.size ≤ w1.heap.size := hg1.size
              have hbl1 : Below w.heap.size w w1 := (below_drewN HBL.out _).trans (below_row hg1 (fun q e => by injection e with e; omega) (by exact hws))
              have d0 : w1.cell? ⟨qb, qoff + j * 2, none⟩ = some (.int .i64 z.call) := (hg1.cell_far ⟨qb, qoff + j * 2, none⟩ (by simp; omega) (by intro e; injection e with e; simp at e; omega)).trans cz0
              have d1 : w1.cell? ⟨qb, qoff + j * 2 + 1, none⟩ = some (.slice z.A z.na z.ca) := (hg1.cell_far ⟨qb, qoff + j * 2 + 1, none⟩ (by simp; omega) (by intro e; injection e with e; simp at e; omega)).trans cz1
              have HO3 := Lib.hid (World.ownsRow.kept (own_drewN HO2.out) hg1 (.inr hneP))
              have HO4 := Lib.hid hown1
              have HZR2 := Lib.hid ((HZ.out.below hbl1).more hbl1.size)
              have hqb1 : qb < w1.heap.size := by omega
              have hB1 := Lib.hid ((Blk.drewN HBJ.out _).grown hg1 (by intro e; injection e with e; omega))
              have hw41 : w4.heap.size ≤ w1.heap.size := by omega
              have HBL1 := Lib.hid hbl1
              clear hg1 hown1 cz0 cz1 hbl1
              go_wp2_with fail
              go_region_with (go_at_call 26; refine (HME.out _ (by exact HZR2.out) (by exact HO3.out) (by exact hw41)).mono ?_; rintro e w2 ⟨v', rfl, hown2, hg2⟩)
              all_goals
                have hbl2 : Below w.heap.size w w2 := (below_drewN HBL1.out _).trans (below_row hg2 hrow (by exact HBL1.out.size))
                have HO5 := Lib.hid (World.ownsRow.kept (own_drewN HO4.out) hg2 (.inr (by intro e; exact hneP (e.symm.trans rfl))))
                have HO6 := Lib.hid hown2
                have HB2 := Lib.hid ((Blk.drewN hB1.out _).grown hg2 (fun e => hneS e.symm))
                have hw42 : w4.heap.size ≤ w2.heap.size := Nat.le_trans hw41 hg2.size
                have HBL2 := Lib.hid hbl2
                clear hg2 hown2 hbl2
                go_wp2_with fail
                go_roundg (q - (j + 1))
                case measure => have := HGJ.out; omega
                case rel => exact ⟨j + 1, _, _, by go_num, by omega, rfl, HO5.out, HO6.out, HI3.out, HBL2.out, HB2.out, hw42⟩
          · have ey : (y != (z.na : Int)) = true := by simp [hyn]
            go_wp2_with fail
            go_quiet (exact Calls.quiet_of_same ((HAR _).mono fun _ _ h => ⟨h.1, h.2.symm⟩))
            go_wp2_with fail
            go_roundg (q - (j + 1))
            case measure => have := HGJ.out; omega
            case rel => exact ⟨j + 1, ds, l, by go_num, by omega, rfl, own_drewN ho1, own_drewN ho2, HIJ.out, below_drewN hbl _, Blk.drewN HBJ.out _, hw4⟩
        · have hI := HIJ.out
          obtain ⟨L2, hL2, hperm, hsort⟩ := inv_shape hI
          have HDB := dshape_any m ds
          rw [hL2] at HDB
          have HDB' := Lib.hid HDB
          have hdl : ds.length = n := by have := HN1.out; have := hI.len; omega
          have HLEN := Lib.hid hdl
          have hlq : L2.length = l.length := hperm.length_eq
          have HS2 := Lib.hid (And.intro hperm hsort)
          have hlm := hI.few
          obtain ⟨Pv, cpv, hu, _, _⟩ := own_shapes ho2
          subst hu
          have HRd := Lib.hid (Reads.of_own ho1)
          have HLQ := Lib.hid hlq
          have HPv := Lib.hid ho2
          clear HDB hL2 hperm hsort hdl hI hlq ho1 ho2
          go_wp2_with fail
          refine (HDB'.out (some ⟨g, 0, none⟩) n vc _ HLEN.out HRd.out).mono ?_
          intro e w5 h5
          obtain ⟨pv5, rfl, hown5, hb5⟩ := h5
          obtain ⟨P5, pc5, rfl, _, _⟩ := own_shapes hown5
          have hB5 := HBJ.out.below hb5 (by have := HBJ.out.lt; omega)
          have f0 : w5.frozen? ⟨w2.heap.size, 0, none⟩ = false := hB5.frozen 0
          have f1 : w5.frozen? ⟨w2.heap.size, 1, none⟩ = false := hB5.frozen 1
          have f2 : w5.frozen? ⟨w2.heap.size, 2, none⟩ = false := hB5.frozen 2
          have g0 : w5.cell? ⟨w2.heap.size, 0, none⟩ = some (.int .i64 K) := (hB5.cell 0).trans rfl
          have g1 : w5.cell? ⟨w2.heap.size, 1, none⟩ = some (.slice none 0 0) := (hB5.cell 1).trans rfl
          have g2 : w5.cell? ⟨w2.heap.size, 2, none⟩ = some (.slice P k pc) := (hB5.cell 2).trans rfl
          have hlt5 := hB5.lt
          simp only [HLQ.out] at hown5 ⊢
          have HP5 := Lib.hid hown5
          have HB5 := Lib.hid hB5
          have HPv5 := Lib.hid (World.ownsRow.kept HPv.out (only_of_below hb5 none) (kept_none _))
          have HBL5 := Lib.hid (hbl.trans (hb5.mono (B' := w.heap.size) hbl.size))
          clear hown5 hB5 hb5 hbl
          go_wp2_with fail
          have hBW := ((HB5.out.set_ 0 (.int .i64 3)).set_ 1 (.slice none 0 0)).set_ 2 (.slice P5 l.length pc5)
          have hne5 : (Value.slice P5 l.length pc5).ownBlock ≠ some w2.heap.size := own_blk_ne HP5.out HB5.out (by decide)
          have hneP : (Value.slice Pv l.length cpv).ownBlock ≠ some w2.heap.size := own_blk_ne HPv5.out HB5.out (by decide)
          have ho5 := Reads.of_own (ownsRow_setCell_other (a := ⟨w2.heap.size, 2, none⟩) (ownsRow_setCell_other (a := ⟨w2.heap.size, 1, none⟩) (ownsRow_setCell_other (a := ⟨w2.heap.size, 0, none⟩) HP5.out hne5 (.int .i64 3)) hne5 (.slice none 0 0)) hne5 (.slice P5 l.length pc5))
          have hoP := Reads.of_own (ownsRow_setCell_other (a := ⟨w2.heap.size, 2, none⟩) (ownsRow_setCell_other (a := ⟨w2.heap.size, 1, none⟩) (ownsRow_setCell_other (a := ⟨w2.heap.size, 0, none⟩) HPv5.out hneP (.int .i64 3)) hneP (.slice none 0 0)) hneP (.slice P5 l.length pc5))
          have hbW := ((HBL5.out.setCell (p := ⟨w2.heap.size, 0, none⟩) hs2 (.int .i64 3)).setCell (p := ⟨w2.heap.size, 1, none⟩) hs2 (.slice none 0 0)).setCell (p := ⟨w2.heap.size, 2, none⟩) hs2 (.slice P5 l.length pc5)
          clear f0 f1 f2 g0 g1 g2 hlt5
          generalize ((w5.setCell ⟨w2.heap.size, 0, none⟩ (.int .i64 3)).setCell ⟨w2.heap.size, 1, none⟩ (.slice none 0 0)).setCell ⟨w2.heap.size, 2, none⟩ (.slice P5 l.length pc5) = W6 at *
          have g2 : W6.cell? ⟨w2.heap.size, 2, none⟩ = some (.slice P5 l.length pc5) := (hBW.cell 2).trans rfl
          have hltW := hBW.lt
          obtain ⟨N, hN⟩ : ∃ N, N = l.length := ⟨_, rfl⟩
          simp only [← hN] at g2 ho5 hoP hlm ⊢
          have HN := Lib.hid hN
          have HBW := Lib.hid hbW
          clear hN hBW hbW
          go_loopg [21] N (fun gk i wr => ∃ t m : Nat, i = .int .i64 t ∧ t ≤ N ∧ gk = N - t ∧ wr = W6.drewN m)
          case atStart => exact ⟨0, 0, rfl, Nat.zero_le _, rfl, rfl⟩
          case round =>
            obtain ⟨t, md, rfl, htN, hgt, rfl⟩ := hrel
            have HGT := Lib.hid hgt
            clear hgt
            by_cases ht : t < N
            · obtain ⟨pb, poff, rfl, hpb, hpc⟩ := ho5.flatN (by omega) (by omega)
              obtain ⟨qb, qoff, rfl, hqb, hqc⟩ := hoP.flatN (by omega) (by omega)
              have htl : t < L2.length := by rw [HLQ.out, ← HN.out]; exact ht
              obtain ⟨X, Y, hXY⟩ : ∃ X Y, (X, Y) = L2[t] := ⟨_, _, rfl⟩
              have hin : (X, Y) ∈ l := HS2.out.1.mem_iff.1 (by rw [hXY]; exact List.getElem_mem htl)
              obtain ⟨u, hu, hpl, hlu⟩ := place_mem HIJ.out.nodup hin
              have HPL : ∀ (W : World), (∀ x, W.cell? x = W6.cell? x) → Calls Try.prog 27 #[.slice (some ⟨qb, qoff, none⟩) N cpv, .int .i64 X] W fun e w' => e = .returned (.int .i64 (u : Int)) ∧ W = w' := fun W hW => by
                have := place_any (some ⟨qb, qoff, none⟩) N cpv l X W6.heap.size W (by omega) (hoP.keep fun p _ => hW p)
                rwa [hpl] at this
              have HPL' := Lib.hid HPL
              have px0 := prs_at L2 t 0 htl (by omega)
              have px1 := prs_at L2 t 1 htl (by omega)
              have py0 := prs_at l u 0 hu (by omega)
              have py1 := prs_at l u 1 hu (by omega)
              rw [← hXY] at px0 px1
              rw [hlu] at py0 py1
              have cx0 : W6.cell? ⟨pb, poff + t * 2, none⟩ = some (.int .i64 X) := hpc _ _ px0
              have cx1 : W6.cell? ⟨pb, poff + t * 2 + 1, none⟩ = some (.int .i64 Y) := hpc _ _ px1
              have cy0 : W6.cell? ⟨qb, qoff + u * 2, none⟩ = some (.int .i64 X) := hqc _ _ py0
              have cy1 : W6.cell? ⟨qb, qoff + u * 2 + 1, none⟩ = some (.int .i64 Y) := hqc _ _ py1
              have hti : (t : Int) < (N : Int) := by omega
              have huN : (u : Int) < (N : Int) := by have := HN.out; omega
              have hun : decide ((u : Int) < 0) = false := by simp
              rcases Nat.eq_zero_or_pos t with h0 | h0
              · subst h0
                simp only [Nat.zero_mul, Nat.add_zero] at cx0
                simp only [Nat.zero_mul, Nat.zero_add] at cx1
                have cx1' : W6.cell? ⟨pb, poff + 1, none⟩ = some (.int .i64 Y) := cx1
                clear hpc hqc hXY hin hlu hpl HPL px0 px1 py0 py1 hu
                go_wp2_with fail
                refine (HPL'.out (W6.drewN md) (fun _ => rfl)).mono ?_
                rintro e w7 ⟨rfl, rfl⟩
                go_wp2_with fail
                go_quiet (fail)
                go_wp2_with fail
                go_roundg (N - (0 + 1))
                case measure => have := HGT.out; omega
                case rel => exact ⟨0 + 1, _, by go_num, by omega, rfl, rfl⟩
              · obtain ⟨t', rfl⟩ : ∃ t', t = t' + 1 := ⟨t - 1, by omega⟩
                have htl' : t' < L2.length := by omega
                obtain ⟨X0, Y0, hXY0⟩ : ∃ X0 Y0, (X0, Y0) = L2[t'] := ⟨_, _, rfl⟩
                have pz0 := prs_at L2 t' 0 htl' (by omega)
                rw [← hXY0] at pz0
                have cz0 : W6.cell? ⟨pb, poff + t' * 2, none⟩ = some (.int .i64 X0) := hpc _ _ pz0
                have hlt := List.pairwise_iff_getElem.1 HS2.out.2 t' (t' + 1) htl' htl (by omega)
                rw [← hXY, ← hXY0] at hlt
                have hge : decide (X ≤ X0) = false := by simp; exact hlt
                clear hpc hqc hXY hin hlu hpl HPL px0 px1 py0 py1 hu hXY0 pz0 hlt
                go_wp2_with fail
                refine (HPL'.out (W6.drewN md) (fun _ => rfl)).mono ?_
                rintro e w7 ⟨rfl, rfl⟩
                go_wp2_with fail
                go_quiet (fail)
                go_wp2_with fail
                go_roundg (N - ((t' + 1) + 1))
                case measure => have := HGT.out; omega
                case rel => exact ⟨(t' + 1) + 1, _, by go_num, by omega, rfl, rfl⟩
            · obtain rfl : t = N := by omega
              go_wp2_with fail
              go_ret
              exact ⟨rfl, below_drewN HBW.out _⟩

theorem opened {H : Type} (enc : TypeId × Value → H) (W : World) (b0 : Nat) (v0 : Value) (d0 : DataW H) (p0 : List MemPlace) (v1 : Value) (d1 : DataW H) (p1 : List MemPlace) (v2 : Value) (d2 : DataW H) (p2 : List MemPlace)
    (hv0 : Value.okWide Try.prog W .any b0 3 v0) (h0 : DataW.Trod enc Try.prog W 0 (fun _ => true) true 3 v0 d0 p0)
    (hv1 : Value.okWide Try.prog W .any b0 24 v1) (h1 : DataW.Trod enc Try.prog W 0 (fun _ => true) true 24 v1 d1 p1)
    (hv2 : Value.okWide Try.prog W .any b0 52 v2) (h2 : DataW.Trod enc Try.prog W 0 (fun _ => true) true 52 v2 d2 p2)
    (hsz : (DataW.weightsEach Try.prog [3, 24, 52] [d0, d1, d2]).all (· ≤ reachBytes) = true) :
    Calls Try.prog 11 #[v0, v1, v2] W fun e W' => e = .returned (.bool true) ∧ Below W.heap.size W W' := by
  obtain ⟨a0, rfl, rfl, rfl, w0⟩ := open_int Try.underlying3 hv0 h0
  obtain ⟨A, n, nc, zs, rfl, hzl, hn, hnc, hA, wz, hd⟩ := param_ints Try.underlying24 Try.underlying2 (by kernel_rfl) (by kernel_rfl) hv1 h1
  obtain ⟨Q, q, qc, l, rfl, hl, hq, hQ, hG⟩ := param_calls hv2 h2
  have hn8 := hd hsz (j := 1) rfl rfl
  obtain ⟨K, E, L, hR⟩ : ∃ K E L, shapeR a0 zs = (K, E, L) := ⟨_, _, _, rfl⟩
  by_cases hE : E = 0
  · subst hE
    have hok : 0 ≤ a0 ∧ a0 ≤ 16 ∧ (zs.length : Int) = 3 * a0 + 1 := by
      apply Classical.byContradiction
      intro h
      rw [shapeR_no h] at hR
      simp at hR
    obtain ⟨h1, h2, h3⟩ := hok
    obtain ⟨m, rfl⟩ := Int.eq_ofNat_of_zero_le h1
    exact walk_yes m zs l A Q n nc q qc W hzl hn8 hA hq hl hQ hG hR (by omega) (shape_inv (by omega) (by omega) hR)
  · exact walk_no a0 zs A Q n nc q qc W hzl hn8 hA hR hE

/-! ### The row -/
set_option maxRecDepth 100000 in
theorem lifted (os : Os) (started : os.Started) (H : Type) (enc : TypeId × Value → H) :
    ReturnsInHanded {} Try.checked os 11 .any (Rows.dictMeansSpec.pre6 enc Try.prog Try.f11 Rows.dictMeansRow.domain false) (Rows.dictMeansSpec.post enc Try.prog Try.f11 false true false false) := by
  refine returnsInHanded_of_change_sized (C := Try.checked) own started (by kernel_rfl) Try.func11
    (ChangeSpec.witness6 (enc := enc) (C := Try.checked) false ⟨#[], #[.int .i64 0, .slice none 0 0, .slice none 0 0], []⟩ 8 (by kernel_rfl) (by kernel_rfl) (by kernel_rfl) (by kernel_rfl)) ?_
  intro W base args ds gs before hval0 hW hcnd hsz0 hholds
  have hval : ∀ (j : Nat) t v, Try.f11.params[j]? = some t → args[j]? = some v → Value.okWide Try.prog W .any base t v := hval0
  have hsz : (DataW.weightsEach Try.prog (Try.f11.params.toList ++ Rows.dictMeansSpec.plain.varTypes Try.prog) (ds ++ gs)).all (· ≤ reachBytes) = true := hsz0
  have hW' := hW
  obtain ⟨p, q, hA0, hV, rfl, hfz, hnd⟩ := hW
  have hA : DataW.TrodAll enc Try.prog W 0 (fun _ => true) true Try.f11.params.toList args.toList ds p := hA0
  obtain ⟨rfl, rfl⟩ := trodVars_none hV
  have hlt : ∀ x ∈ p, x.block < W.heap.size := fun x hx => hW'.lt x (by simpa using hx)
  rw [Try.params11] at hA hval hsz
  obtain ⟨v0, vs0, d0, ds0, p0, q0, hargs, rfl, rfl, h0, r0⟩ := trodAll_cons hA
  obtain ⟨v1, vs1, d1, ds1, p1, q1, rfl, rfl, rfl, h1, r1⟩ := trodAll_cons r0
  obtain ⟨v2, vs2, d2, ds2, p2, q2, rfl, rfl, rfl, h2, r2⟩ := trodAll_cons r1
  obtain ⟨rfl, rfl, rfl⟩ := trodAll_nil r2
  obtain rfl : args = #[v0, v1, v2] := by cases args; simp_all
  clear hA0 hval0 hsz0
  refine (opened enc W base v0 d0 p0 v1 d1 p1 v2 d2 p2 (hval 0 _ v0 rfl rfl) h0 (hval 1 _ v1 rfl rfl) h1 (hval 2 _ v2 rfl rfl) h2 hsz).mono fun e W' ⟨he, bel⟩ => ?_
  subst he
  exact ⟨_, rfl, _, _, _, [], _, [], hW', trodAll_mk1 (shut_bool Try.underlying4 _), Below.trodAll laidOut (by intro t ht; have ht' : t ∈ [3, 24, 52] := ht; clear ht; simp only [List.mem_cons, List.not_mem_nil, or_false] at ht'; rcases ht' with rfl | rfl | rfl <;> exact ⟨by kernel_rfl, of_decide_eq_true (by kernel_rfl)⟩) hA bel hlt, rfl, bel.frame _, fun h => by cases h⟩

theorem over : Rows.dictMeansRow.holds Try.pinned (OpenSpec.ofChange Rows.dictMeansSpec) :=
  OpenClaim.holds_of_wide 11 Try.f11 rfl rfl rfl rfl rfl rfl rfl ⟨rfl, rfl, rfl, rfl, rfl⟩ rfl rfl rfl rfl rfl (by kernel_rfl) Try.func11 (by kernel_rfl)
    (of_decide_eq_true (by kernel_rfl)) (by unfold Func.isWrapper; first | (rw [if_pos (by decide +kernel)]; kernel_rfl) | (rw [if_neg (by decide +kernel)]; exact ⟨rfl, rfl⟩))
    (fun os started H enc _ => lifted os started H enc)

/-- THE STATEMENT -/
theorem proved : Rows.DictMeansSaid := over
#print axioms proved
end Go.Proofs.Ytjggcidaolnmbaa.dictMeans
