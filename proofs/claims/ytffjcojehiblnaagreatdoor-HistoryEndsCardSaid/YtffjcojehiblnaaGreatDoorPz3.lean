/- The document's value and before: a cell as transactions left it. -/
import Derived.Test.YtffjcojehiblnaaGreatDoorPz1
import Derived.Test.YtffjcojehiblnaaGreatDoorPt
import Derived.Deep.CutRange
import Derived.BigGuardPart
namespace Go.Proofs.YtffjcojehiblnaaGreatDoor
open Go.RowKit Go.Joins Go.ChangeShapes Go.WideShapes Go.Deep
set_option linter.unusedVariables false
set_option linter.unusedSimpArgs false
set_option maxRecDepth 100000

/-- What value answers. -/
def valR (o : Option Int) : Value := .tuple #[.int .i64 (o.getD 0), .bool o.isSome]
set_option maxHeartbeats 1000000 in
theorem value_any (A : Option Addr) (n nc : Nat) (l : List Ev) (tx c : Int) (B : Nat) (w : World) (hl : l.length = n) (hn : n * 152 ≤ 140737488351232) (hR : Reads w B 19 A n (evs l)) :
    Calls Tryz.prog 40 #[.slice A n nc, .int .i64 n, .int .i64 tx, .int .i64 c] w fun r w' => r = .returned (valR (valueF l tx c n)) ∧ w' = w := by
  have hn8 : n ≤ 925904528640 := by omega
  have HR := Lib.hid hR
  have HL := Lib.hid hl
  obtain ⟨V, hV⟩ : ∃ V, V = valueF l tx c n := ⟨_, rfl⟩
  rw [← hV]
  have HV := Lib.hid hV
  clear hR hn hl hV
  go_enter Tryz.func40, Tryz.ntmps40
  go_wp2_with fail
  go_loopg [10] n (fun gk iv wr => ∃ i : Nat, iv = .int .i64 ((i : Int) - 1) ∧ i ≤ n ∧ gk = i ∧ V = valueF l tx c i ∧ wr = w)
  case atStart => exact ⟨n, rfl, Nat.le_refl _, rfl, HV.out, rfl⟩
  case round =>
    obtain ⟨i, rfl, hin, hgk, hq, rfl⟩ := hrel
    have HG := Lib.hid hgk
    have HQ := Lib.hid hq
    clear hgk hq
    rcases Nat.eq_zero_or_pos i with h0 | h0
    · have HZ : Hid (V = none) := Lib.hid (by rw [HQ.out, h0]; rfl)
      subst h0
      rw [show ((0 : Nat) : Int) - 1 = -1 from rfl]
      go_wp2_with fail
      go_ret2
      exact ⟨by rw [HZ.out]; rfl, rfl⟩
    · obtain ⟨q, rfl⟩ : ∃ q, i = q + 1 := ⟨i - 1, by omega⟩
      rw [show ((q + 1 : Nat) : Int) - 1 = (q : Int) by omega]
      have hql : q < l.length := by rw [HL.out]; omega
      obtain ⟨bb, off, rfl, hbb, hcc⟩ := reads_flat HR.out (by omega) (by decide)
      obtain ⟨e, he⟩ : ∃ e, e = l[q] := ⟨_, rfl⟩
      have v3 : wr.cell? ⟨bb, off + q * 19 + 3, none⟩ = some (.int .i64 e.kind) := by rw [Nat.add_assoc]; exact hcc _ _ (by rw [evs_at l q 3 hql (by omega), ← he]; rfl)
      have v2 : wr.cell? ⟨bb, off + q * 19 + 2, none⟩ = some (.int .i64 e.tx) := by rw [Nat.add_assoc]; exact hcc _ _ (by rw [evs_at l q 2 hql (by omega), ← he]; rfl)
      have v4 : wr.cell? ⟨bb, off + q * 19 + 4, none⟩ = some (.int .i64 e.cell) := by rw [Nat.add_assoc]; exact hcc _ _ (by rw [evs_at l q 4 hql (by omega), ← he]; rfl)
      have v5 : wr.cell? ⟨bb, off + q * 19 + 5, none⟩ = some (.int .i64 e.value) := by rw [Nat.add_assoc]; exact hcc _ _ (by rw [evs_at l q 5 hql (by omega), ← he]; rfl)
      have HS : Hid (V = if e.kind = 3 ∧ e.tx = tx ∧ e.cell = c then some e.value else valueF l tx c q) := Lib.hid (by rw [HQ.out, valueF_succ l tx c q hql, he])
      have hk8 : (q : Int) + 1 ≤ 9223372036854775807 := by omega
      have y5 : (q : Int) < (n : Int) := by omega
      have y6 : IntKind.i64.wrap ((q : Int) - 1) = (q : Int) - 1 := IntWalk.i64_in _ ⟨by omega, by omega⟩
      clear hcc he hql
      obtain ⟨kd, hkd⟩ : ∃ z, z = e.kind := ⟨_, rfl⟩
      obtain ⟨et, het⟩ : ∃ z, z = e.tx := ⟨_, rfl⟩
      obtain ⟨ec, hec⟩ : ∃ z, z = e.cell := ⟨_, rfl⟩
      rw [← hkd] at v3
      rw [← het] at v2
      rw [← hec] at v4
      rw [← hkd, ← het, ← hec] at HS
      clear hkd het hec
      by_cases c1 : kd = 3
      · subst c1
        by_cases c2 : et = tx
        · subst c2
          by_cases c3 : ec = c
          · subst c3
            go_wp2_with fail
            go_ret2
            exact ⟨by rw [HS.out, if_pos (by simp)]; rfl, rfl⟩
          · have d3 : (ec == c) = false := by simp [c3]
            have d3' : decide (ec = c) = false := decide_eq_false c3
            have HC := Lib.hid c3
            clear c3
            go_wp2_with fail
            go_roundg q
            case measure => have := HG.out; omega
            case rel => exact ⟨q, rfl, by omega, rfl, by rw [HS.out, if_neg (fun hh => HC.out hh.2.2)], rfl⟩
        · have d2 : (et == tx) = false := by simp [c2]
          have d2' : decide (et = tx) = false := decide_eq_false c2
          have HC := Lib.hid c2
          clear c2
          go_wp2_with fail
          go_roundg q
          case measure => have := HG.out; omega
          case rel => exact ⟨q, rfl, by omega, rfl, by rw [HS.out, if_neg (fun hh => HC.out hh.2.1)], rfl⟩
      · have d1 : (kd == 3) = false := by simp [c1]
        have d1' : decide (kd = 3) = false := decide_eq_false c1
        have HC := Lib.hid c1
        clear c1
        go_wp2_with fail
        go_roundg q
        case measure => have := HG.out; omega
        case rel => exact ⟨q, rfl, by omega, rfl, by rw [HS.out, if_neg (fun hh => HC.out hh.1)], rfl⟩
set_option maxHeartbeats 1000000 in
theorem before_any (A T O : Option Addr) (n nc m tc k oc : Nat) (l : List Ev) (b : Book) (L : List Nat) (c : Int) (B : Nat) (w : World) (hl : l.length = n) (hn : n * 152 ≤ 140737488351232) (hR : Reads w B 19 A n (evs l)) (hm : b.l.length = m) (hT : Reads w B 6 T m (txzs (b.l.map TxP.z)))
    (hk : L.length = k) (hO : Reads w B 1 O k (natV L)) (hL : ∀ i ∈ L, i < m) (hm8 : m ≤ 925904528640) (hk8 : k ≤ 925904528640) (hst : StInv b) (hS : SInv l b) :
    Calls Tryz.prog 24 #[.slice A n nc, .slice T m tc, .slice O k oc, .int .i64 k, .int .i64 c] w fun r w' => r = .returned (.int .i64 (valF (L.map fun i => b.l.getD i t00) c)) ∧ w' = w := by
  have HV0 : Hid (∀ (tx : Int), Calls Tryz.prog 40 #[.slice A n nc, .int .i64 n, .int .i64 tx, .int .i64 c] w fun r w' => r = .returned (valR (valueF l tx c n)) ∧ w' = w) := Lib.hid fun tx => value_any A n nc l tx c B w hl hn hR
  have HT := Lib.hid hT
  have HO := Lib.hid hO
  have HK := Lib.hid hk
  have HL := Lib.hid hL
  have HM := Lib.hid hm
  have HST := Lib.hid hst
  have HSS := Lib.hid hS
  have HLN := Lib.hid hl
  obtain ⟨V, hV⟩ : ∃ V, V = valF (L.map fun i => b.l.getD i t00) c := ⟨_, rfl⟩
  rw [← hV]
  have HV := Lib.hid hV
  clear hR hT hO hk hL hm hst hS hl hn hV
  go_enter Tryz.func24, Tryz.ntmps24
  go_wp2_with fail
  go_loopg [11] k (fun gk iv wr => ∃ i : Nat, iv = .int .i64 ((i : Int) - 1) ∧ i ≤ k ∧ gk = i ∧ V = valF ((L.take i).map fun i => b.l.getD i t00) c ∧ wr = w)
  case atStart => exact ⟨k, rfl, Nat.le_refl _, rfl, by rw [HV.out, List.take_of_length_le (by rw [HK.out]; exact Nat.le_refl _)], rfl⟩
  case round =>
    obtain ⟨i, rfl, hin, hgk, hq, rfl⟩ := hrel
    have HG := Lib.hid hgk
    have HQ := Lib.hid hq
    clear hgk hq
    rcases Nat.eq_zero_or_pos i with h0 | h0
    · have HZ : Hid (V = 0) := Lib.hid (by rw [HQ.out, h0]; rfl)
      subst h0
      rw [show ((0 : Nat) : Int) - 1 = -1 from rfl]
      go_wp2_with fail
      go_ret
      exact ⟨by rw [HZ.out]; rfl, rfl⟩
    · obtain ⟨q, rfl⟩ : ∃ q, i = q + 1 := ⟨i - 1, by omega⟩
      rw [show ((q + 1 : Nat) : Int) - 1 = (q : Int) by omega]
      have hqL : q < L.length := by rw [HK.out]; omega
      obtain ⟨v, hv⟩ : ∃ v, v = L[q] := ⟨_, rfl⟩
      have hvm : v < m := by rw [hv]; exact HL.out _ (List.getElem_mem hqL)
      have hvb : v < b.l.length := by rw [HM.out]; exact hvm
      obtain ⟨tb, to_, rfl, htb, htc⟩ := reads_flat HT.out (by omega) (by decide)
      obtain ⟨ob, oo, rfl, hob, hoc⟩ := reads_flat HO.out (by omega) (by decide)
      have c1 : wr.cell? ⟨ob, oo + q, none⟩ = some (.int .i64 v) := by rw [hoc q _ (natV_at L hqL), hv]
      obtain ⟨s, hs⟩ : ∃ s, s = (b.l[v]).stamp := ⟨_, rfl⟩
      have c2 : wr.cell? ⟨tb, to_ + v * 6 + 3, none⟩ = some (.int .i64 s) := txz_at htc (k := v) (by simpa using hvb) 3 (.int .i64 s) (by simp [TxZ.cells, TxP.z, hs])
      have hs0 : 0 ≤ s := by rw [hs]; exact (HST.out.rng _ (List.getElem_mem hvb)).1
      obtain ⟨o, ho⟩ : ∃ o, o = valueF l v c n := ⟨_, rfl⟩
      have HS : Hid (V = if s ≠ 0 then o.getD (valF ((L.take q).map fun i => b.l.getD i t00) c) else valF ((L.take q).map fun i => b.l.getD i t00) c) := Lib.hid (by
        rw [HQ.out, List.take_succ_eq_append_getElem hqL, List.map_append, List.map_cons, List.map_nil, valF_snoc, ← hv, getD_at hvb]
        unfold stepV
        rw [ho, hs, ← HLN.out, valueF_steps HSS.out hvb])
      have HCV := HV0.out v
      rw [← ho] at HCV
      have HCC := Lib.hid HCV
      have y5 : (q : Int) < (k : Int) := by omega
      have y7 : (v : Int) < (m : Int) := by omega
      have y6 : IntKind.i64.wrap ((q : Int) - 1) = (q : Int) - 1 := IntWalk.i64_in _ ⟨by omega, by omega⟩
      clear htc hoc hs hv hqL HCV ho
      go_upto_region 5 with (go_at_call 40; refine HCC.out.mono ?_; rintro r w1 ⟨hr, hw⟩; subst hr; subst hw; unfold valR)
      cases o with
      | none =>
        go_wp2_with fail
        go_roundg q
        case measure => have := HG.out; omega
        case rel => exact ⟨q, rfl, by omega, rfl, by rw [HS.out]; simp, rfl⟩
      | some x =>
        by_cases h1 : s = 0
        · subst h1
          go_wp2_with fail
          go_roundg q
          case measure => have := HG.out; omega
          case rel => exact ⟨q, rfl, by omega, rfl, by rw [HS.out]; simp, rfl⟩
        · have d1 : decide (0 < s) = true := decide_eq_true (by omega)
          have H1 := Lib.hid h1
          clear h1
          go_wp2_with fail
          go_ret
          exact ⟨by rw [HS.out, if_pos H1.out]; rfl, rfl⟩
end Go.Proofs.YtffjcojehiblnaaGreatDoor

/- The document's Final of every history. -/
namespace Go.Proofs.YtffjcojehiblnaaGreatDoor
open Go.RowKit Go.Joins Go.ChangeShapes Go.WideShapes Go.Deep
set_option linter.unusedVariables false
set_option linter.unusedSimpArgs false
set_option maxRecDepth 100000

theorem info_i64e : (Tryz.prog.info? 2).map (fun i => (i.zero, i.size, i.bytes)) = some (some (.int .i64 0), 1, 8) := by kernel_rfl
def intV (l : List Int) : List Value := l.map fun x : Int => Value.int .i64 x
theorem intV_length (l : List Int) : (intV l).length = l.length := by simp [intV]
theorem news_i64 (W : World) (k : Int) : ∀ j u, ([.int .i64 k] : List Value)[j]? = some u → (W.alloc (.cells #[.int .i64 k] 2)).cell? ((⟨W.heap.size, 0, none⟩ : Addr).add j) = some u := World.news_of_block (cs := #[.int .i64 k]) (t := 2) (fr := (0, 0)) (heap_alloc_new W _)
/-- So many cells in the end. -/
def finL (ts : List TxP) (n : Nat) : List Int := (List.range n).map fun c : Nat => valF ts (c : Int)
theorem finL_succ (ts : List TxP) (n : Nat) : finL ts (n + 1) = finL ts n ++ [valF ts n] := by simp [finL, List.range_succ]
theorem finL_length (ts : List TxP) (n : Nat) : (finL ts n).length = n := by simp [finL]
theorem own_lower2 {w : World} {B B' e size n : Nat} {v : Value} {xs : List Value} (h : w.ownsRow B e size v n xs) (hB : B' ≤ B) : w.ownsRow B' e size v n xs :=
  ⟨h.1, h.2.imp id fun ⟨g, cap, cur, a, b, r⟩ => ⟨g, cap, cur, a, by omega, r⟩⟩
theorem ordL_len {b : Book} (I : StInv b) (n : Nat) : (ordL b.l n).length ≤ b.l.length := by
  have h1 : (ordL b.l n).Perm ((List.range b.l.length).filter fun i => decide (1 ≤ (b.l.getD i t00).stamp ∧ (b.l.getD i t00).stamp ≤ n)) := by
    refine (List.perm_ext_iff_of_nodup ?_ (List.nodup_range.filter _)).2 fun i => ?_
    · exact (ordL_pw I n).imp fun h e => by subst e; omega
    · rw [ordL_mem, List.mem_filter, List.mem_range, decide_eq_true_eq]
  rw [h1.length_eq]
  exact Nat.le_trans (List.length_filter_le _ _) (by simp)
/-- The order, in the midst of a stamp. -/
def ordM (ts : List TxP) (s i : Nat) : List Nat := ordL ts s ++ (List.range i).filter fun i => decide ((ts.getD i t00).stamp = (s : Int) + 1)
theorem ordM_zero (ts : List TxP) (s : Nat) : ordM ts s 0 = ordL ts s := by simp [ordM]
theorem ordM_succ (ts : List TxP) (s i : Nat) : ordM ts s (i + 1) = if (ts.getD i t00).stamp = (s : Int) + 1 then ordM ts s i ++ [i] else ordM ts s i := by
  unfold ordM
  rw [List.range_succ, List.filter_append]
  split
  · next h => rw [show List.filter (fun i => decide ((ts.getD i t00).stamp = (s : Int) + 1)) [i] = [i] by rw [List.filter_cons_of_pos (by simpa using h)]; rfl, List.append_assoc]
  · next h => rw [show List.filter (fun i => decide ((ts.getD i t00).stamp = (s : Int) + 1)) [i] = [] by rw [List.filter_cons_of_neg (by simpa using h)]; rfl, List.append_nil]
theorem ordM_all (ts : List TxP) (s : Nat) : ordM ts s ts.length = ordL ts (s + 1) := (ordL_succ ts s).symm
theorem ordM_len {b : Book} (I : StInv b) {s i : Nat} (hi : i ≤ b.l.length) : (ordM b.l s i).length ≤ b.l.length := by
  refine Nat.le_trans ?_ (ordL_len I (s + 1))
  rw [ordL_succ]
  unfold ordM
  rw [List.length_append, List.length_append]
  have : ((List.range i).filter fun i => decide ((b.l.getD i t00).stamp = (s : Int) + 1)).length ≤ ((List.range b.l.length).filter fun i => decide ((b.l.getD i t00).stamp = (s : Int) + 1)).length :=
    ((List.range_sublist.2 hi).filter _).length_le
  omega
def RFinPost (w : World) (b : Book) (N : Nat) : Ending → World → Prop := fun r w' => ∃ ov, r = .returned (.tuple #[ov, .int .i64 0]) ∧ w'.ownsRow w.heap.size 2 1 ov N (intV (finL ((ordL b.l b.l.length).map fun i => b.l.getD i t00) N)) ∧ Below w.heap.size w w'

set_option maxHeartbeats 2000000 in
theorem rfinal_good (A : Option Addr) (n nc N : Nat) (l : List Ev) (b : Book) (w : World) (hl : l.length = n) (hn : n * 152 ≤ 140737488351232) (hR : Reads w w.heap.size 19 A n (evs l)) (hbl : b.l.length ≤ n) (hst : StInv b) (hS : SInv l b) (hN : N ≤ 1024)
    (HT : Hid (Calls Tryz.prog 19 #[.slice A n nc] w fun r w' => ∃ ov, r = .returned (.tuple #[ov, .int .i64 0, .int .i64 0]) ∧ w'.ownsRow w.heap.size 50 6 ov b.l.length (txzs (b.l.map TxP.z)) ∧ Below w.heap.size w w')) :
    Calls Tryz.prog 10 #[.slice A n nc, .int .i64 N] w (RFinPost w b N) := by
  obtain ⟨i0, hi0, hz0, hz1, hz2⟩ := info_parts info_int
  obtain ⟨i1, hj0, hj1, hj2, hj3⟩ := info_parts info_i64e
  obtain ⟨m, hm⟩ : ∃ m, m = b.l.length := ⟨_, rfl⟩
  have hm8 : m ≤ 925904528640 := by omega
  have HM := Lib.hid hm
  have HST := Lib.hid hst
  have HSI := Lib.hid hS
  have HR := Lib.hid hR
  have HLN := Lib.hid hl
  have HNN := Lib.hid hn
  have g1 : decide ((N : Int) < 0) = false := decide_eq_false (by omega)
  have g2 : decide ((1024 : Int) < (N : Int)) = false := decide_eq_false (by omega)
  have g3 : decide (1024 < N) = false := decide_eq_false (by omega)
  unfold RFinPost
  rw [← hm] at HT ⊢
  clear hm hn hbl hst hS hR hl
  go_enter Tryz.func10, Tryz.ntmps10
  go_wp2_with (go_at_call 19; refine HT.out.mono ?_; rintro r w1 ⟨lv, hr, hown1, hb1⟩; subst hr; obtain ⟨R, cc, hlv, hmc, hRd⟩ := own_shapes hown1; subst hlv)
  have HRD := Lib.hid hRd
  have HB1 := Lib.hid hb1
  have hw1 := hb1.size
  clear hRd hb1 hown1 hmc HT
  go_loopg [9, 10] m (fun gk ov sv wr => ∃ s : Nat, sv = .int .i64 ((s : Int) + 1) ∧ s ≤ m ∧ gk = m - s ∧ wr.ownsRow w1.heap.size 3 1 ov (ordL b.l s).length (natV (ordL b.l s)) ∧ Below w1.heap.size w1 wr)
  case atStart => exact ⟨0, rfl, Nat.zero_le _, rfl, World.ownsRow_nil _ _ _ _, Below.refl _ _⟩
  case round =>
    obtain ⟨wo, rfl⟩ : ∃ wo, wo = wr := ⟨_, rfl⟩
    obtain ⟨s, rfl, hsm, hgk, hown, hbel⟩ := hrel
    have HG := Lib.hid hgk
    have HO := Lib.hid hown
    have HBE := Lib.hid hbel
    have hws := hbel.size
    clear hgk hown hbel
    by_cases hs : s < m
    · have e1 : decide ((s : Int) + 1 ≤ (m : Int)) = true := decide_eq_true (by omega)
      have e1n : decide (s + 1 ≤ m) = true := decide_eq_true (by omega)
      go_wp2_with fail
      go_loopg [9, 11] m (fun gk ov iv wr => ∃ i : Nat, iv = .int .i64 i ∧ i ≤ m ∧ gk = m - i ∧ wr.ownsRow w1.heap.size 3 1 ov (ordM b.l s i).length (natV (ordM b.l s i)) ∧ Below w1.heap.size w1 wr)
      case atStart => exact ⟨0, rfl, Nat.zero_le _, rfl, by rw [ordM_zero]; exact HO.out, HBE.out⟩
      case round =>
        clear HO HBE hws
        obtain ⟨i, rfl, him, hgi, hown, hbel⟩ := hrel
        have HGI := Lib.hid hgi
        have HO := Lib.hid hown
        have HBE := Lib.hid hbel
        have hws := hbel.size
        clear hgi hown hbel
        by_cases hi : i < m
        · have hib : i < b.l.length := by have := HM.out; omega
          obtain ⟨tb, to_, rfl, htb, htc⟩ := reads_flat HRD.out (by omega) (by decide)
          obtain ⟨z, hz⟩ : ∃ z, z = (b.l[i]).stamp := ⟨_, rfl⟩
          have c1 : wr.cell? ⟨tb, to_ + i * 6 + 3, none⟩ = some (.int .i64 z) := (HBE.out.cell (p := ⟨tb, to_ + i * 6 + 3, none⟩) htb).trans (txz_at htc (k := i) (by simpa using hib) 3 (.int .i64 z) (by simp [TxZ.cells, TxP.z, hz]))
          have hsu := ordM_succ b.l s i
          rw [getD_at hib, ← hz] at hsu
          have hlen : (ordM b.l s i).length ≤ m := by rw [HM.out]; exact ordM_len HST.out (by omega)
          have HSU := Lib.hid hsu
          have e2 : decide ((i : Int) < (m : Int)) = true := decide_eq_true (by omega)
          have hi8 : (i : Int) + 1 ≤ 9223372036854775807 := by omega
          clear htc hz hsu
          by_cases h1 : z = (s : Int) + 1
          · subst h1
            go_wp2_with (at_builtin; go_must (refine wpList_append_lies _ rfl (.tmp 49) (.tmp 51) 24 rfl w1.heap.size 3 i0 _ 1 8 Tryz.underlying24 hi0 hz0 hz1 hz2 rfl (by decide) _ (ordM b.l s i).length _ rfl (HO.out.alloc _) ⟨wr.heap.size, 0, none⟩ 1 1 [.int .i64 i] rfl rfl (news_int wr i) (by simp [Value.oneCell']) (by omega) (by unfold maxLen; omega) (by omega) (by simp; omega) (wr.heap.size + 1) (by simp) ?_; intro gg cap w2 hown2 hgrow hat hlt2))
            have hgr : Below w1.heap.size w1 w2 := (Below.alloc HBE.out hws _).trans (below_grown (HO.out.alloc _) hgrow (by simp; omega))
            have hrow : natV (ordM b.l s (i + 1)) = natV (ordM b.l s i) ++ [.int .i64 i] := by rw [HSU.out]; simp [natV]
            have hln : (ordM b.l s (i + 1)).length = (ordM b.l s i).length + 1 := by rw [HSU.out]; simp
            rw [← hrow, ← hln] at hown2
            clear hgrow hat
            go_wp2_with fail
            go_roundg (m - (i + 1))
            case measure => have := HGI.out; omega
            case rel => exact ⟨i + 1, by go_num, by omega, rfl, by rw [hln] at hown2 ⊢; exact hown2, hgr⟩
          · have d1 : (z == (s : Int) + 1) = false := by simp [h1]
            have d2 : decide (z = (s : Int) + 1) = false := decide_eq_false h1
            have H1 := Lib.hid h1
            clear h1
            go_wp2_with fail
            go_roundg (m - (i + 1))
            case measure => have := HGI.out; omega
            case rel => exact ⟨i + 1, by go_num, by omega, rfl, by rw [HSU.out, if_neg H1.out]; exact HO.out, HBE.out⟩
        · obtain rfl : i = m := by omega
          have e2 : decide ((i : Int) < (i : Int)) = false := by simp
          go_wp2_with fail
          go_roundg (i - (s + 1))
          case measure => have := HG.out; omega
          case rel =>
            have hall : ordM b.l s i = ordL b.l (s + 1) := by rw [HM.out]; exact ordM_all b.l s
            exact ⟨s + 1, by congr 1 <;> omega, by omega, rfl, by rw [← hall]; exact HO.out, HBE.out⟩
    · obtain rfl : s = m := by omega
      have e1 : decide ((s : Int) + 1 ≤ (s : Int)) = false := decide_eq_false (by omega)
      have e1n : decide (s + 1 ≤ s) = false := decide_eq_false (by omega)
      obtain ⟨R5, c5, hv5, _, hR5⟩ := own_shapes HO.out
      subst hv5
      have hwb : Below w.heap.size w wo := HB1.out.trans (HBE.out.mono hw1)
      have HBEF : Hid (∀ (wy : World) (c : Int), Below wo.heap.size wo wy → Calls Tryz.prog 24 #[.slice A n nc, .slice R s cc, .slice R5 (ordL b.l s).length c5, .int .i64 ((ordL b.l s).length : Nat), .int .i64 c] wy fun r w' => r = .returned (.int .i64 (valF ((ordL b.l s).map fun i => b.l.getD i t00) c)) ∧ w' = wy) := Lib.hid fun wy c hy => by
        have h1 := hwb.trans (hy.mono hwb.size)
        have h2 := HBE.out.trans (hy.mono hws)
        exact before_any A R R5 n nc s cc (ordL b.l s).length c5 l b (ordL b.l s) c wo.heap.size wy HLN.out HNN.out ((HR.out.below h1).more hwb.size) HM.out.symm ((HRD.out.below h2).more hws) rfl (hR5.below hy) (fun i hi => by have := (ordL_mem b.l s i).1 hi; have := HM.out; omega) hm8 (by have := ordL_len HST.out s; have := HM.out; omega) HST.out HSI.out
      obtain ⟨Lt, hLt⟩ : ∃ Lt, Lt = (ordL b.l s).map fun i => b.l.getD i t00 := ⟨_, rfl⟩
      obtain ⟨k, hk⟩ : ∃ k, k = (ordL b.l s).length := ⟨_, rfl⟩
      rw [← hLt, ← hk] at HBEF
      rw [← hk]
      have HLT := Lib.hid hLt
      have HWB := Lib.hid hwb
      have hk8 : k ≤ 925904528640 := by have := ordL_len HST.out s; have := HM.out; omega
      have hwo := hwb.size
      clear hLt hk hwb hR5 HO HBE HR HRD HB1
      go_wp2_with fail
      go_loopg [12, 13] N (fun gk ov cv wy => ∃ c : Nat, cv = .int .i64 c ∧ c ≤ N ∧ gk = N - c ∧ wy.ownsRow wo.heap.size 2 1 ov c (intV (finL Lt c)) ∧ Below wo.heap.size wo wy)
      case atStart => exact ⟨0, rfl, Nat.zero_le _, rfl, World.ownsRow_nil _ _ _ _, Below.refl _ _⟩
      case round =>
        obtain ⟨c, rfl, hcN, hgc, hown, hbel⟩ := hrel
        have HGC := Lib.hid hgc
        have HO := Lib.hid hown
        have HBY := Lib.hid hbel
        have hwy := hbel.size
        clear hgc hown hbel
        by_cases hc : c < N
        · have HCC := Lib.hid (HBEF.out wr c HBY.out)
          have e2 : decide ((c : Int) < (N : Int)) = true := decide_eq_true (by omega)
          have hc8 : (c : Int) + 1 ≤ 9223372036854775807 := by omega
          go_upto_region 20 with (go_at_call 24; refine HCC.out.mono ?_; rintro r w2 ⟨hr, hw⟩; subst hr; subst hw)
          go_wp2_with (at_builtin; go_must (refine wpList_append_lies _ rfl (.tmp 65) (.tmp 67) 32 rfl wo.heap.size 2 i1 _ 1 8 Tryz.underlying32 hj0 hj1 hj2 hj3 rfl (by decide) _ c _ rfl (HO.out.alloc _) ⟨w2.heap.size, 0, none⟩ 1 1 [.int .i64 (valF Lt c)] rfl rfl (news_i64 w2 _) (by simp [Value.oneCell']) (by omega) (by unfold maxLen; omega) (by omega) (by simp; omega) (w2.heap.size + 1) (by simp) ?_; intro gg cap w3 hown3 hgrow hat hlt2))
          have hgr : Below wo.heap.size wo w3 := (Below.alloc HBY.out hwy _).trans (below_grown (HO.out.alloc _) hgrow (by simp; omega))
          have hrow : intV (finL Lt (c + 1)) = intV (finL Lt c) ++ [.int .i64 (valF Lt c)] := by rw [finL_succ]; simp [intV]
          rw [← hrow] at hown3
          clear hgrow hat
          go_wp2_with fail
          go_roundg (N - (c + 1))
          case measure => have := HGC.out; omega
          case rel => exact ⟨c + 1, by go_num, by omega, rfl, hown3, hgr⟩
        · obtain rfl : c = N := by omega
          have e2 : decide ((c : Int) < (c : Int)) = false := by simp
          go_wp2_with fail
          go_ret2
          refine ⟨_, rfl, ?_, HWB.out.trans (HBY.out.mono hwo)⟩
          have h := HO.out
          rw [HLT.out] at h
          exact own_lower2 h hwo
theorem rfinal_arg (A : Option Addr) (n nc : Nat) (N : Int) (b : Book) (w : World) (hN : N < 0 ∨ 1024 < N)
    (HT : Hid (Calls Tryz.prog 19 #[.slice A n nc] w fun r w' => ∃ ov, r = .returned (.tuple #[ov, .int .i64 0, .int .i64 0]) ∧ w'.ownsRow w.heap.size 50 6 ov b.l.length (txzs (b.l.map TxP.z)) ∧ Below w.heap.size w w')) :
    Calls Tryz.prog 10 #[.slice A n nc, .int .i64 N] w fun r w' => r = .returned (.tuple #[.slice none 0 0, .int .i64 1]) ∧ Below w.heap.size w w' := by
  rcases hN with hN | hN
  · have g1 : decide (N < 0) = true := decide_eq_true hN
    go_enter Tryz.func10, Tryz.ntmps10
    go_wp2_with (go_at_call 19; refine HT.out.mono ?_; rintro r w1 ⟨lv, hr, hown1, hb1⟩; subst hr)
    go_ret2
    exact ⟨rfl, hb1⟩
  · have g1 : decide (N < 0) = false := decide_eq_false (by omega)
    have g2 : decide (1024 < N) = true := decide_eq_true hN
    go_enter Tryz.func10, Tryz.ntmps10
    go_wp2_with (go_at_call 19; refine HT.out.mono ?_; rintro r w1 ⟨lv, hr, hown1, hb1⟩; subst hr)
    go_ret2
    exact ⟨rfl, hb1⟩
theorem rfinal_bad (A : Option Addr) (n nc : Nat) (N : Int) (q : Nat) (w : World)
    (HT : Hid (Calls Tryz.prog 19 #[.slice A n nc] w fun r w' => r = .returned (.tuple #[.slice none 0 0, .int .i64 14, .int .i64 q]) ∧ Below w.heap.size w w')) :
    Calls Tryz.prog 10 #[.slice A n nc, .int .i64 N] w fun r w' => r = .returned (.tuple #[.slice none 0 0, .int .i64 14]) ∧ Below w.heap.size w w' := by
  go_enter Tryz.func10, Tryz.ntmps10
  go_wp2_with (go_at_call 19; refine HT.out.mono ?_; rintro r w1 ⟨hr, hb1⟩; subst hr)
  go_ret2
  exact ⟨rfl, hb1⟩
end Go.Proofs.YtffjcojehiblnaaGreatDoor
