/- The library's Insert at int64. -/
import Derived.Test.YtpmpgnhbpneloaaQc
namespace Go.Proofs.Ytpmpgnhbpneloaa
open Go.RowKit Go.Joins Go.ChangeShapes Go.WideShapes Go.Deep
set_option linter.unusedVariables false
set_option maxRecDepth 100000

theorem info_insP : (Try.prog.info? 54).map (fun i => (i.zero, i.size, i.bytes)) = some (some (.agg #[.int .i64 0, .int .i64 0]), 2, 16) := by kernel_rfl

set_option maxHeartbeats 2000000 in
theorem insert_shiftP (g n c i vb : Nat) (cur : Array Value) (xs news : List Value) (w : World) (hn16 : n ≤ 1000) (hi : i < n) (hroom : n + 1 ≤ c) (hc63 : c ≤ 9223372036854775807) (hvb : vb ≠ g) (hg : Blk w g 54 cur) (hcs : cur.size = c * 2) (hx : cur.toList.take (n * 2) = xs)
    (h1 : ∀ v ∈ xs, v.oneCell' = true) (hv : Blk w vb 54 news.toArray) (hnl : news.length = 2) (h1v : ∀ v ∈ news, v.oneCell' = true) :
    Calls Try.prog 67 #[.slice (some ⟨g, 0, none⟩) n c, .int .i64 i, .slice (some ⟨vb, 0, none⟩) 1 1] w fun e w' => e = .returned (.slice (some ⟨g, 0, none⟩) (n + 1) c) ∧
      ∃ cur', w' = (w.drew.setRow g (cur.toList.take ((i + 1) * 2) ++ xs.drop (i * 2) ++ cur.toList.drop ((i + 1) * 2 + (xs.drop (i * 2)).length)).toArray).setRow g cur' ∧ cur'.size = c * 2 ∧ cur'.toList.take ((n + 1) * 2) = xs.take (i * 2) ++ news ++ xs.drop (i * 2) := by
  obtain ⟨i0, hi0, hz0, hzs, hzb⟩ := info_parts info_insP
  have hsz : (Try.prog.info? 54).map (·.size) = some 2 := by rw [hi0]; simp [hzs]
  have hxl : xs.length = n * 2 := by rw [← hx]; simp; omega
  have hdl : (xs.drop (i * 2)).length = (n - i) * 2 := by rw [List.length_drop, hxl]; omega
  have HI := ins_cells cur.toList xs news (i * 2) 2 (n * 2) hx (by omega) hnl (by simp; omega)
  simp only [show i * 2 + 2 = (i + 1) * 2 by omega, show n * 2 + 2 = (n + 1) * 2 by omega] at HI
  have hov : ∀ lb cb off, (callFunc 85 #[.slice (some ⟨vb, 0, none⟩) 1 1, .slice (some ⟨g, off, none⟩) lb cb]).run Try.prog w = .ok (.value (.bool false)) w := fun lb cb off => by
    rw [run_callFunc_extern Try.func85 (by kernel_rfl) (by kernel_rfl) (by kernel_rfl) (e := Extern.SlicesOverlaps.overlaps #[50, 50] #[4]) (by kernel_rfl),
      Lib.run_overlaps_apart w 50 4 54 Try.underlying50 2 Try.sizeOf54 ⟨vb, 0, none⟩ ⟨g, off, none⟩ 1 1 lb cb hvb 54 54 2 (c * 2) (by unfold World.shape?; have h' : w.heap[vb]? = some (.cells news.toArray 54 (0, 0)) := hv; rw [h']; simp [hnl]) (by unfold World.shape?; have h' : w.heap[g]? = some (.cells cur 54 (0, 0)) := hg; rw [h']; simp [hcs]) (by omega) (hv.frozen 0) (hv.frozen 2)]
    rfl
  have hsrc1 : ∀ j v, (xs.drop (i * 2))[j]? = some v → w.drew.cell? ((⟨g, i * 2, none⟩ : Addr).add j) = some v := by
    intro j v hj
    have hb' : Blk w.drew g 54 cur.toList.toArray := by simpa using hg.drew
    refine hb'.at0 (i * 2) j v ?_
    rw [← hx, List.getElem?_drop, List.getElem?_take] at hj
    rw [List.getElem?_drop]
    split at hj
    · exact hj
    · cases hj
  have hcp1 : ∀ ty dc sc, (Builtin.copy_ #[50, 50] ty #[.slice (some ⟨g, (i + 1) * 2, none⟩) (n - i) dc, .slice (some ⟨g, i * 2, none⟩) (n + 1 - i) sc]).run Try.prog w.drew = .ok (goInt (n - i : Nat)) (w.drew.setRow g (cur.toList.take ((i + 1) * 2) ++ xs.drop (i * 2) ++ cur.toList.drop ((i + 1) * 2 + (xs.drop (i * 2)).length)).toArray) := fun ty dc sc => by
    have h := copy_rowk w.drew 50 50 ty 54 g ((i + 1) * 2) (n - i) dc ⟨g, i * 2, none⟩ (n + 1 - i) sc 2 cur 54 (xs.drop (i * 2)) Try.underlying50 hsz hg.drew (by rw [hdl, nminR _ _ (by omega)]) hsrc1 (by rw [hdl]; omega) (fun v hv => h1 v (List.mem_of_mem_drop hv))
    rw [nminR (n + 1 - i) (n - i) (by omega)] at h
    exact h
  obtain ⟨A, hA⟩ : ∃ A, A = cur.toList.take ((i + 1) * 2) ++ xs.drop (i * 2) ++ cur.toList.drop ((i + 1) * 2 + (xs.drop (i * 2)).length) := ⟨_, rfl⟩
  rw [← hA] at hcp1 ⊢
  simp only [← hA] at HI
  have hg1 : Blk (w.drew.setRow g A.toArray) g 54 A.toArray := hg.drew.row
  have hv1 : Blk (w.drew.setRow g A.toArray) vb 54 news.toArray := hv.drew.offRow hvb
  obtain ⟨B, hB⟩ : ∃ B, B = A.take (i * 2) ++ news ++ A.drop (i * 2 + news.length) := ⟨_, rfl⟩
  simp only [← hB] at HI
  have hcp2 : ∀ (W : World), (∀ q, W.heap[q]? = (w.drew.setRow g A.toArray).heap[q]?) → ∀ ty dc, (Builtin.copy_ #[50, 50] ty #[.slice (some ⟨g, i * 2, none⟩) (n + 1 - i) dc, .slice (some ⟨vb, 0, none⟩) 1 1]).run Try.prog W = .ok (goInt (1 : Nat)) (W.setRow g B.toArray) := fun W hW ty dc => by
    have hgW : Blk W g 54 A.toArray := (hW g).trans hg1
    have hvW : Blk W vb 54 news.toArray := (hW vb).trans hv1
    have h := copy_rowk W 50 50 ty 54 g (i * 2) (n + 1 - i) dc ⟨vb, 0, none⟩ 1 1 2 A.toArray 54 news Try.underlying50 hsz hgW (by rw [hnl, nminL _ _ (by omega), Nat.one_mul]) (by simpa using hvW.at0 0) (by rw [hnl]; have := HI.2.2; simp at this ⊢; omega) h1v
    rw [nminL 1 (n + 1 - i) (by omega)] at h
    rw [hB]
    simpa using h
  have HIH := Lib.hid HI
  have HCS := Lib.hid hcs
  clear hB
  try simp only [Nat.mul_one] at hcp1 hcp2
  have hw1 : IntKind.i64.wrap ((i : Int) + 1) = (i : Int) + 1 := by rw [IntKind.wrap_i64]; omega
  have hb1 : (0 : Int) ≤ (i : Int) + 1 := by omega
  have hin : i ≤ n := by omega
  have htn : ((i : Int) + 1).toNat = i + 1 := by omega
  have hb2 : ¬ (c = i + 1) := by omega
  have hb3 : (i : Int) ≤ (n : Int) + 1 := by omega
  have hb4 : ¬ (c = i) := by omega
  have hz2 : ¬ ((i : Int) = (n : Int)) := by omega
  clear HI hA hg1 hv1 hsrc1 hxl hdl hx hcs h1 h1v
  go_enter Try.func67, Try.ntmps67
  go_wp2_with (simp only [hov])
  go_region_law (refine step_copy_is rfl _ _ 50 50 rfl _ _ (by simp [Act.eval, Act.put]) (by simp [Act.eval, Act.put]) (hcp1 _ _ _) ?_)
  go_wp2_with (at_builtin; refine wpList_copy_is _ rfl _ _ 50 50 rfl _ _ rfl rfl (hcp2 _ (fun _ => rfl) _ _) ?_)
  go_ret
  exact ⟨rfl, B.toArray, rfl, by rw [List.size_toArray, HIH.out.2.1, ← HCS.out]; simp, HIH.out.1⟩
set_option maxHeartbeats 2000000 in
theorem insert_growP (g n c i vb : Nat) (cur : Array Value) (xs news : List Value) (w : World) (hn16 : n ≤ 1000) (hi : i < n) (hroom : c < n + 1) (hnc : n ≤ c) (hvb : vb ≠ g) (hg : Blk w g 54 cur) (hcs : cur.size = c * 2) (hx : cur.toList.take (n * 2) = xs)
    (h1 : ∀ v ∈ xs, v.oneCell' = true) (hv : Blk w vb 54 news.toArray) (hnl : news.length = 2) (h1v : ∀ v ∈ news, v.oneCell' = true) :
    Calls Try.prog 67 #[.slice (some ⟨g, 0, none⟩) n c, .int .i64 i, .slice (some ⟨vb, 0, none⟩) 1 1] w fun e w' => ∃ G cur', e = .returned (.slice (some ⟨w.heap.size, 0, none⟩) (n + 1) G) ∧
      n + 1 ≤ G ∧ G ≤ maxLen ∧ Blk w' w.heap.size 54 cur' ∧ cur'.size = G * 2 ∧ cur'.toList.take ((n + 1) * 2) = xs.take (i * 2) ++ news ++ xs.drop (i * 2) ∧ w.grownBy w' none := by
  obtain ⟨i0, hi0, hz0, hzs, hzb⟩ := info_parts info_insP
  have hsz : (Try.prog.info? 54).map (·.size) = some 2 := by rw [hi0]; simp [hzs]
  have hxl : xs.length = n * 2 := by rw [← hx]; simp; omega
  have hdl : (xs.drop (i * 2)).length = (n - i) * 2 := by rw [List.length_drop, hxl]; omega
  have hgw : g < w.heap.size := hg.lt
  have hvw : vb < w.heap.size := hv.lt
  have hsrc0 : ∀ (W : World), W.heap[g]? = w.heap[g]? → ∀ o j v, (xs.drop o)[j]? = some v → W.cell? ((⟨g, o, none⟩ : Addr).add j) = some v := by
    intro W hW o j v hj
    have hb' : Blk W g 54 cur.toList.toArray := by rw [Array.toArray_toList]; exact hW.trans hg
    refine hb'.at0 o j v ?_
    rw [← hx, List.getElem?_drop, List.getElem?_take] at hj
    rw [List.getElem?_drop]
    split at hj
    · exact hj
    · cases hj
  have hold : (Builtin.firstCells i0.size i (.slice (some ⟨g, 0, none⟩) i c)).run Try.prog w.drew = .ok (xs.take (i * 2)).toArray w.drew := by
    rw [hzs]
    exact run_firstCells_some w.drew 2 i ⟨g, 0, none⟩ i c (xs.take (i * 2)) (by rw [List.length_take, hxl]; omega) (fun j v hj => by
      rw [List.getElem?_take] at hj
      split at hj
      · exact hsrc0 w.drew rfl 0 j v (by simpa using hj)
      · cases hj)
  have hkk : (n : Int) + 1 - (i : Int) = ((n + 1 - i : Nat) : Int) := by omega
  have hik : i + (n + 1 - i) = n + 1 := by omega
  have hrz : ∀ ty, (Builtin.append_ #[50, 3] ty #[.slice (some ⟨g, 0, none⟩) i c, .int .i64 ((n : Int) + 1 - (i : Int))]).run Try.prog w =
      .ok (.slice (some ⟨w.heap.size, 0, none⟩) (n + 1) (grownCap w (n + 1) c 54)) (w.drew.alloc (.cells ((xs.take (i * 2)).toArray ++ Builtin.zeroCells (.agg #[.int .i64 0, .int .i64 0] : Value).cells (n + 1 - i) ++ Builtin.zeroCells (.agg #[.int .i64 0, .int .i64 0] : Value).cells (grownCap w (n + 1) c 54 - (n + 1))) 54)) := fun ty => by
    have h := Lib.run_append_grow_zeros w 50 3 ty 54 i0 _ .i64 .i64 Try.underlying50 Try.underlying3 hi0 hz0 (some ⟨g, 0, none⟩) i c (xs.take (i * 2)) hold (n + 1 - i) (by omega) (by rw [hzs]; omega) (by omega) (by omega) (by rw [hzb]; omega) (by rw [hzb, hik]; exact growslice_fits hroom (by omega))
    rw [hik] at h
    rw [hkk]
    exact h
  have hGn : n + 1 ≤ grownCap w (n + 1) c 54 := grownCap_ge w _ _ _
  have hG63 : grownCap w (n + 1) c 54 ≤ maxLen := grownCap_le_maxLen w (n + 1) c 54 (by unfold maxLen; omega)
  generalize grownCap w (n + 1) c 54 = G at *
  have hzc : ∀ m, (Builtin.zeroCells (.agg #[.int .i64 0, .int .i64 0] : Value).cells m).size = m * 2 := fun m => by simp [Builtin.zeroCells, Value.cells]
  obtain ⟨ROW, hROW⟩ : ∃ ROW : Array Value, ROW = (xs.take (i * 2)).toArray ++ Builtin.zeroCells (.agg #[.int .i64 0, .int .i64 0] : Value).cells (n + 1 - i) ++ Builtin.zeroCells (.agg #[.int .i64 0, .int .i64 0] : Value).cells (G - (n + 1)) := ⟨_, rfl⟩
  have hRs : ROW.size = G * 2 := by rw [hROW]; simp only [Array.size_append, hzc]; simp [hxl]; omega
  have hRt : ROW.toList.take (i * 2) = xs.take (i * 2) := by
    rw [hROW]
    simp only [Array.toList_append, List.append_assoc]
    rw [List.take_append_of_le_length (by simp [hxl]; omega), List.take_of_length_le (by simp; omega)]
  rw [← hROW] at hrz
  have HI := grow_cells ROW.toList xs news (i * 2) 2 (n * 2) hxl (by omega) hnl (by rw [Array.length_toList, hRs]; omega) hRt
  simp only [show i * 2 + 2 = (i + 1) * 2 by omega, show n * 2 + 2 = (n + 1) * 2 by omega] at HI
  obtain ⟨A, hA⟩ : ∃ A, A = ROW.toList.take (i * 2) ++ news ++ ROW.toList.drop (i * 2 + news.length) := ⟨_, rfl⟩
  simp only [← hA] at HI
  obtain ⟨B, hB⟩ : ∃ B, B = A.take ((i + 1) * 2) ++ xs.drop (i * 2) ++ A.drop ((i + 1) * 2 + (xs.drop (i * 2)).length) := ⟨_, rfl⟩
  simp only [← hB] at HI
  have hN1 : Blk (w.drew.alloc (.cells ROW 54)) w.heap.size 54 ROW := Blk.new w.drew _ _
  have hcpA : ∀ (W : World), (∀ q : Nat, W.heap[q]? = (w.drew.alloc (.cells ROW 54)).heap[q]?) → ∀ ty dc, (Builtin.copy_ #[50, 50] ty #[.slice (some ⟨w.heap.size, i * 2, none⟩) (n + 1 - i) dc, .slice (some ⟨vb, 0, none⟩) 1 1]).run Try.prog W = .ok (goInt (1 : Nat)) (W.setRow w.heap.size A.toArray) := fun W hW ty dc => by
    have hvW : Blk W vb 54 news.toArray := (hW vb).trans (hv.drew.alloc _)
    have h := copy_rowk W 50 50 ty 54 w.heap.size (i * 2) (n + 1 - i) dc ⟨vb, 0, none⟩ 1 1 2 ROW 54 news Try.underlying50 hsz ((hW _).trans hN1) (by rw [hnl, nminL _ _ (by omega), Nat.one_mul]) (by simpa using hvW.at0 0) (by rw [hnl, hRs]; omega) h1v
    rw [nminL 1 (n + 1 - i) (by omega)] at h
    rw [hA]
    simpa using h
  have hcpB : ∀ (W : World), (∀ q : Nat, W.heap[q]? = ((w.drew.alloc (.cells ROW 54)).setRow w.heap.size A.toArray).heap[q]?) → ∀ ty dc sc, (Builtin.copy_ #[50, 50] ty #[.slice (some ⟨w.heap.size, (i + 1) * 2, none⟩) (n - i) dc, .slice (some ⟨g, i * 2, none⟩) (n - i) sc]).run Try.prog W = .ok (goInt (n - i : Nat)) (W.setRow w.heap.size B.toArray) := fun W hW ty dc sc => by
    have h := copy_rowk W 50 50 ty 54 w.heap.size ((i + 1) * 2) (n - i) dc ⟨g, i * 2, none⟩ (n - i) sc 2 A.toArray 54 (xs.drop (i * 2)) Try.underlying50 hsz ((hW _).trans hN1.row) (by rw [hdl, nminR _ _ (Nat.le_refl _)]) (hsrc0 W ((hW g).trans ((setRow_other _ _ _ _ (by omega)).trans (Below.heap_alloc w.drew _ g hgw))) (i * 2)) (by rw [hdl]; have := HI.2.2; simp only [Array.length_toList, hRs] at this; simp only [List.size_toArray, this]; omega) (fun v hv => h1 v (List.mem_of_mem_drop hv))
    rw [nminR (n - i) (n - i) (Nat.le_refl _)] at h
    rw [hB]
    exact h
  have HIH := Lib.hid HI
  have HRS := Lib.hid hRs
  have HGN := Lib.hid hGn
  have HG63 := Lib.hid hG63
  try simp only [Nat.mul_one] at hcpA hcpB
  have hE1 : ∀ q : Nat, ((w.alloc (.cells ROW 54)).drew).heap[q]? = (w.drew.alloc (.cells ROW 54)).heap[q]? := fun _ => rfl
  have hF1 : ∀ q : Nat, (((w.alloc (.cells ROW 54)).drew.setRow w.heap.size A.toArray).drew).heap[q]? = ((w.drew.alloc (.cells ROW 54)).setRow w.heap.size A.toArray).heap[q]? := fun _ => rfl
  have hcpB2 := hcpB _ hF1
  clear hcpB hF1
  have hw1 : IntKind.i64.wrap ((i : Int) + 1) = (i : Int) + 1 := by rw [IntKind.wrap_i64]; omega
  have hb1 : (0 : Int) ≤ (i : Int) + 1 := by omega
  have hin : i ≤ n := by omega
  have htn : ((i : Int) + 1).toNat = i + 1 := by omega
  have hb3 : (i : Int) ≤ (n : Int) := by omega
  have hz2 : ¬ ((i : Int) = (n : Int)) := by omega
  have hz3 : (c : Int) < (n : Int) + 1 := by omega
  have hGi : ¬ (G = i) := by omega
  have hGim : ¬ (G = i + 1) := by omega
  have hci : ¬ (c = i) := by omega
  have hG64 : G ≤ 9223372036854775807 := hG63
  clear hkk hik hold hROW hRs hRt hzc HI hA hB hN1 hsrc0 hxl hdl hx hcs h1 h1v hzs hzb hz0 hi0 hsz hnl
  go_enter Try.func67, Try.ntmps67
  go_wp2_with (first
    | (at_builtin; refine Lib.wpList_append_run _ rfl _ _ _ _ rfl _ _ rfl rfl _ _ (hrz _) ?_)
    | (at_builtin; refine wpList_copy_is _ rfl _ _ 50 50 rfl _ _ rfl rfl (hcpA _ hE1 _ _) ?_))
  go_region_law (refine step_copy_is rfl _ _ 50 50 rfl _ _ (by simp [Act.eval, Act.put]) (by simp [Act.eval, Act.put]) (hcpB2 _ _ _) ?_)
  go_wp2
  go_ret
  refine ⟨G, B.toArray, rfl, HGN.out, HG63.out, ?_, by rw [List.size_toArray, HIH.out.2.1, Array.length_toList, HRS.out], HIH.out.1, ?_⟩
  · exact Blk.row (Blk.drew (Blk.row (Blk.drew (Blk.new w _ _))))
  · refine grown_row (o := .cells #[] 0) ?_ _ _ (Nat.le_refl _)
    have h0 : w.grownBy ((w.alloc (.cells ROW 54)).drew) none := only_drew (only_alloc (World.grownBy.refl _ _) _)
    exact only_drew (grown_row (o := .cells #[] 0) h0 _ _ (Nat.le_refl _))
set_option maxHeartbeats 1000000 in
theorem insert_endP (base n c vb : Nat) (A : Option Addr) (xs news : List Value) (w : World) (hn16 : n ≤ 1000) (hown : w.ownsRow base 54 2 (.slice A n c) n xs) (hbase : base ≤ w.heap.size) (hv : Blk w vb 54 news.toArray) (hnl : news.length = 2) (h1v : ∀ v ∈ news, v.oneCell' = true) :
    Calls Try.prog 67 #[.slice A n c, .int .i64 n, .slice (some ⟨vb, 0, none⟩) 1 1] w fun e w' => ∃ v', e = .returned v' ∧ w'.ownsRow base 54 2 v' (n + 1) (xs ++ news) ∧ w.grownBy w' (Value.slice A n c).ownBlock ∧
      (v'.ownBlock = (Value.slice A n c).ownBlock ∨ v'.ownBlock = some w.heap.size) := by
  obtain ⟨i0, hi0, hz0, hz1, hz2⟩ := info_parts info_insP
  have hR : Reads w w.heap.size 2 (some ⟨vb, 0, none⟩) 1 news := ⟨by rw [hnl], fun _ => ⟨_, rfl, hv.lt, by simpa using hv.at0 0⟩⟩
  have hmx : n + 1 ≤ maxLen := by unfold maxLen; omega
  have hmb : (n + 1) * 16 ≤ 140737488355328 := by omega
  have HO := hown
  rcases hown.2 with ⟨he, h0⟩ | ⟨g, cap, cur, he, hb, hh, hnc, hm, hs, ht⟩
  · injection he with e1 e2 e3
    subst e1 e2 e3
    clear hown
    go_enter Try.func67, Try.ntmps67
    go_wp2_with (at_builtin; refine wpList_append_any _ rfl _ _ 50 rfl base 54 i0 _ 2 16 Try.underlying50 hi0 hz0 hz1 hz2 rfl (by decide) _ _ _ rfl HO w.heap.size (some ⟨vb, 0, none⟩) 1 1 news rfl hR h1v hmx hmb hbase ?_; intro v' w1 hown1 hgrow hd)
    go_ret
    exact ⟨_, rfl, hown1, hgrow, hd⟩
  · injection he with e1 e2 e3
    subst e1 e3
    clear hown hh hs ht hb
    unfold maxLen at hm
    by_cases hcn : c = n
    all_goals
      go_enter Try.func67, Try.ntmps67
      go_wp2_with (at_builtin; refine wpList_append_any _ rfl _ _ 50 rfl base 54 i0 _ 2 16 Try.underlying50 hi0 hz0 hz1 hz2 rfl (by decide) _ _ _ rfl HO w.heap.size (some ⟨vb, 0, none⟩) 1 1 news rfl hR h1v hmx hmb hbase ?_; intro v' w1 hown1 hgrow hd)
      go_ret
      exact ⟨_, rfl, hown1, hgrow, hd⟩

def InsPostP (base : Nat) (v : Value) (n : Nat) (ys : List Value) (w : World) : Ending → World → Prop := fun e w' =>
  ∃ v', e = .returned v' ∧ w'.ownsRow base 54 2 v' (n + 1) ys ∧ w.grownBy w' v.ownBlock ∧ (v'.ownBlock = v.ownBlock ∨ v'.ownBlock = some w.heap.size)

theorem insert_anyP (base n i c vb : Nat) (A : Option Addr) (xs news : List Value) (w : World) (hn16 : n ≤ 1000) (hi : i ≤ n) (hown : w.ownsRow base 54 2 (.slice A n c) n xs) (hbase : base ≤ w.heap.size) (hv : Blk w vb 54 news.toArray) (hnl : news.length = 2) (h1v : ∀ v ∈ news, v.oneCell' = true)
    (h1 : ∀ v ∈ xs, v.oneCell' = true) (hvb : (Value.slice A n c).ownBlock ≠ some vb) :
    Calls Try.prog 67 #[.slice A n c, .int .i64 i, .slice (some ⟨vb, 0, none⟩) 1 1] w (InsPostP base (.slice A n c) n (xs.take (i * 2) ++ news ++ xs.drop (i * 2)) w) := by
  have hxl := hown.1
  by_cases hin : i = n
  · subst hin
    refine (insert_endP base i c vb A xs news w hn16 hown hbase hv hnl h1v).mono ?_
    rintro e w' ⟨v', rfl, h2, h3, h4⟩
    rw [List.take_of_length_le (by omega), List.drop_eq_nil_of_le (by omega), List.append_nil]
    exact ⟨v', rfl, h2, h3, h4⟩
  · rcases hown.2 with ⟨he, h0⟩ | ⟨g, cap, cur, he, hb, hh, hnc, hm, hs, ht⟩
    · omega
    · injection he with e1 e2 e3
      subst e1 e3
      have hgvb : vb ≠ g := fun e => hvb (by rw [e]; rfl)
      have hyl : (xs.take (i * 2) ++ news ++ xs.drop (i * 2)).length = (n + 1) * 2 := by simp [hnl, hxl]; omega
      by_cases hroom : n + 1 ≤ c
      · refine (insert_shiftP g n c i vb cur xs news w hn16 (by omega) hroom hm hgvb hh hs ht h1 hv hnl h1v).mono ?_
        rintro e w' ⟨rfl, cur', rfl, hc1, hc2⟩
        refine ⟨_, rfl, ⟨hyl, .inr ⟨g, c, cur', rfl, hb, ?_, hroom, hm, hc1, hc2⟩⟩, ?_, .inl rfl⟩
        · exact Blk.row (Blk.row (Blk.drew hh))
        · exact ⟨rfl, rfl, rfl, by simp [setRow_size], fun k hk hn => by
            have hkg : k ≠ g := fun e => hn (by rw [e]; rfl)
            rw [setRow_other _ _ _ _ hkg, setRow_other _ _ _ _ hkg]
            rfl⟩
      · refine (insert_growP g n c i vb cur xs news w hn16 (by omega) (by omega) hnc hgvb hh hs ht h1 hv hnl h1v).mono ?_
        rintro e w' ⟨G, cur', rfl, hG1, hG2, hc0, hc1, hc2, hg⟩
        refine ⟨_, rfl, ⟨hyl, .inr ⟨w.heap.size, G, cur', rfl, hbase, hc0, hG1, hG2, hc1, hc2⟩⟩, ?_, .inr rfl⟩
        exact ⟨hg.os, hg.tape, hg.output, hg.size, fun k hk hn => hg.block k hk (by simp)⟩
end Go.Proofs.Ytpmpgnhbpneloaa
