/- The library's Insert at int64. -/
import Derived.Test.YtpmpgnhbpneloaaQb
namespace Go.Proofs.Ytpmpgnhbpneloaa
open Go.RowKit Go.Joins Go.ChangeShapes Go.WideShapes Go.Deep
set_option linter.unusedVariables false
set_option maxRecDepth 100000

theorem info_insV : (Try.prog.info? 2).map (fun i => (i.zero, i.size, i.bytes)) = some (some (.int .i64 0), 1, 8) := by kernel_rfl

set_option maxHeartbeats 2000000 in
theorem insert_shiftV (g n c i vb : Nat) (cur : Array Value) (xs news : List Value) (w : World) (hn16 : n ≤ 1000) (hi : i < n) (hroom : n + 1 ≤ c) (hc63 : c ≤ 9223372036854775807) (hvb : vb ≠ g) (hg : Blk w g 2 cur) (hcs : cur.size = c * 1) (hx : cur.toList.take (n * 1) = xs)
    (h1 : ∀ v ∈ xs, v.oneCell' = true) (hv : Blk w vb 2 news.toArray) (hnl : news.length = 1) (h1v : ∀ v ∈ news, v.oneCell' = true) :
    Calls Try.prog 70 #[.slice (some ⟨g, 0, none⟩) n c, .int .i64 i, .slice (some ⟨vb, 0, none⟩) 1 1] w fun e w' => e = .returned (.slice (some ⟨g, 0, none⟩) (n + 1) c) ∧
      ∃ cur', w' = (w.drew.setRow g (cur.toList.take ((i + 1) * 1) ++ xs.drop (i * 1) ++ cur.toList.drop ((i + 1) * 1 + (xs.drop (i * 1)).length)).toArray).setRow g cur' ∧ cur'.size = c * 1 ∧ cur'.toList.take ((n + 1) * 1) = xs.take (i * 1) ++ news ++ xs.drop (i * 1) := by
  obtain ⟨i0, hi0, hz0, hzs, hzb⟩ := info_parts info_insV
  have hsz : (Try.prog.info? 2).map (·.size) = some 1 := by rw [hi0]; simp [hzs]
  have hxl : xs.length = n * 1 := by rw [← hx]; simp; omega
  have hdl : (xs.drop (i * 1)).length = (n - i) * 1 := by rw [List.length_drop, hxl]; omega
  have HI := ins_cells cur.toList xs news (i * 1) 1 (n * 1) hx (by omega) hnl (by simp; omega)
  simp only [show i * 1 + 1 = (i + 1) * 1 by omega, show n * 1 + 1 = (n + 1) * 1 by omega] at HI
  have hov : ∀ lb cb off, (callFunc 89 #[.slice (some ⟨vb, 0, none⟩) 1 1, .slice (some ⟨g, off, none⟩) lb cb]).run Try.prog w = .ok (.value (.bool false)) w := fun lb cb off => by
    rw [run_callFunc_extern Try.func89 (by kernel_rfl) (by kernel_rfl) (by kernel_rfl) (e := Extern.SlicesOverlaps.overlaps #[34, 34] #[4]) (by kernel_rfl),
      Lib.run_overlaps_apart w 34 4 2 Try.underlying34 1 Try.sizeOf2 ⟨vb, 0, none⟩ ⟨g, off, none⟩ 1 1 lb cb hvb 2 2 1 (c * 1) (by unfold World.shape?; have h' : w.heap[vb]? = some (.cells news.toArray 2 (0, 0)) := hv; rw [h']; simp [hnl]) (by unfold World.shape?; have h' : w.heap[g]? = some (.cells cur 2 (0, 0)) := hg; rw [h']; simp [hcs]) (by omega) (hv.frozen 0) (hv.frozen 1)]
    rfl
  have hsrc1 : ∀ j v, (xs.drop (i * 1))[j]? = some v → w.drew.cell? ((⟨g, i * 1, none⟩ : Addr).add j) = some v := by
    intro j v hj
    have hb' : Blk w.drew g 2 cur.toList.toArray := by simpa using hg.drew
    refine hb'.at0 (i * 1) j v ?_
    rw [← hx, List.getElem?_drop, List.getElem?_take] at hj
    rw [List.getElem?_drop]
    split at hj
    · exact hj
    · cases hj
  have hcp1 : ∀ ty dc sc, (Builtin.copy_ #[34, 34] ty #[.slice (some ⟨g, (i + 1) * 1, none⟩) (n - i) dc, .slice (some ⟨g, i * 1, none⟩) (n + 1 - i) sc]).run Try.prog w.drew = .ok (goInt (n - i : Nat)) (w.drew.setRow g (cur.toList.take ((i + 1) * 1) ++ xs.drop (i * 1) ++ cur.toList.drop ((i + 1) * 1 + (xs.drop (i * 1)).length)).toArray) := fun ty dc sc => by
    have h := copy_rowk w.drew 34 34 ty 2 g ((i + 1) * 1) (n - i) dc ⟨g, i * 1, none⟩ (n + 1 - i) sc 1 cur 2 (xs.drop (i * 1)) Try.underlying34 hsz hg.drew (by rw [hdl, nminR _ _ (by omega)]) hsrc1 (by rw [hdl]; omega) (fun v hv => h1 v (List.mem_of_mem_drop hv))
    rw [nminR (n + 1 - i) (n - i) (by omega)] at h
    exact h
  obtain ⟨A, hA⟩ : ∃ A, A = cur.toList.take ((i + 1) * 1) ++ xs.drop (i * 1) ++ cur.toList.drop ((i + 1) * 1 + (xs.drop (i * 1)).length) := ⟨_, rfl⟩
  rw [← hA] at hcp1 ⊢
  simp only [← hA] at HI
  have hg1 : Blk (w.drew.setRow g A.toArray) g 2 A.toArray := hg.drew.row
  have hv1 : Blk (w.drew.setRow g A.toArray) vb 2 news.toArray := hv.drew.offRow hvb
  obtain ⟨B, hB⟩ : ∃ B, B = A.take (i * 1) ++ news ++ A.drop (i * 1 + news.length) := ⟨_, rfl⟩
  simp only [← hB] at HI
  have hcp2 : ∀ (W : World), (∀ q, W.heap[q]? = (w.drew.setRow g A.toArray).heap[q]?) → ∀ ty dc, (Builtin.copy_ #[34, 34] ty #[.slice (some ⟨g, i * 1, none⟩) (n + 1 - i) dc, .slice (some ⟨vb, 0, none⟩) 1 1]).run Try.prog W = .ok (goInt (1 : Nat)) (W.setRow g B.toArray) := fun W hW ty dc => by
    have hgW : Blk W g 2 A.toArray := (hW g).trans hg1
    have hvW : Blk W vb 2 news.toArray := (hW vb).trans hv1
    have h := copy_rowk W 34 34 ty 2 g (i * 1) (n + 1 - i) dc ⟨vb, 0, none⟩ 1 1 1 A.toArray 2 news Try.underlying34 hsz hgW (by rw [hnl, nminL _ _ (by omega), Nat.one_mul]) (by simpa using hvW.at0 0) (by rw [hnl]; have := HI.2.2; simp at this ⊢; omega) h1v
    rw [nminL 1 (n + 1 - i) (by omega)] at h
    rw [hB]
    simpa using h
  have HIH := Lib.hid HI
  have HCS := Lib.hid hcs
  clear hB
  try simp only [Nat.mul_one] at hcp1 hcp2
  have hw1 : IntKind.i64.wrap ((i : Int) + 1) = (i : Int) + 1 := by rw [IntKind.wrap_i64]; omega
  have hb1 : (0 : Int) ≤ (i : Int) + 1 := by omega
  have hin : i ≤ n := by omega
  have htn : ((i : Int) + 1).toNat = i + 1 := by omega
  have hb2 : ¬ (c = i + 1) := by omega
  have hb3 : (i : Int) ≤ (n : Int) + 1 := by omega
  have hb4 : ¬ (c = i) := by omega
  have hz2 : ¬ ((i : Int) = (n : Int)) := by omega
  clear HI hA hg1 hv1 hsrc1 hxl hdl hx hcs h1 h1v
  go_enter Try.func70, Try.ntmps70
  go_wp2_with (simp only [hov])
  go_region_law (refine step_copy_is rfl _ _ 34 34 rfl _ _ (by simp [Act.eval, Act.put]) (by simp [Act.eval, Act.put]) (hcp1 _ _ _) ?_)
  go_wp2_with (at_builtin; refine wpList_copy_is _ rfl _ _ 34 34 rfl _ _ rfl rfl (hcp2 _ (fun _ => rfl) _ _) ?_)
  go_ret
  exact ⟨rfl, B.toArray, rfl, by rw [List.size_toArray, HIH.out.2.1, ← HCS.out]; simp, HIH.out.1⟩
set_option maxHeartbeats 2000000 in
theorem insert_growV (g n c i vb : Nat) (cur : Array Value) (xs news : List Value) (w : World) (hn16 : n ≤ 1000) (hi : i < n) (hroom : c < n + 1) (hnc : n ≤ c) (hvb : vb ≠ g) (hg : Blk w g 2 cur) (hcs : cur.size = c * 1) (hx : cur.toList.take (n * 1) = xs)
    (h1 : ∀ v ∈ xs, v.oneCell' = true) (hv : Blk w vb 2 news.toArray) (hnl : news.length = 1) (h1v : ∀ v ∈ news, v.oneCell' = true) :
    Calls Try.prog 70 #[.slice (some ⟨g, 0, none⟩) n c, .int .i64 i, .slice (some ⟨vb, 0, none⟩) 1 1] w fun e w' => ∃ G cur', e = .returned (.slice (some ⟨w.heap.size, 0, none⟩) (n + 1) G) ∧
      n + 1 ≤ G ∧ G ≤ maxLen ∧ Blk w' w.heap.size 2 cur' ∧ cur'.size = G * 1 ∧ cur'.toList.take ((n + 1) * 1) = xs.take (i * 1) ++ news ++ xs.drop (i * 1) ∧ w.grownBy w' none := by
  obtain ⟨i0, hi0, hz0, hzs, hzb⟩ := info_parts info_insV
  have hsz : (Try.prog.info? 2).map (·.size) = some 1 := by rw [hi0]; simp [hzs]
  have hxl : xs.length = n * 1 := by rw [← hx]; simp; omega
  have hdl : (xs.drop (i * 1)).length = (n - i) * 1 := by rw [List.length_drop, hxl]; omega
  have hgw : g < w.heap.size := hg.lt
  have hvw : vb < w.heap.size := hv.lt
  have hsrc0 : ∀ (W : World), W.heap[g]? = w.heap[g]? → ∀ o j v, (xs.drop o)[j]? = some v → W.cell? ((⟨g, o, none⟩ : Addr).add j) = some v := by
    intro W hW o j v hj
    have hb' : Blk W g 2 cur.toList.toArray := by rw [Array.toArray_toList]; exact hW.trans hg
    refine hb'.at0 o j v ?_
    rw [← hx, List.getElem?_drop, List.getElem?_take] at hj
    rw [List.getElem?_drop]
    split at hj
    · exact hj
    · cases hj
  have hold : (Builtin.firstCells i0.size i (.slice (some ⟨g, 0, none⟩) i c)).run Try.prog w.drew = .ok (xs.take (i * 1)).toArray w.drew := by
    rw [hzs]
    exact run_firstCells_some w.drew 1 i ⟨g, 0, none⟩ i c (xs.take (i * 1)) (by rw [List.length_take, hxl]; omega) (fun j v hj => by
      rw [List.getElem?_take] at hj
      split at hj
      · exact hsrc0 w.drew rfl 0 j v (by simpa using hj)
      · cases hj)
  have hkk : (n : Int) + 1 - (i : Int) = ((n + 1 - i : Nat) : Int) := by omega
  have hik : i + (n + 1 - i) = n + 1 := by omega
  have hrz : ∀ ty, (Builtin.append_ #[34, 3] ty #[.slice (some ⟨g, 0, none⟩) i c, .int .i64 ((n : Int) + 1 - (i : Int))]).run Try.prog w =
      .ok (.slice (some ⟨w.heap.size, 0, none⟩) (n + 1) (grownCap w (n + 1) c 2)) (w.drew.alloc (.cells ((xs.take (i * 1)).toArray ++ Builtin.zeroCells (.int .i64 0 : Value).cells (n + 1 - i) ++ Builtin.zeroCells (.int .i64 0 : Value).cells (grownCap w (n + 1) c 2 - (n + 1))) 2)) := fun ty => by
    have h := Lib.run_append_grow_zeros w 34 3 ty 2 i0 _ .i64 .i64 Try.underlying34 Try.underlying3 hi0 hz0 (some ⟨g, 0, none⟩) i c (xs.take (i * 1)) hold (n + 1 - i) (by omega) (by rw [hzs]; omega) (by omega) (by omega) (by rw [hzb]; omega) (by rw [hzb, hik]; exact growslice_fits hroom (by omega))
    rw [hik] at h
    rw [hkk]
    exact h
  have hGn : n + 1 ≤ grownCap w (n + 1) c 2 := grownCap_ge w _ _ _
  have hG63 : grownCap w (n + 1) c 2 ≤ maxLen := grownCap_le_maxLen w (n + 1) c 2 (by unfold maxLen; omega)
  generalize grownCap w (n + 1) c 2 = G at *
  have hzc : ∀ m, (Builtin.zeroCells (.int .i64 0 : Value).cells m).size = m * 1 := fun m => by simp [Builtin.zeroCells, Value.cells]
  obtain ⟨ROW, hROW⟩ : ∃ ROW : Array Value, ROW = (xs.take (i * 1)).toArray ++ Builtin.zeroCells (.int .i64 0 : Value).cells (n + 1 - i) ++ Builtin.zeroCells (.int .i64 0 : Value).cells (G - (n + 1)) := ⟨_, rfl⟩
  have hRs : ROW.size = G * 1 := by rw [hROW]; simp only [Array.size_append, hzc]; simp [hxl]; omega
  have hRt : ROW.toList.take (i * 1) = xs.take (i * 1) := by
    rw [hROW]
    simp only [Array.toList_append, List.append_assoc]
    rw [List.take_append_of_le_length (by simp [hxl]; omega), List.take_of_length_le (by simp; omega)]
  rw [← hROW] at hrz
  have HI := grow_cells ROW.toList xs news (i * 1) 1 (n * 1) hxl (by omega) hnl (by rw [Array.length_toList, hRs]; omega) hRt
  simp only [show i * 1 + 1 = (i + 1) * 1 by omega, show n * 1 + 1 = (n + 1) * 1 by omega] at HI
  obtain ⟨A, hA⟩ : ∃ A, A = ROW.toList.take (i * 1) ++ news ++ ROW.toList.drop (i * 1 + news.length) := ⟨_, rfl⟩
  simp only [← hA] at HI
  obtain ⟨B, hB⟩ : ∃ B, B = A.take ((i + 1) * 1) ++ xs.drop (i * 1) ++ A.drop ((i + 1) * 1 + (xs.drop (i * 1)).length) := ⟨_, rfl⟩
  simp only [← hB] at HI
  have hN1 : Blk (w.drew.alloc (.cells ROW 2)) w.heap.size 2 ROW := Blk.new w.drew _ _
  have hcpA : ∀ (W : World), (∀ q : Nat, W.heap[q]? = (w.drew.alloc (.cells ROW 2)).heap[q]?) → ∀ ty dc, (Builtin.copy_ #[34, 34] ty #[.slice (some ⟨w.heap.size, i * 1, none⟩) (n + 1 - i) dc, .slice (some ⟨vb, 0, none⟩) 1 1]).run Try.prog W = .ok (goInt (1 : Nat)) (W.setRow w.heap.size A.toArray) := fun W hW ty dc => by
    have hvW : Blk W vb 2 news.toArray := (hW vb).trans (hv.drew.alloc _)
    have h := copy_rowk W 34 34 ty 2 w.heap.size (i * 1) (n + 1 - i) dc ⟨vb, 0, none⟩ 1 1 1 ROW 2 news Try.underlying34 hsz ((hW _).trans hN1) (by rw [hnl, nminL _ _ (by omega), Nat.one_mul]) (by simpa using hvW.at0 0) (by rw [hnl, hRs]; omega) h1v
    rw [nminL 1 (n + 1 - i) (by omega)] at h
    rw [hA]
    simpa using h
  have hcpB : ∀ (W : World), (∀ q : Nat, W.heap[q]? = ((w.drew.alloc (.cells ROW 2)).setRow w.heap.size A.toArray).heap[q]?) → ∀ ty dc sc, (Builtin.copy_ #[34, 34] ty #[.slice (some ⟨w.heap.size, (i + 1) * 1, none⟩) (n - i) dc, .slice (some ⟨g, i * 1, none⟩) (n - i) sc]).run Try.prog W = .ok (goInt (n - i : Nat)) (W.setRow w.heap.size B.toArray) := fun W hW ty dc sc => by
    have h := copy_rowk W 34 34 ty 2 w.heap.size ((i + 1) * 1) (n - i) dc ⟨g, i * 1, none⟩ (n - i) sc 1 A.toArray 2 (xs.drop (i * 1)) Try.underlying34 hsz ((hW _).trans hN1.row) (by rw [hdl, nminR _ _ (Nat.le_refl _)]) (hsrc0 W ((hW g).trans ((setRow_other _ _ _ _ (by omega)).trans (Below.heap_alloc w.drew _ g hgw))) (i * 1)) (by rw [hdl]; have := HI.2.2; simp only [Array.length_toList, hRs] at this; simp only [List.size_toArray, this]; omega) (fun v hv => h1 v (List.mem_of_mem_drop hv))
    rw [nminR (n - i) (n - i) (Nat.le_refl _)] at h
    rw [hB]
    exact h
  have HIH := Lib.hid HI
  have HRS := Lib.hid hRs
  have HGN := Lib.hid hGn
  have HG63 := Lib.hid hG63
  try simp only [Nat.mul_one] at hcpA hcpB
  have hE1 : ∀ q : Nat, ((w.alloc (.cells ROW 2)).drew).heap[q]? = (w.drew.alloc (.cells ROW 2)).heap[q]? := fun _ => rfl
  have hF1 : ∀ q : Nat, (((w.alloc (.cells ROW 2)).drew.setRow w.heap.size A.toArray).drew).heap[q]? = ((w.drew.alloc (.cells ROW 2)).setRow w.heap.size A.toArray).heap[q]? := fun _ => rfl
  have hcpB2 := hcpB _ hF1
  clear hcpB hF1
  have hw1 : IntKind.i64.wrap ((i : Int) + 1) = (i : Int) + 1 := by rw [IntKind.wrap_i64]; omega
  have hb1 : (0 : Int) ≤ (i : Int) + 1 := by omega
  have hin : i ≤ n := by omega
  have htn : ((i : Int) + 1).toNat = i + 1 := by omega
  have hb3 : (i : Int) ≤ (n : Int) := by omega
  have hz2 : ¬ ((i : Int) = (n : Int)) := by omega
  have hz3 : (c : Int) < (n : Int) + 1 := by omega
  have hGi : ¬ (G = i) := by omega
  have hGim : ¬ (G = i + 1) := by omega
  have hci : ¬ (c = i) := by omega
  have hG64 : G ≤ 9223372036854775807 := hG63
  clear hkk hik hold hROW hRs hRt hzc HI hA hB hN1 hsrc0 hxl hdl hx hcs h1 h1v hzs hzb hz0 hi0 hsz hnl
  go_enter Try.func70, Try.ntmps70
  go_wp2_with (first
    | (at_builtin; refine Lib.wpList_append_run _ rfl _ _ _ _ rfl _ _ rfl rfl _ _ (hrz _) ?_)
    | (at_builtin; refine wpList_copy_is _ rfl _ _ 34 34 rfl _ _ rfl rfl (hcpA _ hE1 _ _) ?_))
  go_region_law (refine step_copy_is rfl _ _ 34 34 rfl _ _ (by simp [Act.eval, Act.put]) (by simp [Act.eval, Act.put]) (hcpB2 _ _ _) ?_)
  go_wp2
  go_ret
  refine ⟨G, B.toArray, rfl, HGN.out, HG63.out, ?_, by rw [List.size_toArray, HIH.out.2.1, Array.length_toList, HRS.out], HIH.out.1, ?_⟩
  · exact Blk.row (Blk.drew (Blk.row (Blk.drew (Blk.new w _ _))))
  · refine grown_row (o := .cells #[] 0) ?_ _ _ (Nat.le_refl _)
    have h0 : w.grownBy ((w.alloc (.cells ROW 2)).drew) none := only_drew (only_alloc (World.grownBy.refl _ _) _)
    exact only_drew (grown_row (o := .cells #[] 0) h0 _ _ (Nat.le_refl _))
end Go.Proofs.Ytpmpgnhbpneloaa
