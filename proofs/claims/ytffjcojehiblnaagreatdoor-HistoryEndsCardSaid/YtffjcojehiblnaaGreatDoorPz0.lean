/- slices.SortFunc at pointers to transactions, its contract laid by name off the library. -/
import Derived.Test.YtffjcojehiblnaaGreatDoorRw
import Derived.Shelf.SlSortCmp.Whole1
import Derived.Test.YtffjcojehiblnaaGreatDoorPl
namespace Go.Proofs.YtffjcojehiblnaaGreatDoor
open Go.RowKit Go.Joins Go.ChangeShapes Go.WideShapes Go.Deep Go.Shelf Go.Lib Go.Sort
set_option linter.unusedVariables false
set_option linter.unusedSimpArgs false
set_option maxRecDepth 100000

def sortTx_ren : Go.Shelf.Ren := ⟨fun | 6 => 21 | 15 => 38 | 14 => 37 | 28 => 62 | 29 => 63 | 20 => 54 | 21 => 55 | 22 => 56 | 23 => 57 | 24 => 58 | 25 => 59 | 26 => 60 | 27 => 61 | 46 => 70 | 47 => 71 | 48 => 72 | 49 => 73 | 50 => 74 | 57 => 78 | n => n, fun | 22 => 51 | 24 => 58 | 25 => 57 | 3 => 3 | 39 => 90 | 0 => 0 | 53 => 126 | 55 => 39 | 4 => 4 | 46 => 119 | 45 => 118 | 50 => 123 | 5 => 5 | 9 => 9 | 66 => 145 | 70 => 149 | 76 => 153 | 77 => 154 | n => n, fun n => n⟩
theorem sortTx : Go.Proofs.SlLaysF.n6 Tryz.prog sortTx_ren := {
  mixed := by kernel_rfl,
  f6 := ⟨Tryz.f21.name, by decide, Tryz.func21.trans (congrArg some (by kernel_rfl))⟩,
  f14 := ⟨Tryz.f37.name, by decide, Tryz.func37.trans (congrArg some (by kernel_rfl))⟩,
  f15 := Tryz.func38.trans (congrArg some (by kernel_rfl)),
  f20 := ⟨Tryz.f54.name, by decide, Tryz.func54.trans (congrArg some (by kernel_rfl))⟩,
  f21 := ⟨Tryz.f55.name, by decide, Tryz.func55.trans (congrArg some (by kernel_rfl))⟩,
  f22 := ⟨Tryz.f56.name, by decide, Tryz.func56.trans (congrArg some (by kernel_rfl))⟩,
  f23 := ⟨Tryz.f57.name, by decide, Tryz.func57.trans (congrArg some (by kernel_rfl))⟩,
  f24 := ⟨Tryz.f58.name, by decide, Tryz.func58.trans (congrArg some (by kernel_rfl))⟩,
  f25 := ⟨Tryz.f59.name, by decide, Tryz.func59.trans (congrArg some (by kernel_rfl))⟩,
  f26 := ⟨Tryz.f60.name, by decide, Tryz.func60.trans (congrArg some (by kernel_rfl))⟩,
  f27 := ⟨Tryz.f61.name, by decide, Tryz.func61.trans (congrArg some (by kernel_rfl))⟩,
  f28 := Tryz.func62.trans (congrArg some (by kernel_rfl)),
  f29 := Tryz.func63.trans (congrArg some (by kernel_rfl)),
  f46 := ⟨Tryz.f70.name, by decide, Tryz.func70.trans (congrArg some (by kernel_rfl))⟩,
  f47 := Tryz.func71.trans (congrArg some (by kernel_rfl)),
  f48 := Tryz.func72.trans (congrArg some (by kernel_rfl)),
  f49 := ⟨Tryz.f73.name, by decide, Tryz.func73.trans (congrArg some (by kernel_rfl))⟩,
  f50 := ⟨Tryz.f74.name, by decide, Tryz.func74.trans (congrArg some (by kernel_rfl))⟩,
  f57 := ⟨Tryz.f78.name, by decide, Tryz.func78.trans (congrArg some (by kernel_rfl))⟩,
  t0 := Tryz.underlying0,
  a0 := Tryz.isAgg0,
  z0 := Tryz.sizeOf0,
  v0 := Tryz.zeroValue0,
  t3 := Tryz.underlying3,
  a3 := Tryz.isAgg3,
  z3 := Tryz.sizeOf3,
  v3 := Tryz.zeroValue3,
  t4 := Tryz.underlying4,
  a4 := Tryz.isAgg4,
  z4 := Tryz.sizeOf4,
  v4 := Tryz.zeroValue4,
  t5 := Tryz.underlying5,
  a5 := Tryz.isAgg5,
  z5 := Tryz.sizeOf5,
  v5 := Tryz.zeroValue5,
  t9 := Tryz.underlying9,
  a9 := Tryz.isAgg9,
  z9 := Tryz.sizeOf9,
  v9 := Tryz.zeroValue9,
  t22 := Tryz.underlying51,
  a22 := Tryz.isAgg51,
  z22 := Tryz.sizeOf51,
  v22 := Tryz.zeroValue51,
  a24 := Tryz.isAgg58,
  z24 := Tryz.sizeOf58,
  t25 := Tryz.underlying57,
  a25 := Tryz.isAgg57,
  z25 := Tryz.sizeOf57,
  v25 := Tryz.zeroValue57,
  t39 := Tryz.underlying90,
  a39 := Tryz.isAgg90,
  z39 := Tryz.sizeOf90,
  v39 := Tryz.zeroValue90,
  t45 := Tryz.underlying118,
  a45 := Tryz.isAgg118,
  z45 := Tryz.sizeOf118,
  v45 := Tryz.zeroValue118,
  t46 := Tryz.underlying119,
  a46 := Tryz.isAgg119,
  z46 := Tryz.sizeOf119,
  v46 := Tryz.zeroValue119,
  t50 := Tryz.underlying123,
  a50 := Tryz.isAgg123,
  z50 := Tryz.sizeOf123,
  v50 := Tryz.zeroValue123,
  t53 := Tryz.underlying126,
  a53 := Tryz.isAgg126,
  z53 := Tryz.sizeOf126,
  v53 := Tryz.zeroValue126,
  t55 := Tryz.underlying39,
  a55 := Tryz.isAgg39,
  z55 := Tryz.sizeOf39,
  v55 := Tryz.zeroValue39,
  t66 := Tryz.underlying145,
  a66 := Tryz.isAgg145,
  z66 := Tryz.sizeOf145,
  v66 := Tryz.zeroValue145,
  t70 := Tryz.underlying149,
  a70 := Tryz.isAgg149,
  z70 := Tryz.sizeOf149,
  v70 := Tryz.zeroValue149,
  t76 := Tryz.underlying153,
  a76 := Tryz.isAgg153,
  z76 := Tryz.sizeOf153,
  v76 := Tryz.zeroValue153,
  t77 := Tryz.underlying154,
  a77 := Tryz.isAgg154,
  z77 := Tryz.sizeOf154,
  v77 := Tryz.zeroValue154 }
end Go.Proofs.YtffjcojehiblnaaGreatDoor

/- slices.SortFunc at a book's transactions: by their stamps. -/
namespace Go.Proofs.YtffjcojehiblnaaGreatDoor
open Go.RowKit Go.Joins Go.ChangeShapes Go.WideShapes Go.Deep Go.Shelf Go.Lib
set_option linter.unusedVariables false
set_option linter.unusedSimpArgs false
set_option maxRecDepth 100000

def ptrs (ll : List TxM) : List Value := ll.map fun x => .pointer (some ⟨x.g, 0, none⟩)
theorem ltStamp (x y : TxP) : decide (cmp3 x.stamp y.stamp < 0) = decide (x.stamp < y.stamp) := by
  unfold cmp3
  by_cases h : x.stamp < y.stamp
  · simp [h]
  · by_cases h2 : y.stamp < x.stamp <;> simp [h, h2]
theorem swoStamp {ll : List TxM} : Go.Sort.SWO (ltOf fun x y : {x : TxM // x ∈ ll} => cmp3 x.1.t.stamp y.1.t.stamp) where
  irrefl x := by unfold ltOf; rw [ltStamp]; simp
  trans x y z h1 h2 := by unfold ltOf at *; rw [ltStamp] at *; simp at *; omega
  ntrans x y z h1 h2 := by unfold ltOf at *; rw [ltStamp] at *; simp at *; omega
theorem sort_none (p : Option Addr) (cap : Nat) (w : World) : Calls Tryz.prog 21 #[.slice p 0 cap, .func (.func 22) #[] #[]] w fun r w' => r = .returned (.tuple #[]) ∧ w' = w := by
  have HIN : Hid (∀ W, Calls Tryz.prog 54 #[.slice p 0 cap, .int .i64 0, .int .i64 0, .func (.func 22) #[] #[]] W fun r w' => r = .returned (.tuple #[]) ∧ w' = W) := by
    refine Lib.hid fun W => ?_
    go_enter Tryz.func54, Tryz.ntmps54
    go_wp2_with fail
    refine wp_loop_rounds 1 ?_
    rw [rounds_succ]
    go_wp2_with fail
    go_end0
    exact ⟨rfl, rfl⟩
  have HPD : Hid (∀ (li : Int) W, Calls Tryz.prog 37 #[.slice p 0 cap, .int .i64 0, .int .i64 0, .int .i64 li, .func (.func 22) #[] #[]] W fun r w' => r = .returned (.tuple #[]) ∧ w' = W) := by
    refine Lib.hid fun li W => ?_
    go_enter Tryz.func37, Tryz.ntmps37
    go_wp2_with fail
    refine wp_loop_rounds 1 ?_
    rw [rounds_succ]
    go_wp2_with (go_at_call 54; refine (HIN.out _).mono ?_; rintro r w1 ⟨hr, hw⟩; subst hr; subst hw)
    refine bodyPost_ret (results_none rfl _ _ _) rfl ?_
    exact ⟨rfl, rfl⟩
  have HLEN : Hid (∀ W, Calls Tryz.prog 38 #[.int .u64 0] W fun r w' => r = .returned (.int .i64 0) ∧ w' = W) := by
    refine Lib.hid fun W => ?_
    go_enter Tryz.func38, Tryz.ntmps38
    go_wp2
    go_ret
    exact ⟨by kernel_rfl, rfl⟩
  go_enter Tryz.func21, Tryz.ntmps21
  go_wp2_with (first
    | (go_at_call 38; refine (HLEN.out _).mono ?_; rintro r w1 ⟨hr, hw⟩; subst hr; subst hw)
    | (go_at_call 37; refine (HPD.out _ _).mono ?_; rintro r w1 ⟨hr, hw⟩; subst hr; subst hw))
  go_end0
  exact ⟨rfl, rfl⟩
theorem sort_txs (base n b0 : Nat) (lv : Value) (ll : List TxM) (w : World) (hl : ll.length = n) (hn : n ≤ 925904528640) (hown : w.ownsRow base 58 1 lv n (ptrs ll)) (hT : ∀ x ∈ ll, TxAt w b0 x) :
    Calls Tryz.prog 21 #[lv, .func (.func 22) #[] #[]] w fun e w' => e = .returned (.tuple #[]) ∧
      ∃ l' : List TxM, l'.Perm ll ∧ l'.Pairwise (fun a b => a.t.stamp ≤ b.t.stamp) ∧ w'.ownsRow base 58 1 lv n (ptrs l') ∧ w.grownBy w' lv.ownBlock := by
  rcases hown.2 with ⟨rfl, rfl⟩ | ⟨g, cap, cur, rfl, hg, hh, hnc, hcm, hcs, htake⟩
  · obtain rfl : ll = [] := List.eq_nil_of_length_eq_zero hl
    refine (sort_none none 0 w).mono ?_
    rintro e w' ⟨rfl, rfl⟩
    exact ⟨rfl, [], List.Perm.refl _, .nil, hown, World.grownBy.refl _ _⟩
  · subst hl
    have hglt : g < w.heap.size := (Array.getElem?_eq_some_iff.1 hh).1
    have hB : Blk w g 58 cur := hh
    by_cases hne : ll = []
    · subst hne
      refine (sort_none (some ⟨g, 0, none⟩) cap w).mono ?_
      rintro e w' ⟨rfl, rfl⟩
      exact ⟨rfl, [], List.Perm.refl _, .nil, hown, World.grownBy.refl _ _⟩
    have hi0 : 0 < ll.length := List.length_pos_iff.2 hne
    haveI : Inhabited {x : TxM // x ∈ ll} := ⟨⟨ll[0], List.getElem_mem hi0⟩⟩
    obtain ⟨enc, henc⟩ : ∃ enc : {x : TxM // x ∈ ll} → Value, enc = fun x => .pointer (some ⟨x.1.g, 0, none⟩) := ⟨_, rfl⟩
    have hat : ∀ j (hj : j < ll.length), (ll.attach.toArray)[j]! = ⟨ll[j], List.getElem_mem hj⟩ := fun j hj => by
      rw [getElem!_pos _ j (by simpa using hj)]
      simp
    have hH : Go.Sort.Holds enc w g 0 ll.attach.toArray := by
      intro j hj
      have hj' : j < ll.length := by simpa using hj
      have hc := hown.cellAt j (by omega)
      rw [hat j hj', henc, Nat.zero_add]
      refine ⟨hc.trans ?_, hown.frozenAt _⟩
      unfold ptrs
      rw [List.getElem?_map, List.getElem?_eq_getElem hj']
      rfl
    have hcl : CmpLays1 Tryz.prog 22 #[] enc (fun x y => cmp3 x.1.t.stamp y.1.t.stamp) g 0 ll.attach.toArray.size w := by
      intro m os dk hs x y
      have hk : ∀ (z : TxM), TxAt w b0 z → TxAt (sortWorld enc w g 0 m dk os) b0 z := fun z hz => hz.keep fun q hq => by
        have hqlt := (hz.lt hq).2
        have hqg : q ≠ g := by
          rintro rfl
          rcases hq with hq | hq
          · exact (hz.blk.ne_ hB (by decide)) hq.symm
          · exact own_ne_blk hz.steps hB (by decide) hq
        show (w.heap.modify g _ ++ os)[q]? = _
        rw [Array.getElem?_append_left (by simpa using hqlt), Array.getElem?_modify, if_neg (fun e => hqg e.symm)]
      have h := fcmp_any (hk x.1 (hT x.1 x.2)) (hk y.1 (hT y.1 y.2))
      rw [henc] at h ⊢
      exact h.mono fun _ _ ⟨he, q, hq⟩ => ⟨he, q, #[], by rw [hq, Go.Sort.grow_empty]⟩
    have eg : ∀ args w, (callFunc 22 args).run Tryz.prog w = .ok (.enter 22 args) w := enters_of Tryz.func22 (by kernel_rfl) rfl
    have h := Any.slices_SortFunc sortTx enc (fun x => by rw [henc]; rfl) (fun x y => cmp3 x.1.t.stamp y.1.t.stamp) swoStamp 22 #[] g 0 cap ll.attach.toArray w eg hcl hH hglt (by simp; omega)
    change Calls Tryz.prog 21 _ _ _ at h
    rw [show ll.attach.toArray.size = ll.length by simp] at h
    refine h.mono ?_
    rintro e w' ⟨rfl, d', q, os, hp, hs, rfl⟩
    obtain ⟨hsz, -, hperm⟩ := hp
    have hsz' : d'.size = ll.length := by simpa using hsz
    have hp2 : d'.toList.Perm ll.attach := by
      have e1 : (d'.extract 0 ll.length).toList = d'.toList := by rw [← hsz']; simp
      have e2 : ((ll.attach.toArray).extract 0 ll.length).toList = ll.attach := by
        have : ll.length = ll.attach.length := by simp
        rw [this]
        generalize ll.attach = z
        simp
      rw [e1, e2] at hperm
      exact hperm
    refine ⟨rfl, d'.toList.map (·.1), ?_, ?_, ?_, ?_⟩
    · have := hp2.map (·.1)
      rwa [List.attach_map_subtype_val] at this
    · rw [List.pairwise_map, List.pairwise_iff_getElem]
      intro i j hi hj hij
      have := hs i j (Nat.zero_le _) hij (by simpa [hsz'] using hj)
      simp only [Array.length_toList] at hi hj
      unfold ltOf at this
      rw [ltStamp] at this
      rw [getElem!_pos d' i hi, getElem!_pos d' j hj] at this
      simp at this
      simpa using this
    · refine ⟨by simp [ptrs, hsz'], .inr ⟨g, cap, Go.Sort.putCells enc 0 d' cur, rfl, hg, ?_, hnc, hcm, by simp [Go.Sort.putCells, hcs], ?_⟩⟩
      · have hm : (w.heap.modify g (Go.Sort.onCells (Go.Sort.putCells enc 0 d')))[g]? = some (.cells (Go.Sort.putCells enc 0 d' cur) 58 (0, 0)) := by
          rw [Array.getElem?_modify, if_pos rfl, hh]
          rfl
        show (w.heap.modify g (Go.Sort.onCells (Go.Sort.putCells enc 0 d')) ++ os)[g]? = _
        rw [Array.getElem?_append_left (by simpa using hglt)]
        exact hm
      · apply List.ext_getElem?
        intro t
        by_cases ht : t < ll.length
        · have hc : t < cur.size := by rw [hcs]; omega
          have hd : t < d'.size := by omega
          rw [List.getElem?_take, if_pos (by omega), Array.getElem?_toList]
          simp only [Go.Sort.putCells, Array.getElem?_mapIdx, Array.getElem?_eq_getElem hc, Option.map_some, Nat.zero_le, true_and, Nat.zero_add, hd, if_true, Nat.sub_zero]
          unfold ptrs
          rw [List.map_map, List.getElem?_map, List.getElem?_eq_getElem (by simpa using hd), getElem!_pos d' t hd, henc]
          simp
        · rw [List.getElem?_take, if_neg (by omega), List.getElem?_eq_none (by simp [ptrs]; omega)]
    · refine ⟨rfl, rfl, rfl, ?_, fun i hi hne => ?_⟩
      · show w.heap.size ≤ (w.heap.modify g (Go.Sort.onCells (Go.Sort.putCells enc 0 d')) ++ os).size
        simp
      · show (w.heap.modify g (Go.Sort.onCells (Go.Sort.putCells enc 0 d')) ++ os)[i]? = w.heap[i]?
        rw [Array.getElem?_append_left (by simpa using hi), Array.getElem?_modify, if_neg (by rintro rfl; exact hne rfl)]
end Go.Proofs.YtffjcojehiblnaaGreatDoor
