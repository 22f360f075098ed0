/- One call of both memories: each is answered alike. -/
import Derived.Test.YtnpeldbnnneijaaMu4
namespace Go.Proofs.Ytnpeldbnnneijaa
open Go.RowKit Go.Joins Go.ChangeShapes Go.WideShapes Go.Deep
set_option linter.unusedVariables false
set_option maxRecDepth 100000

theorem Blk.frmK {W W' : World} {g : Nat} {t : TypeId} {cs : Array Value} {S : Nat → Prop} (h : Blk W g t cs) (hF : Frm W W' S) (hn : ¬ S g) : Blk W' g t cs := (hF.block g h.lt hn).trans h

set_option maxHeartbeats 4000000 in
theorem does_k1 {w : World} {base C R b rb n gh gs gc : Nat} {lv rlv : Value} {m : MS} {S : Nat → Prop} (HD : Hid (Duo w base C R b gh gs gc lv m rb rlv S)) (hlen : m.log.length ≤ n) (th xk xi xj ol vl xn : Int) (HCR : Hid (C ≤ 1024 ∧ R ≤ 16)) (hn : n ≤ 2199023255540) (hbase : base ≤ w.heap.size) :
    Calls Try.prog 16 #[.pointer (some ⟨b, 0, none⟩), .pointer (some ⟨rb, 0, none⟩), .agg #[.int .i64 1, .int .i64 th, .int .i64 xk, .int .i64 xi, .int .i64 xj, .int .i64 ol, .int .i64 vl, .int .i64 xn]] w
      fun e w' => e = .returned (.bool true) ∧ DStep w w' base C R b rb (n + 1) S := by
  have hwo := HD.out.word_or xk xi xj
  rcases hwo with ⟨hw, hi⟩ | ⟨V, hw, hi, hV⟩
  · have HW := Lib.hid hw
    have HI := Lib.hid hi
    clear hw hi
    go_enter Try.func16, Try.ntmps16
    go_wp2_with fail
    refine (load_no (HD.out.p.alloc _) th xk xi xj HW.out).mono ?_
    rintro e w1 ⟨rfl, hb1⟩
    have hX1 : Blk w1 w.heap.size 36 #[.int .i64 1, .int .i64 th, .int .i64 xk, .int .i64 xi, .int .i64 xj, .int .i64 ol, .int .i64 vl, .int .i64 xn] := (Blk.new w _ _).below hb1 (by simp)
    have hbw1 : Below w.heap.size w w1 := below_new.trans (hb1.mono (by simp))
    have x0 : w1.cell? ⟨w.heap.size, 0, none⟩ = some (.int .i64 1) := (hX1.cell 0).trans rfl
    have x1 : w1.cell? ⟨w.heap.size, 1, none⟩ = some (.int .i64 th) := (hX1.cell 1).trans rfl
    have x2 : w1.cell? ⟨w.heap.size, 2, none⟩ = some (.int .i64 xk) := (hX1.cell 2).trans rfl
    have x3 : w1.cell? ⟨w.heap.size, 3, none⟩ = some (.int .i64 xi) := (hX1.cell 3).trans rfl
    have x4 : w1.cell? ⟨w.heap.size, 4, none⟩ = some (.int .i64 xj) := (hX1.cell 4).trans rfl
    have x5 : w1.cell? ⟨w.heap.size, 5, none⟩ = some (.int .i64 ol) := (hX1.cell 5).trans rfl
    have x6 : w1.cell? ⟨w.heap.size, 6, none⟩ = some (.int .i64 vl) := (hX1.cell 6).trans rfl
    have x7 : w1.cell? ⟨w.heap.size, 7, none⟩ = some (.int .i64 xn) := (hX1.cell 7).trans rfl
    have xl := hX1.lt
    have HB1 := Lib.hid hbw1
    clear hb1 hX1 hbw1
    go_wp2_with fail
    refine (rload_no (HD.out.r.below HB1.out) th xk xi xj HI.out).mono ?_
    rintro e w2 ⟨rfl, hb2⟩
    have HB2 := Lib.hid (HB1.out.trans (hb2.mono HB1.out.size))
    clear hb2
    go_wp2_with fail
    go_ret
    exact ⟨rfl, DStep.same HD.out (by omega) HB2.out⟩
  · have HW := Lib.hid hw
    have HI := Lib.hid hi
    have HV := Lib.hid hV
    clear hw hi hV
    go_enter Try.func16, Try.ntmps16
    go_wp2_with fail
    refine (load_yes (HD.out.p.alloc _) th xk xi xj V HW.out (by omega)).mono ?_
    rintro e w1 ⟨lv1, rfl, hM1, hF1⟩
    obtain ⟨hR1, -⟩ := HD.out.mid (by exact below_new) hF1
    have hX1 : Blk w1 w.heap.size 36 #[.int .i64 1, .int .i64 th, .int .i64 xk, .int .i64 xi, .int .i64 xj, .int .i64 ol, .int .i64 vl, .int .i64 xn] := (Blk.new w _ _).frmK hF1.frm (fun hm => by have := (HD.out.p.inF hm).2; omega)
    have x0 : w1.cell? ⟨w.heap.size, 0, none⟩ = some (.int .i64 1) := (hX1.cell 0).trans rfl
    have x1 : w1.cell? ⟨w.heap.size, 1, none⟩ = some (.int .i64 th) := (hX1.cell 1).trans rfl
    have x2 : w1.cell? ⟨w.heap.size, 2, none⟩ = some (.int .i64 xk) := (hX1.cell 2).trans rfl
    have x3 : w1.cell? ⟨w.heap.size, 3, none⟩ = some (.int .i64 xi) := (hX1.cell 3).trans rfl
    have x4 : w1.cell? ⟨w.heap.size, 4, none⟩ = some (.int .i64 xj) := (hX1.cell 4).trans rfl
    have x5 : w1.cell? ⟨w.heap.size, 5, none⟩ = some (.int .i64 ol) := (hX1.cell 5).trans rfl
    have x6 : w1.cell? ⟨w.heap.size, 6, none⟩ = some (.int .i64 vl) := (hX1.cell 6).trans rfl
    have x7 : w1.cell? ⟨w.heap.size, 7, none⟩ = some (.int .i64 xn) := (hX1.cell 7).trans rfl
    have xl := hX1.lt
    have HR1 := Lib.hid hR1
    have HF1 := Lib.hid hF1
    have HM1 := Lib.hid hM1
    clear hM1 hF1 hR1 hX1
    go_wp2_with fail
    refine (rload_yes HR1.out th xk xi xj V HI.out (by omega) HV.out).mono ?_
    rintro e w2 ⟨rlv2, rfl, hR2, hF2, hn2⟩
    have HFIN : Hid (DStep w w2 base C R b rb (n + 1) S) := Lib.hid (HD.out.done (x := ⟨th, 1, xk, xi, xj, 0, V, false⟩) below_new HF1.out HM1.out rfl (HD.out.told.load HW.out) (withLog_sized HD.out.sized _) (by exact HI.out) hF2 hR2 hn2 hlen hbase)
    clear hR2 hF2 hn2
    go_wp2_with fail
    go_ret
    exact ⟨rfl, HFIN.out⟩
set_option maxHeartbeats 4000000 in
theorem does_k2 {w : World} {base C R b rb n gh gs gc : Nat} {lv rlv : Value} {m : MS} {S : Nat → Prop} (HD : Hid (Duo w base C R b gh gs gc lv m rb rlv S)) (hlen : m.log.length ≤ n) (th xk xi xj ol vl xn : Int) (HCR : Hid (C ≤ 1024 ∧ R ≤ 16)) (hn : n ≤ 2199023255540) (hbase : base ≤ w.heap.size) :
    Calls Try.prog 16 #[.pointer (some ⟨b, 0, none⟩), .pointer (some ⟨rb, 0, none⟩), .agg #[.int .i64 2, .int .i64 th, .int .i64 xk, .int .i64 xi, .int .i64 xj, .int .i64 ol, .int .i64 vl, .int .i64 xn]] w
      fun e w' => e = .returned (.bool true) ∧ DStep w w' base C R b rb (n + 1) S := by
  have hwo := HD.out.word_or xk xi xj
  rcases hwo with ⟨hw, hi⟩ | ⟨V, hw, hi, hV⟩
  · have HW := Lib.hid hw
    have HI := Lib.hid hi
    clear hw hi
    go_enter Try.func16, Try.ntmps16
    go_wp2_with fail
    refine (store_no (HD.out.p.alloc _) th xk xi xj vl HW.out).mono ?_
    rintro e w1 ⟨rfl, hb1⟩
    have hX1 : Blk w1 w.heap.size 36 #[.int .i64 2, .int .i64 th, .int .i64 xk, .int .i64 xi, .int .i64 xj, .int .i64 ol, .int .i64 vl, .int .i64 xn] := (Blk.new w _ _).below hb1 (by simp)
    have hbw1 : Below w.heap.size w w1 := below_new.trans (hb1.mono (by simp))
    have x0 : w1.cell? ⟨w.heap.size, 0, none⟩ = some (.int .i64 2) := (hX1.cell 0).trans rfl
    have x1 : w1.cell? ⟨w.heap.size, 1, none⟩ = some (.int .i64 th) := (hX1.cell 1).trans rfl
    have x2 : w1.cell? ⟨w.heap.size, 2, none⟩ = some (.int .i64 xk) := (hX1.cell 2).trans rfl
    have x3 : w1.cell? ⟨w.heap.size, 3, none⟩ = some (.int .i64 xi) := (hX1.cell 3).trans rfl
    have x4 : w1.cell? ⟨w.heap.size, 4, none⟩ = some (.int .i64 xj) := (hX1.cell 4).trans rfl
    have x5 : w1.cell? ⟨w.heap.size, 5, none⟩ = some (.int .i64 ol) := (hX1.cell 5).trans rfl
    have x6 : w1.cell? ⟨w.heap.size, 6, none⟩ = some (.int .i64 vl) := (hX1.cell 6).trans rfl
    have x7 : w1.cell? ⟨w.heap.size, 7, none⟩ = some (.int .i64 xn) := (hX1.cell 7).trans rfl
    have xl := hX1.lt
    have HB1 := Lib.hid hbw1
    clear hb1 hX1 hbw1
    go_wp2_with fail
    refine (rstore_no (HD.out.r.below HB1.out) th xk xi xj vl HI.out).mono ?_
    rintro e w2 ⟨rfl, hb2⟩
    have HB2 := Lib.hid (HB1.out.trans (hb2.mono HB1.out.size))
    clear hb2
    go_wp2_with fail
    go_ret
    exact ⟨rfl, DStep.same HD.out (by omega) HB2.out⟩
  · have HW := Lib.hid hw
    have HI := Lib.hid hi
    clear hw hi hV
    go_enter Try.func16, Try.ntmps16
    go_wp2_with fail
    refine (store_yes (HD.out.p.alloc _) th xk xi xj vl V HW.out (by omega)).mono ?_
    rintro e w1 ⟨lv1, rfl, hM1, hF1⟩
    obtain ⟨hR1, -⟩ := HD.out.mid (by exact below_new) hF1
    have hX1 : Blk w1 w.heap.size 36 #[.int .i64 2, .int .i64 th, .int .i64 xk, .int .i64 xi, .int .i64 xj, .int .i64 ol, .int .i64 vl, .int .i64 xn] := (Blk.new w _ _).frmK hF1.frm (fun hm => by have := (HD.out.p.inF hm).2; omega)
    have x0 : w1.cell? ⟨w.heap.size, 0, none⟩ = some (.int .i64 2) := (hX1.cell 0).trans rfl
    have x1 : w1.cell? ⟨w.heap.size, 1, none⟩ = some (.int .i64 th) := (hX1.cell 1).trans rfl
    have x2 : w1.cell? ⟨w.heap.size, 2, none⟩ = some (.int .i64 xk) := (hX1.cell 2).trans rfl
    have x3 : w1.cell? ⟨w.heap.size, 3, none⟩ = some (.int .i64 xi) := (hX1.cell 3).trans rfl
    have x4 : w1.cell? ⟨w.heap.size, 4, none⟩ = some (.int .i64 xj) := (hX1.cell 4).trans rfl
    have x5 : w1.cell? ⟨w.heap.size, 5, none⟩ = some (.int .i64 ol) := (hX1.cell 5).trans rfl
    have x6 : w1.cell? ⟨w.heap.size, 6, none⟩ = some (.int .i64 vl) := (hX1.cell 6).trans rfl
    have x7 : w1.cell? ⟨w.heap.size, 7, none⟩ = some (.int .i64 xn) := (hX1.cell 7).trans rfl
    have xl := hX1.lt
    have HR1 := Lib.hid hR1
    have HF1 := Lib.hid hF1
    have HM1 := Lib.hid hM1
    clear hM1 hF1 hR1 hX1
    go_wp2_with fail
    refine (rstore_yes HR1.out th xk xi xj vl HI.out (by omega)).mono ?_
    rintro e w2 ⟨rlv2, rfl, hR2, hF2, hn2⟩
    have HFIN : Hid (DStep w w2 base C R b rb (n + 1) S) := Lib.hid (HD.out.done (x := ⟨th, 2, xk, xi, xj, 0, vl, false⟩) below_new HF1.out HM1.out (show (setAt m xk xi xj vl).log ++ _ = _ by rw [setAt_log]) (HD.out.told.write HW.out ⟨rfl, rfl, rfl⟩ rfl (.inl rfl)) (withLog_sized (setAt_sized HD.out.sized _ _ _) _) (by exact HI.out) hF2 hR2 hn2 hlen hbase)
    clear hR2 hF2 hn2
    go_wp2_with fail
    go_ret
    exact ⟨rfl, HFIN.out⟩
set_option maxHeartbeats 4000000 in
theorem does_k3 {w : World} {base C R b rb n gh gs gc : Nat} {lv rlv : Value} {m : MS} {S : Nat → Prop} (HD : Hid (Duo w base C R b gh gs gc lv m rb rlv S)) (hlen : m.log.length ≤ n) (th xk xi xj ol vl xn : Int) (HCR : Hid (C ≤ 1024 ∧ R ≤ 16)) (hn : n ≤ 2199023255540) (hbase : base ≤ w.heap.size) :
    Calls Try.prog 16 #[.pointer (some ⟨b, 0, none⟩), .pointer (some ⟨rb, 0, none⟩), .agg #[.int .i64 3, .int .i64 th, .int .i64 xk, .int .i64 xi, .int .i64 xj, .int .i64 ol, .int .i64 vl, .int .i64 xn]] w
      fun e w' => e = .returned (.bool true) ∧ DStep w w' base C R b rb (n + 1) S := by
  have hwo := HD.out.word_or xk xi xj
  rcases hwo with ⟨hw, hi⟩ | ⟨V, hw, hi, hV⟩
  · have HW := Lib.hid hw
    have HI := Lib.hid hi
    clear hw hi
    go_enter Try.func16, Try.ntmps16
    go_wp2_with fail
    refine (swap_no (HD.out.p.alloc _) th xk xi xj ol vl HW.out).mono ?_
    rintro e w1 ⟨rfl, hb1⟩
    have hX1 : Blk w1 w.heap.size 36 #[.int .i64 3, .int .i64 th, .int .i64 xk, .int .i64 xi, .int .i64 xj, .int .i64 ol, .int .i64 vl, .int .i64 xn] := (Blk.new w _ _).below hb1 (by simp)
    have hbw1 : Below w.heap.size w w1 := below_new.trans (hb1.mono (by simp))
    have x0 : w1.cell? ⟨w.heap.size, 0, none⟩ = some (.int .i64 3) := (hX1.cell 0).trans rfl
    have x1 : w1.cell? ⟨w.heap.size, 1, none⟩ = some (.int .i64 th) := (hX1.cell 1).trans rfl
    have x2 : w1.cell? ⟨w.heap.size, 2, none⟩ = some (.int .i64 xk) := (hX1.cell 2).trans rfl
    have x3 : w1.cell? ⟨w.heap.size, 3, none⟩ = some (.int .i64 xi) := (hX1.cell 3).trans rfl
    have x4 : w1.cell? ⟨w.heap.size, 4, none⟩ = some (.int .i64 xj) := (hX1.cell 4).trans rfl
    have x5 : w1.cell? ⟨w.heap.size, 5, none⟩ = some (.int .i64 ol) := (hX1.cell 5).trans rfl
    have x6 : w1.cell? ⟨w.heap.size, 6, none⟩ = some (.int .i64 vl) := (hX1.cell 6).trans rfl
    have x7 : w1.cell? ⟨w.heap.size, 7, none⟩ = some (.int .i64 xn) := (hX1.cell 7).trans rfl
    have xl := hX1.lt
    have HB1 := Lib.hid hbw1
    clear hb1 hX1 hbw1
    go_wp2_with fail
    refine (rswap_no (HD.out.r.below HB1.out) th xk xi xj ol vl HI.out).mono ?_
    rintro e w2 ⟨rfl, hb2⟩
    have HB2 := Lib.hid (HB1.out.trans (hb2.mono HB1.out.size))
    clear hb2
    go_wp2_with fail
    go_ret
    exact ⟨rfl, DStep.same HD.out (by omega) HB2.out⟩
  · have HW := Lib.hid hw
    have HI := Lib.hid hi
    have HV := Lib.hid hV
    clear hw hi hV
    by_cases hov : V = ol
    · obtain rfl : ol = V := hov.symm
      have hy : Hid ((ol == ol) = true) := Lib.hid (by simp)
      go_enter Try.func16, Try.ntmps16
      go_wp2_with fail
      refine (swap_yes (HD.out.p.alloc _) th xk xi xj vl ol HW.out (by omega)).mono ?_
      rintro e w1 ⟨lv1, rfl, hM1, hF1⟩
      obtain ⟨hR1, -⟩ := HD.out.mid (by exact below_new) hF1
      have hX1 : Blk w1 w.heap.size 36 #[.int .i64 3, .int .i64 th, .int .i64 xk, .int .i64 xi, .int .i64 xj, .int .i64 ol, .int .i64 vl, .int .i64 xn] := (Blk.new w _ _).frmK hF1.frm (fun hm => by have := (HD.out.p.inF hm).2; omega)
      have x0 : w1.cell? ⟨w.heap.size, 0, none⟩ = some (.int .i64 3) := (hX1.cell 0).trans rfl
      have x1 : w1.cell? ⟨w.heap.size, 1, none⟩ = some (.int .i64 th) := (hX1.cell 1).trans rfl
      have x2 : w1.cell? ⟨w.heap.size, 2, none⟩ = some (.int .i64 xk) := (hX1.cell 2).trans rfl
      have x3 : w1.cell? ⟨w.heap.size, 3, none⟩ = some (.int .i64 xi) := (hX1.cell 3).trans rfl
      have x4 : w1.cell? ⟨w.heap.size, 4, none⟩ = some (.int .i64 xj) := (hX1.cell 4).trans rfl
      have x5 : w1.cell? ⟨w.heap.size, 5, none⟩ = some (.int .i64 ol) := (hX1.cell 5).trans rfl
      have x6 : w1.cell? ⟨w.heap.size, 6, none⟩ = some (.int .i64 vl) := (hX1.cell 6).trans rfl
      have x7 : w1.cell? ⟨w.heap.size, 7, none⟩ = some (.int .i64 xn) := (hX1.cell 7).trans rfl
      have xl := hX1.lt
      have HR1 := Lib.hid hR1
      have HF1 := Lib.hid hF1
      have HM1 := Lib.hid hM1
      clear hM1 hF1 hR1 hX1
      go_wp2_with fail
      refine (rswap_yes HR1.out th xk xi xj ol vl ol true HI.out (by omega) HV.out hy.out).mono ?_
      rintro e w2 ⟨rlv2, rfl, hR2, hF2, hn2⟩
      have HFIN : Hid (DStep w w2 base C R b rb (n + 1) S) := Lib.hid (HD.out.done (x := ⟨th, 3, xk, xi, xj, ol, vl, true⟩) below_new HF1.out HM1.out (show (setAt m xk xi xj vl).log ++ _ = _ by rw [setAt_log]) (HD.out.told.write HW.out ⟨rfl, rfl, rfl⟩ rfl (.inr ⟨rfl, rfl, rfl⟩)) (withLog_sized (setAt_sized HD.out.sized _ _ _) _) (by exact HI.out) hF2 hR2 hn2 hlen hbase)
      clear hR2 hF2 hn2
      go_wp2_with fail
      go_ret
      exact ⟨rfl, HFIN.out⟩
    · have hne : Hid ((V == ol) = false) := Lib.hid (by simp [hov])
      have HOV := Lib.hid hov
      clear hov
      go_enter Try.func16, Try.ntmps16
      go_wp2_with fail
      refine (swap_keep (HD.out.p.alloc _) th xk xi xj ol vl V HW.out hne.out (by omega)).mono ?_
      rintro e w1 ⟨lv1, rfl, hM1, hF1⟩
      obtain ⟨hR1, -⟩ := HD.out.mid (by exact below_new) hF1
      have hX1 : Blk w1 w.heap.size 36 #[.int .i64 3, .int .i64 th, .int .i64 xk, .int .i64 xi, .int .i64 xj, .int .i64 ol, .int .i64 vl, .int .i64 xn] := (Blk.new w _ _).frmK hF1.frm (fun hm => by have := (HD.out.p.inF hm).2; omega)
      have x0 : w1.cell? ⟨w.heap.size, 0, none⟩ = some (.int .i64 3) := (hX1.cell 0).trans rfl
      have x1 : w1.cell? ⟨w.heap.size, 1, none⟩ = some (.int .i64 th) := (hX1.cell 1).trans rfl
      have x2 : w1.cell? ⟨w.heap.size, 2, none⟩ = some (.int .i64 xk) := (hX1.cell 2).trans rfl
      have x3 : w1.cell? ⟨w.heap.size, 3, none⟩ = some (.int .i64 xi) := (hX1.cell 3).trans rfl
      have x4 : w1.cell? ⟨w.heap.size, 4, none⟩ = some (.int .i64 xj) := (hX1.cell 4).trans rfl
      have x5 : w1.cell? ⟨w.heap.size, 5, none⟩ = some (.int .i64 ol) := (hX1.cell 5).trans rfl
      have x6 : w1.cell? ⟨w.heap.size, 6, none⟩ = some (.int .i64 vl) := (hX1.cell 6).trans rfl
      have x7 : w1.cell? ⟨w.heap.size, 7, none⟩ = some (.int .i64 xn) := (hX1.cell 7).trans rfl
      have xl := hX1.lt
      have HR1 := Lib.hid hR1
      have HF1 := Lib.hid hF1
      have HM1 := Lib.hid hM1
      clear hM1 hF1 hR1 hX1
      go_wp2_with fail
      refine (rswap_yes HR1.out th xk xi xj ol vl V false HI.out (by omega) HV.out hne.out).mono ?_
      rintro e w2 ⟨rlv2, rfl, hR2, hF2, hn2⟩
      have HFIN : Hid (DStep w w2 base C R b rb (n + 1) S) := Lib.hid (HD.out.done (x := ⟨th, 3, xk, xi, xj, ol, vl, false⟩) below_new HF1.out HM1.out rfl (HD.out.told.swapNo HW.out ⟨rfl, rfl, rfl⟩ rfl rfl (fun e => HOV.out e.symm)) (withLog_sized HD.out.sized _) (by exact HI.out) hF2 hR2 hn2 hlen hbase)
      clear hR2 hF2 hn2
      go_wp2_with fail
      go_ret
      exact ⟨rfl, HFIN.out⟩
set_option maxHeartbeats 4000000 in
theorem does_k4 {w : World} {base C R b rb n gh gs gc : Nat} {lv rlv : Value} {m : MS} {S : Nat → Prop} (HD : Hid (Duo w base C R b gh gs gc lv m rb rlv S)) (hlen : m.log.length ≤ n) (th xk xi xj ol vl xn : Int) (HCR : Hid (C ≤ 1024 ∧ R ≤ 16)) (hn : n ≤ 2199023255540) (hbase : base ≤ w.heap.size) :
    Calls Try.prog 16 #[.pointer (some ⟨b, 0, none⟩), .pointer (some ⟨rb, 0, none⟩), .agg #[.int .i64 4, .int .i64 th, .int .i64 xk, .int .i64 xi, .int .i64 xj, .int .i64 ol, .int .i64 vl, .int .i64 xn]] w
      fun e w' => e = .returned (.bool true) ∧ DStep w w' base C R b rb (n + 1) S := by
  have hwo := HD.out.word_or xk xi xj
  have HP := fun W (hW : Below w.heap.size w W) => peek_any (HD.out.p.below hW) xk xi xj
  have HR := fun W (hW : Below w.heap.size w W) => rpeek_any (HD.out.r.below hW) xk xi xj (by omega)
  rcases hwo with ⟨hw, hi⟩ | ⟨V, hw, hi, hV⟩
  · rw [hw] at HP
    simp only [if_neg hi] at HR
    simp only [Option.getD_none, Option.isSome_none, Bool.false_eq_true, if_false] at HP
    clear hw hi
    go_enter Try.func16, Try.ntmps16
    go_wp2_with fail
    refine (HP _ (by exact below_new)).mono ?_
    rintro e w1 ⟨rfl, hb1⟩
    have hX1 : Blk w1 w.heap.size 36 #[.int .i64 4, .int .i64 th, .int .i64 xk, .int .i64 xi, .int .i64 xj, .int .i64 ol, .int .i64 vl, .int .i64 xn] := (Blk.new w _ _).below hb1 (by simp)
    have hbw1 : Below w.heap.size w w1 := below_new.trans (hb1.mono (by simp))
    have x0 : w1.cell? ⟨w.heap.size, 0, none⟩ = some (.int .i64 4) := (hX1.cell 0).trans rfl
    have x1 : w1.cell? ⟨w.heap.size, 1, none⟩ = some (.int .i64 th) := (hX1.cell 1).trans rfl
    have x2 : w1.cell? ⟨w.heap.size, 2, none⟩ = some (.int .i64 xk) := (hX1.cell 2).trans rfl
    have x3 : w1.cell? ⟨w.heap.size, 3, none⟩ = some (.int .i64 xi) := (hX1.cell 3).trans rfl
    have x4 : w1.cell? ⟨w.heap.size, 4, none⟩ = some (.int .i64 xj) := (hX1.cell 4).trans rfl
    have x5 : w1.cell? ⟨w.heap.size, 5, none⟩ = some (.int .i64 ol) := (hX1.cell 5).trans rfl
    have x6 : w1.cell? ⟨w.heap.size, 6, none⟩ = some (.int .i64 vl) := (hX1.cell 6).trans rfl
    have x7 : w1.cell? ⟨w.heap.size, 7, none⟩ = some (.int .i64 xn) := (hX1.cell 7).trans rfl
    have xl := hX1.lt
    have HB1 := Lib.hid hbw1
    clear hb1 hX1 hbw1
    go_wp2_with fail
    refine (HR _ HB1.out).mono ?_
    rintro e w2 ⟨rfl, hb2⟩
    have HB2 := Lib.hid (HB1.out.trans (hb2.mono HB1.out.size))
    clear hb2
    go_wp2_with fail
    go_ret
    exact ⟨rfl, DStep.same HD.out (by omega) HB2.out⟩
  · rw [hw] at HP
    simp only [if_pos hi] at HR
    simp only [Option.getD_some, Option.isSome_some, if_true] at HP
    rw [← hV] at HR
    clear hw hi hV
    go_enter Try.func16, Try.ntmps16
    go_wp2_with fail
    refine (HP _ (by exact below_new)).mono ?_
    rintro e w1 ⟨rfl, hb1⟩
    have hX1 : Blk w1 w.heap.size 36 #[.int .i64 4, .int .i64 th, .int .i64 xk, .int .i64 xi, .int .i64 xj, .int .i64 ol, .int .i64 vl, .int .i64 xn] := (Blk.new w _ _).below hb1 (by simp)
    have hbw1 : Below w.heap.size w w1 := below_new.trans (hb1.mono (by simp))
    have x0 : w1.cell? ⟨w.heap.size, 0, none⟩ = some (.int .i64 4) := (hX1.cell 0).trans rfl
    have x1 : w1.cell? ⟨w.heap.size, 1, none⟩ = some (.int .i64 th) := (hX1.cell 1).trans rfl
    have x2 : w1.cell? ⟨w.heap.size, 2, none⟩ = some (.int .i64 xk) := (hX1.cell 2).trans rfl
    have x3 : w1.cell? ⟨w.heap.size, 3, none⟩ = some (.int .i64 xi) := (hX1.cell 3).trans rfl
    have x4 : w1.cell? ⟨w.heap.size, 4, none⟩ = some (.int .i64 xj) := (hX1.cell 4).trans rfl
    have x5 : w1.cell? ⟨w.heap.size, 5, none⟩ = some (.int .i64 ol) := (hX1.cell 5).trans rfl
    have x6 : w1.cell? ⟨w.heap.size, 6, none⟩ = some (.int .i64 vl) := (hX1.cell 6).trans rfl
    have x7 : w1.cell? ⟨w.heap.size, 7, none⟩ = some (.int .i64 xn) := (hX1.cell 7).trans rfl
    have xl := hX1.lt
    have HB1 := Lib.hid hbw1
    clear hb1 hX1 hbw1
    go_wp2_with fail
    refine (HR _ HB1.out).mono ?_
    rintro e w2 ⟨rfl, hb2⟩
    have HB2 := Lib.hid (HB1.out.trans (hb2.mono HB1.out.size))
    clear hb2
    go_wp2_with fail
    go_ret
    exact ⟨rfl, DStep.same HD.out (by omega) HB2.out⟩
set_option maxHeartbeats 4000000 in
theorem does_k5 {w : World} {base C R b rb n gh gs gc : Nat} {lv rlv : Value} {m : MS} {S : Nat → Prop} (HD : Hid (Duo w base C R b gh gs gc lv m rb rlv S)) (hlen : m.log.length ≤ n) (th xk xi xj ol vl xn : Int) (HCR : Hid (C ≤ 1024 ∧ R ≤ 16)) (hn : n ≤ 2199023255540) (hbase : base ≤ w.heap.size) :
    Calls Try.prog 16 #[.pointer (some ⟨b, 0, none⟩), .pointer (some ⟨rb, 0, none⟩), .agg #[.int .i64 5, .int .i64 th, .int .i64 xk, .int .i64 xi, .int .i64 xj, .int .i64 ol, .int .i64 vl, .int .i64 xn]] w
      fun e w' => e = .returned (.bool true) ∧ DStep w w' base C R b rb (n + 1) S := by
  obtain ⟨Rv, rc, hrv, -, -⟩ := own_shapes HD.out.r.log
  have c2 : w.cell? ⟨rb, 2, none⟩ = some rlv := (HD.out.r.blk.cell 2).trans rfl
  rw [hrv] at c2
  have hrl := HD.out.r.blk.lt
  obtain ⟨N, hN⟩ : ∃ N, N = m.log.length := ⟨_, rfl⟩
  have HC := Lib.hid (count_any (HD.out.p.alloc (.cells #[.int .i64 5, .int .i64 th, .int .i64 xk, .int .i64 xi, .int .i64 xj, .int .i64 ol, .int .i64 vl, .int .i64 xn] 36)))
  rw [← hN] at HC c2
  clear hrv hN
  go_enter Try.func16, Try.ntmps16
  go_wp2_with fail
  refine HC.out.mono ?_
  rintro e w1 ⟨rfl, rfl⟩
  go_wp2_with fail
  go_ret
  exact ⟨rfl, DStep.same HD.out (by omega) below_new⟩
set_option maxHeartbeats 4000000 in
theorem does_k6 {w : World} {base C R b rb n gh gs gc : Nat} {lv rlv : Value} {m : MS} {S : Nat → Prop} (HD : Hid (Duo w base C R b gh gs gc lv m rb rlv S)) (hlen : m.log.length ≤ n) (th xk xi xj ol vl xn : Int) (HCR : Hid (C ≤ 1024 ∧ R ≤ 16)) (hn : n ≤ 2199023255540) (hbase : base ≤ w.heap.size) :
    Calls Try.prog 16 #[.pointer (some ⟨b, 0, none⟩), .pointer (some ⟨rb, 0, none⟩), .agg #[.int .i64 6, .int .i64 th, .int .i64 xk, .int .i64 xi, .int .i64 xj, .int .i64 ol, .int .i64 vl, .int .i64 xn]] w
      fun e w' => e = .returned (.bool true) ∧ DStep w w' base C R b rb (n + 1) S := by
  have HC := Lib.hid fun W (hW : Below w.heap.size w W) => logs_any (HD.out.p.below hW) (HD.out.r.below hW) xn (by omega)
  go_enter Try.func16, Try.ntmps16
  go_wp2_with fail
  refine (HC.out _ (by exact below_new)).mono ?_
  rintro e w1 ⟨rfl, hb1⟩
  have HB1 : Hid (Below w.heap.size w w1) := Lib.hid (below_new.trans (hb1.mono (by simp)))
  clear hb1
  go_wp2_with fail
  go_ret
  exact ⟨rfl, DStep.same HD.out (by omega) HB1.out⟩
set_option maxHeartbeats 4000000 in
theorem does_k7 {w : World} {base C R b rb n gh gs gc : Nat} {lv rlv : Value} {m : MS} {S : Nat → Prop} (HD : Hid (Duo w base C R b gh gs gc lv m rb rlv S)) (hlen : m.log.length ≤ n) (th xk xi xj ol vl xn : Int) (HCR : Hid (C ≤ 1024 ∧ R ≤ 16)) (hn : n ≤ 2199023255540) (hbase : base ≤ w.heap.size) :
    Calls Try.prog 16 #[.pointer (some ⟨b, 0, none⟩), .pointer (some ⟨rb, 0, none⟩), .agg #[.int .i64 7, .int .i64 th, .int .i64 xk, .int .i64 xi, .int .i64 xj, .int .i64 ol, .int .i64 vl, .int .i64 xn]] w
      fun e w' => e = .returned (.bool true) ∧ DStep w w' base C R b rb (n + 1) S := by
  have HC := Lib.hid fun W (hW : Below w.heap.size w W) => ltouched_any (HD.out.p.below hW) (HD.out.r.below hW) (fun x hx => isW_wf HCR.out.1 HCR.out.2 (HD.out.keys x hx)) (by omega)
  go_enter Try.func16, Try.ntmps16
  go_wp2_with fail
  refine (HC.out _ (by exact below_new)).mono ?_
  rintro e w1 ⟨rfl, hb1⟩
  have HB1 : Hid (Below w.heap.size w w1) := Lib.hid (below_new.trans (hb1.mono (by simp)))
  clear hb1
  go_wp2_with fail
  go_ret
  exact ⟨rfl, DStep.same HD.out (by omega) HB1.out⟩
set_option maxHeartbeats 4000000 in
theorem does_k8 {w : World} {base C R b rb n gh gs gc : Nat} {lv rlv : Value} {m : MS} {S : Nat → Prop} (HD : Hid (Duo w base C R b gh gs gc lv m rb rlv S)) (hlen : m.log.length ≤ n) (kd th xk xi xj ol vl xn : Int) (HCR : Hid (C ≤ 1024 ∧ R ≤ 16)) (hn : n ≤ 2199023255540) (hbase : base ≤ w.heap.size) (k1 : kd ≠ 1) (k2 : kd ≠ 2) (k3 : kd ≠ 3) (k4 : kd ≠ 4) (k5 : kd ≠ 5) (k6 : kd ≠ 6) (k7 : kd ≠ 7) :
    Calls Try.prog 16 #[.pointer (some ⟨b, 0, none⟩), .pointer (some ⟨rb, 0, none⟩), .agg #[.int .i64 kd, .int .i64 th, .int .i64 xk, .int .i64 xi, .int .i64 xj, .int .i64 ol, .int .i64 vl, .int .i64 xn]] w
      fun e w' => e = .returned (.bool true) ∧ DStep w w' base C R b rb (n + 1) S := by
  have e1 : (kd == 1) = false := by simp [k1]
  have e2 : (kd == 2) = false := by simp [k2]
  have e3 : (kd == 3) = false := by simp [k3]
  have e4 : (kd == 4) = false := by simp [k4]
  have e5 : (kd == 5) = false := by simp [k5]
  have e6 : (kd == 6) = false := by simp [k6]
  have e7 : (kd == 7) = false := by simp [k7]
  clear k1 k2 k3 k4 k5 k6 k7
  go_enter Try.func16, Try.ntmps16
  go_wp2_with fail
  go_ret
  exact ⟨rfl, DStep.same HD.out (by omega) below_new⟩
theorem does_any {w : World} {base C R b rb n : Nat} {S : Nat → Prop} (h : DuoIs w base C R b rb n S) (x : Actz) (hC : C ≤ 1024) (hR : R ≤ 16) (hn : n ≤ 2199023255540) (hbase : base ≤ w.heap.size) :
    Calls Try.prog 16 #[.pointer (some ⟨b, 0, none⟩), .pointer (some ⟨rb, 0, none⟩), .agg #[.int .i64 x.kind, .int .i64 x.thread, .int .i64 x.k, .int .i64 x.i, .int .i64 x.j, .int .i64 x.old, .int .i64 x.value, .int .i64 x.n]] w
      fun e w' => e = .returned (.bool true) ∧ DStep w w' base C R b rb (n + 1) S := by
  obtain ⟨gh, gs, gc, lv, m, rlv, hD, hlen⟩ := h
  obtain ⟨kd, th, xk, xi, xj, ol, vl, xn⟩ := x
  have HD := Lib.hid hD
  have HCR : Hid (C ≤ 1024 ∧ R ≤ 16) := Lib.hid ⟨hC, hR⟩
  by_cases k1 : kd = 1
  · subst k1
    exact does_k1 HD hlen th xk xi xj ol vl xn HCR hn hbase
  by_cases k2 : kd = 2
  · subst k2
    exact does_k2 HD hlen th xk xi xj ol vl xn HCR hn hbase
  by_cases k3 : kd = 3
  · subst k3
    exact does_k3 HD hlen th xk xi xj ol vl xn HCR hn hbase
  by_cases k4 : kd = 4
  · subst k4
    exact does_k4 HD hlen th xk xi xj ol vl xn HCR hn hbase
  by_cases k5 : kd = 5
  · subst k5
    exact does_k5 HD hlen th xk xi xj ol vl xn HCR hn hbase
  by_cases k6 : kd = 6
  · subst k6
    exact does_k6 HD hlen th xk xi xj ol vl xn HCR hn hbase
  by_cases k7 : kd = 7
  · subst k7
    exact does_k7 HD hlen th xk xi xj ol vl xn HCR hn hbase
  exact does_k8 HD hlen kd th xk xi xj ol vl xn HCR hn hbase k1 k2 k3 k4 k5 k6 k7
end Go.Proofs.Ytnpeldbnnneijaa
