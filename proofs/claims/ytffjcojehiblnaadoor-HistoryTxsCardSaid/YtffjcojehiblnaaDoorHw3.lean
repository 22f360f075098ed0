/- The walk of (*book).goes: what may come. -/
import Derived.Test.YtffjcojehiblnaaDoorHw2
namespace Go.Proofs.YtffjcojehiblnaaDoor
open Go.RowKit Go.Joins Go.ChangeShapes Go.WideShapes Go.Deep
set_option linter.unusedVariables false
set_option linter.unusedSimpArgs false
set_option maxRecDepth 100000

def GPost (w : World) (base s : Nat) (lv : Value) (at_ : Int) (x : TxM) (t' : TxP) (p' d' : Nat) : Ending → World → Prop := fun r w' =>
  r = .returned (.bool true) ∧ ∃ sv', TxAt w' base ⟨t', x.g, sv'⟩ ∧ Blk w' s 76 #[lv, .int .i64 at_, .int .i64 p', .int .i64 d'] ∧ (sv'.ownBlock = x.sv.ownBlock ∨ ∀ q, sv'.ownBlock = some q → w.heap.size ≤ q) ∧ Frm w w' (fun q => q = s ∨ TxBlk x q)

set_option maxHeartbeats 4000000 in
theorem goes_done (e : Ev) {s base : Nat} {w : World} {lv : Value} {at_ : Int} {pub done : Nat} {x : TxM} (hB : Blk w s 76 #[lv, .int .i64 at_, .int .i64 pub, .int .i64 done]) (hT : TxAt w base x) (hd : done ≤ 4611686018427387904) (hp : pub ≤ 4611686018427387904) (hk : e.kind = 5) (h0 : ¬ x.t.stamp = 0) (h1 : e.stamp = x.t.stamp) (h2 : x.t.stamp = (done : Int) + 1) :
    Calls Tryd.prog 44 #[.pointer (some ⟨s, 0, none⟩), .pointer (some ⟨x.g, 0, none⟩), .agg (evcs e)] w (GPost w base s lv at_ x { x.t with ov := true } pub (done + 1)) := by
  have hsg : s ≠ x.g := hB.ne_ hT.blk (by decide)
  have hgs : x.g ≠ s := Ne.symm hsg
  have hB1 := hB.alloc (.cells (evcs e) 35)
  have hT1 := hT.alloc (.cells (evcs e) 35)
  have hF1 : Frm w (w.alloc (.cells (evcs e) 35)) (fun q => q = s ∨ TxBlk x q) := (Frm.refl w _).alloc _
  have v3 : (w.alloc (.cells (evcs e) 35)).cell? ⟨w.heap.size, 3, none⟩ = some (.int .i64 e.kind) := box_ev e w 3
  have v9 : (w.alloc (.cells (evcs e) 35)).cell? ⟨w.heap.size, 9, none⟩ = some (.int .i64 e.stamp) := box_ev e w 9
  obtain ⟨x0, x1, x2, x3, x4, x5, x6, x7⟩ : (w.alloc (.cells (evcs e) 35)).cell? ⟨x.g, 0, none⟩ = some (.int .i64 x.t.thread) ∧ (w.alloc (.cells (evcs e) 35)).cell? ⟨x.g, 1, none⟩ = some (.int .i64 x.t.begun) ∧ (w.alloc (.cells (evcs e) 35)).cell? ⟨x.g, 2, none⟩ = some (.int .i64 x.t.ended) ∧ (w.alloc (.cells (evcs e) 35)).cell? ⟨x.g, 3, none⟩ = some (.int .i64 x.t.stamp) ∧ (w.alloc (.cells (evcs e) 35)).cell? ⟨x.g, 4, none⟩ = some (.int .i64 x.t.seen) ∧ (w.alloc (.cells (evcs e) 35)).cell? ⟨x.g, 5, none⟩ = some (.int .i64 x.t.err) ∧ (w.alloc (.cells (evcs e) 35)).cell? ⟨x.g, 7, none⟩ = some (.bool x.t.ov) ∧ (w.alloc (.cells (evcs e) 35)).cell? ⟨x.g, 8, none⟩ = some x.sv :=
    ⟨(hT1.blk.cell 0).trans rfl, (hT1.blk.cell 1).trans rfl, (hT1.blk.cell 2).trans rfl, (hT1.blk.cell 3).trans rfl, (hT1.blk.cell 4).trans rfl, (hT1.blk.cell 5).trans rfl, (hT1.blk.cell 7).trans rfl, (hT1.blk.cell 8).trans rfl⟩
  have y2 : (w.alloc (.cells (evcs e) 35)).cell? ⟨s, 2, none⟩ = some (.int .i64 pub) := (hB1.cell 2).trans rfl
  have y3 : (w.alloc (.cells (evcs e) 35)).cell? ⟨s, 3, none⟩ = some (.int .i64 done) := (hB1.cell 3).trans rfl
  have fs : ∀ i, (w.alloc (.cells (evcs e) 35)).frozen? ⟨s, i, none⟩ = false := hB1.frozen
  have fg : ∀ i, (w.alloc (.cells (evcs e) 35)).frozen? ⟨x.g, i, none⟩ = false := hT1.blk.frozen
  have hqs : w.heap.size ≠ s := Ne.symm (Nat.ne_of_lt hB.lt)
  have hqg : w.heap.size ≠ x.g := Ne.symm (Nat.ne_of_lt hT.blk.lt)
  have hsq : s ≠ w.heap.size := Ne.symm hqs
  have hgq : x.g ≠ w.heap.size := Ne.symm hqg
  have hk5 : decide (e.kind = 5) = true := by simp [hk]
  have hs0 : decide (x.t.stamp = 0) = false := by simp [h0]
  rw [h1] at v9
  have hwr : IntKind.i64.wrap ((done : Int) + 1) = (done : Int) + 1 := wrap_small (by omega) (by omega)
  have hb2 : (x.t.stamp != IntKind.i64.wrap ((done : Int) + 1)) = false := by rw [hwr, h2]; simp
  have HB := Lib.hid hB1
  have HT := Lib.hid hT1
  have HF := Lib.hid hF1
  clear hB hT hB1 hT1 hF1
  go_enter Tryd.func44, Tryd.ntmps44
  go_wp2_with fail
  generalize w.alloc (.cells (evcs e) 35) = W1 at *
  go_quiet (fail)
  go_wp2
  all_goals (try (exfalso; rename (¬ (_ = false ∧ _ = false)) => hh; exact hh ⟨by simp [h0], hb2⟩))
  go_ret
  refine ⟨rfl, ?_⟩
  refine ⟨x.sv, ?_, ?_, .inl rfl, ?_⟩
  · exact ((HT.out.drewN _).far (HB.out.drewN _) _).set_ 7 _ _ rfl rfl
  · exact ((HB.out.drewN _).set_ 3 _).far hsg _
  · exact ((HF.out.drewN _).set _ _ _ (.inl (.inl rfl))).set _ _ _ (.inl (.inr (.inl rfl)))


set_option maxHeartbeats 4000000 in
theorem goes_publish (e : Ev) {s base : Nat} {w : World} {lv : Value} {at_ : Int} {pub done : Nat} {x : TxM} (hB : Blk w s 76 #[lv, .int .i64 at_, .int .i64 pub, .int .i64 done]) (hT : TxAt w base x) (hd : done ≤ 4611686018427387904) (hp : pub ≤ 4611686018427387904) (hk : e.kind = 4) (h0 : x.t.stamp = 0) (h2 : e.stamp = (pub : Int) + 1) :
    Calls Tryd.prog 44 #[.pointer (some ⟨s, 0, none⟩), .pointer (some ⟨x.g, 0, none⟩), .agg (evcs e)] w (GPost w base s lv at_ x { x.t with stamp := e.stamp, seen := e.stamp - 1, ended := e.at_ } (pub + 1) done) := by
  have hsg : s ≠ x.g := hB.ne_ hT.blk (by decide)
  have hgs : x.g ≠ s := Ne.symm hsg
  have hB1 := hB.alloc (.cells (evcs e) 35)
  have hT1 := hT.alloc (.cells (evcs e) 35)
  have hF1 : Frm w (w.alloc (.cells (evcs e) 35)) (fun q => q = s ∨ TxBlk x q) := (Frm.refl w _).alloc _
  have v0 : (w.alloc (.cells (evcs e) 35)).cell? ⟨w.heap.size, 0, none⟩ = some (.int .i64 e.at_) := box_ev e w 0
  have v3 : (w.alloc (.cells (evcs e) 35)).cell? ⟨w.heap.size, 3, none⟩ = some (.int .i64 e.kind) := box_ev e w 3
  have v9 : (w.alloc (.cells (evcs e) 35)).cell? ⟨w.heap.size, 9, none⟩ = some (.int .i64 e.stamp) := box_ev e w 9
  obtain ⟨x0, x1, x2, x3, x4, x5, x6, x7⟩ : (w.alloc (.cells (evcs e) 35)).cell? ⟨x.g, 0, none⟩ = some (.int .i64 x.t.thread) ∧ (w.alloc (.cells (evcs e) 35)).cell? ⟨x.g, 1, none⟩ = some (.int .i64 x.t.begun) ∧ (w.alloc (.cells (evcs e) 35)).cell? ⟨x.g, 2, none⟩ = some (.int .i64 x.t.ended) ∧ (w.alloc (.cells (evcs e) 35)).cell? ⟨x.g, 3, none⟩ = some (.int .i64 x.t.stamp) ∧ (w.alloc (.cells (evcs e) 35)).cell? ⟨x.g, 4, none⟩ = some (.int .i64 x.t.seen) ∧ (w.alloc (.cells (evcs e) 35)).cell? ⟨x.g, 5, none⟩ = some (.int .i64 x.t.err) ∧ (w.alloc (.cells (evcs e) 35)).cell? ⟨x.g, 7, none⟩ = some (.bool x.t.ov) ∧ (w.alloc (.cells (evcs e) 35)).cell? ⟨x.g, 8, none⟩ = some x.sv :=
    ⟨(hT1.blk.cell 0).trans rfl, (hT1.blk.cell 1).trans rfl, (hT1.blk.cell 2).trans rfl, (hT1.blk.cell 3).trans rfl, (hT1.blk.cell 4).trans rfl, (hT1.blk.cell 5).trans rfl, (hT1.blk.cell 7).trans rfl, (hT1.blk.cell 8).trans rfl⟩
  have y2 : (w.alloc (.cells (evcs e) 35)).cell? ⟨s, 2, none⟩ = some (.int .i64 pub) := (hB1.cell 2).trans rfl
  have y3 : (w.alloc (.cells (evcs e) 35)).cell? ⟨s, 3, none⟩ = some (.int .i64 done) := (hB1.cell 3).trans rfl
  have fs : ∀ i, (w.alloc (.cells (evcs e) 35)).frozen? ⟨s, i, none⟩ = false := hB1.frozen
  have fg : ∀ i, (w.alloc (.cells (evcs e) 35)).frozen? ⟨x.g, i, none⟩ = false := hT1.blk.frozen
  have hqs : w.heap.size ≠ s := Ne.symm (Nat.ne_of_lt hB.lt)
  have hqg : w.heap.size ≠ x.g := Ne.symm (Nat.ne_of_lt hT.blk.lt)
  have hsq : s ≠ w.heap.size := Ne.symm hqs
  have hgq : x.g ≠ w.heap.size := Ne.symm hqg
  rw [hk] at v3
  rw [h0] at x3
  rw [h2] at v9
  have hwr : IntKind.i64.wrap ((pub : Int) + 1) = (pub : Int) + 1 := wrap_small (by omega) (by omega)
  have hb2 : decide ((pub : Int) + 1 = IntKind.i64.wrap ((pub : Int) + 1)) = true := by rw [hwr]; simp
  have hsub : (pub : Int) + 1 - 1 = (pub : Int) := by omega
  have HB := Lib.hid hB1
  have HT := Lib.hid hT1
  have HF := Lib.hid hF1
  clear hB hT hB1 hT1 hF1
  go_enter Tryd.func44, Tryd.ntmps44
  go_wp2_with fail
  generalize w.alloc (.cells (evcs e) 35) = W1 at *
  go_wp2
  go_quiet (fail)
  go_wp2
  go_region
  go_wp2
  go_ret
  refine ⟨rfl, ?_⟩
  refine ⟨x.sv, ?_, ?_, .inl rfl, ?_⟩
  · refine TxAt.drew ?_; rw [h2, hsub]; exact ((((HT.out.drewN _).far (HB.out.drewN _) _).set_ 3 _ { x.t with stamp := (pub : Int) + 1 } rfl rfl).set_ 4 _ { x.t with stamp := (pub : Int) + 1, seen := pub } rfl rfl).set_ 2 _ _ rfl rfl
  · exact Blk.drew (((((HB.out.drewN _).set_ 2 _).far hsg _).far hsg _).far hsg _)
  · exact Frm.drew (((((HF.out.drewN _).set _ _ _ (.inl (.inl rfl))).set _ _ _ (.inl (.inr (.inl rfl)))).set _ _ _ (.inl (.inr (.inl rfl)))).set _ _ _ (.inl (.inr (.inl rfl))))


set_option maxHeartbeats 4000000 in
theorem goes_end (e : Ev) {s base : Nat} {w : World} {lv : Value} {at_ : Int} {pub done : Nat} {x : TxM} (hB : Blk w s 76 #[lv, .int .i64 at_, .int .i64 pub, .int .i64 done]) (hT : TxAt w base x) (hd : done ≤ 4611686018427387904) (hp : pub ≤ 4611686018427387904) (hk : e.kind = 6) (h0 : x.t.stamp = 0) :
    Calls Tryd.prog 44 #[.pointer (some ⟨s, 0, none⟩), .pointer (some ⟨x.g, 0, none⟩), .agg (evcs e)] w (GPost w base s lv at_ x { x.t with ov := true, ended := e.at_, err := e.err } pub done) := by
  have hsg : s ≠ x.g := hB.ne_ hT.blk (by decide)
  have hgs : x.g ≠ s := Ne.symm hsg
  have hB1 := hB.alloc (.cells (evcs e) 35)
  have hT1 := hT.alloc (.cells (evcs e) 35)
  have hF1 : Frm w (w.alloc (.cells (evcs e) 35)) (fun q => q = s ∨ TxBlk x q) := (Frm.refl w _).alloc _
  have v0 : (w.alloc (.cells (evcs e) 35)).cell? ⟨w.heap.size, 0, none⟩ = some (.int .i64 e.at_) := box_ev e w 0
  have v3 : (w.alloc (.cells (evcs e) 35)).cell? ⟨w.heap.size, 3, none⟩ = some (.int .i64 e.kind) := box_ev e w 3
  have v18 : (w.alloc (.cells (evcs e) 35)).cell? ⟨w.heap.size, 18, none⟩ = some (.int .i64 e.err) := box_ev e w 18
  obtain ⟨x0, x1, x2, x3, x4, x5, x6, x7⟩ : (w.alloc (.cells (evcs e) 35)).cell? ⟨x.g, 0, none⟩ = some (.int .i64 x.t.thread) ∧ (w.alloc (.cells (evcs e) 35)).cell? ⟨x.g, 1, none⟩ = some (.int .i64 x.t.begun) ∧ (w.alloc (.cells (evcs e) 35)).cell? ⟨x.g, 2, none⟩ = some (.int .i64 x.t.ended) ∧ (w.alloc (.cells (evcs e) 35)).cell? ⟨x.g, 3, none⟩ = some (.int .i64 x.t.stamp) ∧ (w.alloc (.cells (evcs e) 35)).cell? ⟨x.g, 4, none⟩ = some (.int .i64 x.t.seen) ∧ (w.alloc (.cells (evcs e) 35)).cell? ⟨x.g, 5, none⟩ = some (.int .i64 x.t.err) ∧ (w.alloc (.cells (evcs e) 35)).cell? ⟨x.g, 7, none⟩ = some (.bool x.t.ov) ∧ (w.alloc (.cells (evcs e) 35)).cell? ⟨x.g, 8, none⟩ = some x.sv :=
    ⟨(hT1.blk.cell 0).trans rfl, (hT1.blk.cell 1).trans rfl, (hT1.blk.cell 2).trans rfl, (hT1.blk.cell 3).trans rfl, (hT1.blk.cell 4).trans rfl, (hT1.blk.cell 5).trans rfl, (hT1.blk.cell 7).trans rfl, (hT1.blk.cell 8).trans rfl⟩
  have y2 : (w.alloc (.cells (evcs e) 35)).cell? ⟨s, 2, none⟩ = some (.int .i64 pub) := (hB1.cell 2).trans rfl
  have y3 : (w.alloc (.cells (evcs e) 35)).cell? ⟨s, 3, none⟩ = some (.int .i64 done) := (hB1.cell 3).trans rfl
  have fs : ∀ i, (w.alloc (.cells (evcs e) 35)).frozen? ⟨s, i, none⟩ = false := hB1.frozen
  have fg : ∀ i, (w.alloc (.cells (evcs e) 35)).frozen? ⟨x.g, i, none⟩ = false := hT1.blk.frozen
  have hqs : w.heap.size ≠ s := Ne.symm (Nat.ne_of_lt hB.lt)
  have hqg : w.heap.size ≠ x.g := Ne.symm (Nat.ne_of_lt hT.blk.lt)
  have hsq : s ≠ w.heap.size := Ne.symm hqs
  have hgq : x.g ≠ w.heap.size := Ne.symm hqg
  rw [hk] at v3
  rw [h0] at x3
  have HB := Lib.hid hB1
  have HT := Lib.hid hT1
  have HF := Lib.hid hF1
  clear hB hT hB1 hT1 hF1
  go_enter Tryd.func44, Tryd.ntmps44
  go_wp2_with fail
  generalize w.alloc (.cells (evcs e) 35) = W1 at *
  go_wp2
  go_region
  go_wp2
  go_ret
  refine ⟨rfl, ?_⟩
  refine ⟨x.sv, ?_, ?_, .inl rfl, ?_⟩
  · refine TxAt.drew ?_; exact ((HT.out.set_ 7 _ { x.t with ov := true } rfl rfl).set_ 2 _ { x.t with ov := true, ended := e.at_ } rfl rfl).set_ 5 _ _ rfl rfl
  · exact Blk.drew (((HB.out.far hsg _).far hsg _).far hsg _)
  · exact Frm.drew (((HF.out.set _ _ _ (.inl (.inr (.inl rfl)))).set _ _ _ (.inl (.inr (.inl rfl)))).set _ _ _ (.inl (.inr (.inl rfl))))

end Go.Proofs.YtffjcojehiblnaaDoor
