/- What the law's one and plays do. -/
import Derived.Test.YtpmpgnhbpneloaaRc
namespace Go.Proofs.Ytpmpgnhbpneloaa
open Go.RowKit Go.Joins Go.ChangeShapes Go.WideShapes Go.Deep
set_option linter.unusedVariables false
set_option maxRecDepth 100000

def OnePost (base s s' : Nat) (S K : Nat → Prop) (w : World) : Ending → World → Prop := fun e w' => e = .returned (.bool true) ∧ ∃ raw' ts', BStep w w' base s s' raw' ts' S K
def RawPost (W : World) (n : Nat) (raw : List Int) : Ending → World → Prop := fun e w' => ∃ b, e = .returned (.slice (some ⟨b, 0, none⟩) n n) ∧ Reads w' w'.heap.size 1 (some ⟨b, 0, none⟩) n (ints raw) ∧ Below W.heap.size W w'
def ShapesPost (W : World) (ts : List TS) : Ending → World → Prop := fun e w' => ∃ v l2, e = .returned v ∧ ShR w' w'.heap.size v l2 ∧ l2.map TM.t = ts ∧ Below W.heap.size W w'
set_option maxHeartbeats 4000000 in
theorem one_any (z : StepZ) (s s' base : Nat) (raw : List Int) (ts : List TS) (S K : Nat → Prop) (w : World) (h : BothIs w base s s' raw ts S K) (hbase : base ≤ w.heap.size) (hal : z.args.length = z.na) (hna : z.na ≤ 9223372036854775807) (hA : Reads w base 1 z.A z.na (ints z.args)) :
    Calls Try.prog 33 #[.pointer (some ⟨s, 0, none⟩), .pointer (some ⟨s', 0, none⟩), .agg #[.int .i64 z.kind, .int .i64 z.place, .int .i64 z.v, .int .i64 z.region, .int .i64 z.call, .slice z.A z.na z.ca]] w (OnePost base s s' S K w) := by
  obtain ⟨kind, p, v, region, what, A, na, ca, args⟩ := z
  simp only at hal hna hA ⊢
  obtain ⟨W1, hW1⟩ : ∃ W1, W1 = w.alloc (.cells #[.int .i64 kind, .int .i64 p, .int .i64 v, .int .i64 region, .int .i64 what, .slice A na ca] 47) := ⟨_, rfl⟩
  have hb1 : Below w.heap.size w W1 := by rw [hW1]; exact below_new
  have h1 := h.below hb1
  have hA1 := hA.below (hb1.mono hbase)
  have HW := Lib.hid hW1
  have HPOST : Hid (∀ w' raw' ts', BStep W1 w' base s s' raw' ts' S K → OnePost base s s' S K w (.returned (.bool true)) w') := Lib.hid fun w' raw' ts' hs => ⟨rfl, raw', ts', BStep.after hb1 hs⟩
  obtain ⟨hS, hK, g, g', rv, rc, tv, tv', c, regs, l, l', hB⟩ := id h1
  have HB := Lib.hid hB
  have HS := Lib.hid hS
  have HK := Lib.hid hK
  have HI := Lib.hid h1
  have c0 : W1.cell? ⟨s, 0, none⟩ = some (.slice (some ⟨g, 0, none⟩) raw.length raw.length) := (hB.p.blk.cell 0).trans rfl
  have c7 : W1.cell? ⟨s', 7, none⟩ = some (.slice (some ⟨g', 0, none⟩) raw.length rc.2) := (hB.r.blk.cell 7).trans rfl
  have c8 : W1.cell? ⟨s', 8, none⟩ = some tv' := (hB.r.blk.cell 8).trans rfl
  have HL : Hid (l.length ≤ 8 ∧ l'.length ≤ 8 ∧ AllOk (l.map TM.t) ∧ AllOk (l'.map TM.t) ∧ l.map TM.t = l'.map TM.t) := Lib.hid ⟨by have := hB.n8; rw [← hB.pt] at this; simpa using this, by have := hB.n8; rw [← hB.rt] at this; simpa using this, by rw [hB.pt]; exact hB.ok, by rw [hB.rt]; exact hB.ok, hB.pt.trans hB.rt.symm⟩
  have hbw1 : base ≤ W1.heap.size := Nat.le_trans hbase hb1.size
  have HA := Lib.hid hA1
  have h5 : Blk W1 w.heap.size 47 #[.int .i64 kind, .int .i64 p, .int .i64 v, .int .i64 region, .int .i64 what, .slice A na ca] := by rw [hW1]; exact Blk.new _ _ _
  have q0 : W1.cell? ⟨w.heap.size, 0, none⟩ = some (.int .i64 kind) := (h5.cell 0).trans rfl
  have q1 : W1.cell? ⟨w.heap.size, 1, none⟩ = some (.int .i64 p) := (h5.cell 1).trans rfl
  have q2 : W1.cell? ⟨w.heap.size, 2, none⟩ = some (.int .i64 v) := (h5.cell 2).trans rfl
  have q3 : W1.cell? ⟨w.heap.size, 3, none⟩ = some (.int .i64 region) := (h5.cell 3).trans rfl
  have q4 : W1.cell? ⟨w.heap.size, 4, none⟩ = some (.int .i64 what) := (h5.cell 4).trans rfl
  have q5 : W1.cell? ⟨w.heap.size, 5, none⟩ = some (.slice A na ca) := (h5.cell 5).trans rfl
  have hlt5 := h5.lt
  have H5 := Lib.hid h5
  have hr1 := hB.r1
  have hr64 := hB.r64
  have hrun : ∀ q : World, q = w → q.alloc (.cells #[.int .i64 kind, .int .i64 p, .int .i64 v, .int .i64 region, .int .i64 what, .slice A na ca] 47) = W1 := fun q e => by rw [e, hW1]
  clear h h1 hA hA1 hB hS hK h5 hb1
  by_cases k0 : kind = 0
  · subst k0
    subst hW1
    go_enter Try.func33, Try.ntmps33
    go_wp2_with fail
    refine (load_any p s g raw.length raw _ hr1 hr64 rfl (by exact c0) (by exact HB.out.p.rawb)).mono ?_
    rintro e w2 ⟨rfl, m, rfl⟩
    go_wp2_with fail
    refine (rload_any p s' g' raw.length rc.2 base raw _ hr1 hr64 rfl (by exact c7) (by exact own_drewN HB.out.r.rawb)).mono ?_
    rintro e w3 ⟨rfl, m', rfl⟩
    go_wp2_with fail
    go_ret
    exact HPOST.out _ _ _ (BStep.same HI.out (below_drewN (Below.refl _ _) _))
  have e0 : (kind == 0) = false := by simp [k0]
  by_cases k1 : kind = 1
  · subst k1
    subst hW1
    go_enter Try.func33, Try.ntmps33
    go_wp2_with fail
    refine (store_any p v s g raw.length raw _ hr1 hr64 rfl (by exact c0) (by exact HB.out.p.rawb)).mono ?_
    rintro e w2 ⟨rfl, m, rfl⟩
    have hgr : ¬ RBlk s' g' rv regs.length rc tv' l' g := HB.out.sep g (.inr (.inl rfl))
    have hs7 : s' ≠ g := fun e => hgr (.inl e.symm)
    have hgg : g' ≠ g := fun e => hgr (.inr (.inl e.symm))
    have hw5 : w.heap.size ≠ g := fun e => by have := (HS.out g (HB.out.inp g (.inr (.inl rfl)))); have h2 := H5.out.ne_ HB.out.p.rawb (by decide); exact h2 e
    have c7b := ((HB.out.r.blk.drewN m).far (p := ⟨g, uidx p raw.length, none⟩) hs7 (.int .i64 v))
    have gb := ownsRow_setCell_other (a := ⟨g, uidx p raw.length, none⟩) (own_drewN (k := m) HB.out.r.rawb) (by intro e; injection e with e; exact hgg e) (.int .i64 v)
    have hb5 := ((H5.out.drewN m).far (p := ⟨g, uidx p raw.length, none⟩) hw5 (.int .i64 v))
    have HST : Hid (∀ m', BStep _ _ base s s' (raw.set (uidx p raw.length) v) ts S K) := Lib.hid fun m' => Both.stored HB.out HS.out HK.out (uidx p raw.length) v m m' rfl
    clear q0 q1 q2 q3 q4 q5 hlt5
    generalize (((w.alloc (.cells #[.int .i64 1, .int .i64 p, .int .i64 v, .int .i64 region, .int .i64 what, .slice A na ca] 47)).drewN m).setCell ⟨g, uidx p raw.length, none⟩ (.int .i64 v)) = W2 at *
    have q0 : W2.cell? ⟨w.heap.size, 1, none⟩ = some (.int .i64 p) := (hb5.cell 1).trans rfl
    have q1 : W2.cell? ⟨w.heap.size, 2, none⟩ = some (.int .i64 v) := (hb5.cell 2).trans rfl
    have hlt5 := hb5.lt
    have c7c : W2.cell? ⟨s', 7, none⟩ = some (.slice (some ⟨g', 0, none⟩) raw.length rc.2) := (c7b.cell 7).trans rfl
    have GB := Lib.hid gb
    clear c7b gb hb5 c0 c7 c8
    go_wp2_with fail
    refine (rstore_any p v s' g' raw.length rc.2 base raw _ hr1 hr64 rfl (by exact c7c) (by exact GB.out)).mono ?_
    rintro e w3 ⟨rfl, m', rfl⟩
    go_wp2_with fail
    go_ret
    exact HPOST.out _ _ _ (HST.out m')
  have e1 : (kind == 1) = false := by simp [k1]
  by_cases k2 : kind = 2
  · subst k2
    subst hW1
    go_enter Try.func33, Try.ntmps33
    go_wp2_with fail
    generalize (w.alloc (.cells #[.int .i64 2, .int .i64 p, .int .i64 v, .int .i64 region, .int .i64 what, .slice A na ca] 47)) = W1 at *
    obtain ⟨n, hn⟩ : ∃ n, n = raw.length := ⟨_, rfl⟩
    have HRAW : Hid (∀ W, Below W1.heap.size W1 W → Calls Try.prog 11 #[.pointer (some ⟨s, 0, none⟩)] W (RawPost W n raw)) := Lib.hid fun W hW => (raw_any s g raw.length raw W hr64 rfl (((HB.out.p.below hW).blk.cell 0).trans rfl) (HB.out.p.below hW).rawb).mono fun e w' h => ⟨_, by rw [hn]; exact h.1, by rw [hn]; exact ints_reads h.2.1 rfl, h.2.2⟩
    have HG : Hid (∀ W, Below W1.heap.size W1 W → Reads W W.heap.size 1 (some ⟨g', 0, none⟩) n (ints raw)) := Lib.hid fun W hW => by rw [hn]; exact Reads.of_own (HB.out.r.below hW).rawb
    have hsl := HB.out.r.blk.lt
    rw [← hn] at c0 c7 hr1 hr64
    have hbx := Below.refl W1.heap.size W1
    clear hn q0 q1 q2 q3 q4 q5 hlt5 c0
    go_region_law (first
      | (go_simp; go_at_call 11; refine (HRAW.out _ (by first | exact hbx | exact hbx.drew | exact below_drewN hbx _)).mono ?_; rintro e w2 ⟨b, rfl, hR, hb2⟩; have hbx2 : Below W1.heap.size W1 w2 := (by first | exact hbx.trans (hb2.mono hbx.size) | exact hbx.drew.trans (hb2.mono hbx.size) | exact (below_drewN hbx _).trans (hb2.mono hbx.size)); have c7 : w2.cell? ⟨s', 7, none⟩ = some (.slice (some ⟨g', 0, none⟩) n rc.2) := (hbx2.cell (p := ⟨s', 7, none⟩) hsl).trans c7)
      | (go_simp; go_at_call 17; refine (same_yes _ _ n n rc.2 raw _ _ _ (by omega) (by exact hR) (by exact HG.out _ hbx2)).mono ?_; rintro e w3 ⟨rfl, j, rfl⟩))
    all_goals
      go_wp2_with fail
      go_ret
      exact HPOST.out _ _ _ (BStep.same HI.out (below_drewN hbx2 _))
  have e2 : (kind == 2) = false := by simp [k2]
  by_cases k3 : kind = 3
  · subst k3
    subst hW1
    go_enter Try.func33, Try.ntmps33
    go_wp2_with fail
    generalize (w.alloc (.cells #[.int .i64 3, .int .i64 p, .int .i64 v, .int .i64 region, .int .i64 what, .slice A na ca] 47)) = W1 at *
    obtain ⟨TA, Tc, htv, -, -⟩ := own_shapes HB.out.r.ls.row
    have HSH : Hid (∀ W, Below W1.heap.size W1 W → Calls Try.prog 13 #[.pointer (some ⟨s, 0, none⟩)] W (ShapesPost W (l'.map TM.t))) := Lib.hid fun W hW => (pshapes_any s g base tv raw l W (HB.out.p.below hW) HL.out.1 HL.out.2.2.1).mono fun e w' h => by
      obtain ⟨v, l2, h1, h2, h3, h4⟩ := h
      exact ⟨v, l2, h1, h2.shr, h3.trans HL.out.2.2.2.2, h4⟩
    have HSS : Hid (∀ W u l2, ShR W W.heap.size u l2 → Below W1.heap.size W1 W → l2.map TM.t = l'.map TM.t → Calls Try.prog 58 #[u, .slice TA l'.length Tc] W (AlikePost W)) := Lib.hid fun W u l2 h1 hW h2 => by
      rw [← htv]
      have hlen : l2.length = l'.length := by simpa using congrArg List.length h2
      exact sameshapes_yes u tv' l2 l' W h2 (by rw [hlen]; exact HL.out.2.1) (by rw [h2]; exact HL.out.2.2.2.1) h1 ((HB.out.r.ls.shr.below hW).more hW.size)
    have hsl := HB.out.r.blk.lt
    rw [htv] at c8
    have hbx := Below.refl W1.heap.size W1
    have HTV := Lib.hid htv
    clear q0 q1 q2 q3 q4 q5 hlt5 c0 c7 htv
    go_region_law (first
      | (go_simp; go_at_call 13; refine (HSH.out _ (by first | exact hbx | exact hbx.drew | exact below_drewN hbx _)).mono ?_; rintro e w2 ⟨u, l2, rfl, hR, hl2, hb2⟩; have hbx2 : Below W1.heap.size W1 w2 := (by first | exact hbx.trans (hb2.mono hbx.size) | exact hbx.drew.trans (hb2.mono hbx.size) | exact (below_drewN hbx _).trans (hb2.mono hbx.size)); have c8 : w2.cell? ⟨s', 8, none⟩ = some (.slice TA l'.length Tc) := (hbx2.cell (p := ⟨s', 8, none⟩) hsl).trans c8)
      | (go_simp; go_at_call 58; refine (HSS.out _ u l2 (by exact hR) (by exact hbx2) hl2).mono ?_; rintro e w3 ⟨rfl, hb3⟩))
    all_goals
      go_wp2_with fail
      go_ret
      exact HPOST.out _ _ _ (BStep.same HI.out (hbx2.trans (hb3.mono hbx2.size)))
  have e3 : (kind == 3) = false := by simp [k3]
  have hsep : 0 < na → ∀ ad, A = some ad → ¬ PBlk s g tv l ad.block ∧ ¬ RBlk s' g' rv regs.length rc tv' l' ad.block := fun h0 ad ha => by
    obtain ⟨ad', h1, h2, _⟩ := HA.out.2 h0
    rw [ha] at h1
    injection h1 with h1
    subst h1
    exact ⟨fun hb => by have := (HS.out _ (HB.out.inp _ hb)).1; omega, fun hb => (HB.out.rblk hb).elim (fun h => by have := (HS.out _ h).1; omega) fun h => by have := (HK.out.1 _ h).1; omega⟩
  have HP1 : Hid (Calls Try.prog 12 #[.pointer (some ⟨s, 0, none⟩), .int .i64 region, .int .i64 what, .slice A na ca] W1 (PCallPost (pcallF ts region what args) base s g tv raw l W1)) := Lib.hid (by
    have := pcall_any region what A na ca args W1 HB.out.p HL.out.2.2.1 hal hna (HA.out.more hbw1) hbw1 HL.out.1 fun h0 ad ha => (hsep h0 ad ha).1
    rwa [HB.out.pt] at this)
  have HR1 : Hid (∀ W, Frm W1 W (LBlocks tv l) → Calls Try.prog 16 #[.pointer (some ⟨s', 0, none⟩), .int .i64 region, .int .i64 what, .slice A na ca] W (RCallPost (pcallF ts region what args) base s' g' rv rc tv' c regs raw l' W)) := Lib.hid fun W hF => (by
    have hs := hF.size
    have hbw : Below base W1 W := hF.below hbw1 fun q hq => (HS.out q (HB.out.inp q (.inr (.inr hq)))).1
    have := rcall_any region what A na ca args W (HB.out.called (l1 := l) hF) HL.out.2.2.2.1 (by rw [HB.out.rt]; exact HB.out.rg) hal hna ((HA.out.below hbw).more (by omega)) (by omega) HL.out.2.1 fun h0 ad ha => (hsep h0 ad ha).2
    rwa [HB.out.rt] at this)
  obtain ⟨q, hq⟩ : ∃ q, q = pcallF ts region what args := ⟨_, rfl⟩
  have HQ : Hid (AllOk q.1 ∧ q.1.map regOf = ts.map regOf ∧ q.1.length = ts.length) := Lib.hid (by rw [hq]; exact ⟨pcallF_ok HB.out.ok _ _ _, (pcallF_reg _ _ _).1, (pcallF_reg _ _ _).2⟩)
  rw [← hq] at HP1 HR1
  obtain ⟨r1, r2, r3, r4⟩ := q
  have HTB : Hid (∀ b, LBlocks tv l b → base ≤ b) := Lib.hid fun b hb => (HS.out b (HB.out.inp b (.inr (.inr hb)))).1
  have HB5 : Hid (¬ LBlocks tv l w.heap.size) := Lib.hid fun hb => HB.out.p.ls.ne hb H5.out (by decide) (by decide) (by decide) rfl
  clear hq hsep hal c0 c7 c8 k0 k1 k2 k3
  subst hW1
  go_enter Try.func33, Try.ntmps33
  go_wp2_with fail
  generalize (w.alloc (.cells #[.int .i64 kind, .int .i64 p, .int .i64 v, .int .i64 region, .int .i64 what, .slice A na ca] 47)) = W1 at *
  refine HP1.out.mono ?_
  rintro e w2 ⟨l1, rfl, hp1, ht1, hF1, hn1⟩
  have h5 : Blk w2 w.heap.size 47 _ := (hF1.block _ hlt5 HB5.out).trans H5.out
  clear q0 q1 q2 q3 q4 q5 hlt5
  have q3 : w2.cell? ⟨w.heap.size, 3, none⟩ = some (.int .i64 region) := (h5.cell 3).trans rfl
  have q4 : w2.cell? ⟨w.heap.size, 4, none⟩ = some (.int .i64 what) := (h5.cell 4).trans rfl
  have q5 : w2.cell? ⟨w.heap.size, 5, none⟩ = some (.slice A na ca) := (h5.cell 5).trans rfl
  have hlt5 := h5.lt
  have HP := Lib.hid hp1
  have HF1 := Lib.hid hF1
  have HN1 := Lib.hid hn1
  have HT1 := Lib.hid ht1
  clear hp1 hF1 hn1 ht1 h5
  go_wp2_with fail
  refine (HR1.out _ HF1.out).mono ?_
  rintro e w3 ⟨l2, rfl, hp2, ht2, hF2, hn2⟩
  have HFIN : Hid (BStep W1 w3 base s s' raw r1 S K) := Lib.hid (HB.out.called2 HS.out HK.out hbw1 HP.out HT1.out HF1.out HN1.out hp2 ht2 hF2 hn2 HQ.out.1 HQ.out.2.1 HQ.out.2.2)
  clear hp2 ht2 hF2 hn2 q3 q4 q5 hlt5
  go_wp2_with fail
  go_ret
  exact HPOST.out _ _ _ HFIN.out

def PlaysPost (base s s' : Nat) (S K : Nat → Prop) (w : World) : Ending → World → Prop := fun e w' => e = .returned (.bool true) ∧ ∃ raw' ts', BStep w w' base s s' raw' ts' S K
set_option maxHeartbeats 4000000 in
theorem plays_any (l : List StepZ) (A : Option Addr) (n c : Nat) (s s' base : Nat) (raw : List Int) (ts : List TS) (S K : Nat → Prop) (w : World) (h : BothIs w base s s' raw ts S K) (hbase : base ≤ w.heap.size) (hn : n ≤ 9223372036854775807) (hl : l.length = n) (hA : Reads w base 6 A n (rows StepZ.cells l))
    (hz : ∀ z ∈ l, z.args.length = z.na ∧ z.na ≤ 9223372036854775807 ∧ Reads w base 1 z.A z.na (ints z.args)) :
    Calls Try.prog 19 #[.pointer (some ⟨s, 0, none⟩), .pointer (some ⟨s', 0, none⟩), .slice A n c] w (PlaysPost base s s' S K w) := by
  have HH := Lib.hid h
  have HZ := Lib.hid hz
  have HA := Lib.hid hA
  have HL := Lib.hid hl
  have HS := Lib.hid h.1
  clear h hz hA hl
  go_enter Try.func19, Try.ntmps19
  go_wp2_with fail
  go_loopg [7] n (fun gk i wr => ∃ k : Nat, i = .int .i64 k ∧ k ≤ n ∧ gk = n - k ∧ ∃ raw' ts', BStep w wr base s s' raw' ts' S K)
  case atStart => exact ⟨0, rfl, Nat.zero_le _, rfl, raw, ts, BStep.same HH.out (Below.refl _ _)⟩
  case round =>
    obtain ⟨k, rfl, hk, hgk, raw1, ts1, hst⟩ := hrel
    have HG := Lib.hid hgk
    have HST := Lib.hid hst
    obtain ⟨S1, hb1, hF1, hN1⟩ := hst
    have hwr := hF1.size
    have HB1 := Lib.hid hb1
    have HT : Hid (∀ w2 raw2 ts2, BStep wr w2 base s s' raw2 ts2 S1 K → BStep w w2 base s s' raw2 ts2 S K) := Lib.hid fun w2 raw2 ts2 h2 => by
      obtain ⟨S2, hB2, hF2, hS2⟩ := h2
      refine ⟨S2, hB2, hF1.trans hF2 hN1, fun b hb => ?_⟩
      rcases hS2 b hb with h | h
      · exact hN1 b h
      · exact .inr (by omega)
    have hbw : Below base w wr := HST.out.belowb (fun b hb => (HS.out b hb).1) hbase
    clear hgk hb1 hF1 hN1
    by_cases hkn : k < n
    · have hkl : k < l.length := by rw [HL.out]; exact hkn
      obtain ⟨b, off, rfl, hb, hc⟩ := (HA.out.below hbw).flatN (by omega) (by omega)
      have hz := HZ.out _ (List.getElem_mem hkl)
      have hq := fun t u (ht : t < 6) (hu : (StepZ.cells l[k])[t]? = some u) => hc (k * 6 + t) u (by rw [rows_at StepZ.cells 6 (fun _ => rfl) l k t hkl ht]; exact hu)
      generalize l[k] = z at *
      have q0 : wr.cell? ⟨b, off + k * 6, none⟩ = some (.int .i64 z.kind) := by simpa using hq 0 _ (by omega) rfl
      have q1 : wr.cell? ⟨b, off + k * 6 + 1, none⟩ = some (.int .i64 z.place) := hq 1 _ (by omega) rfl
      have q2 : wr.cell? ⟨b, off + k * 6 + 2, none⟩ = some (.int .i64 z.v) := hq 2 _ (by omega) rfl
      have q3 : wr.cell? ⟨b, off + k * 6 + 3, none⟩ = some (.int .i64 z.region) := hq 3 _ (by omega) rfl
      have q4 : wr.cell? ⟨b, off + k * 6 + 4, none⟩ = some (.int .i64 z.call) := hq 4 _ (by omega) rfl
      have q5 : wr.cell? ⟨b, off + k * 6 + 5, none⟩ = some (.slice z.A z.na z.ca) := hq 5 _ (by omega) rfl
      have hki : (k : Int) < (n : Int) := by omega
      have HO := Lib.hid (one_any z s s' base raw1 ts1 S1 K wr HB1.out (by omega) hz.1 hz.2.1 (hz.2.2.below hbw))
      clear hc hq hz hbw
      go_wp2_with fail
      refine HO.out.mono ?_
      rintro e w2 ⟨rfl, raw2, ts2, h2⟩
      have HF := Lib.hid (HT.out _ _ _ h2)
      clear h2 q0 q1 q2 q3 q4 q5
      go_wp2_with fail
      go_roundg (n - (k + 1))
      case measure => have := HG.out; omega
      case rel => exact ⟨k + 1, by go_num, by omega, rfl, raw2, ts2, HF.out⟩
    · have hki : decide ((k : Int) < (n : Int)) = false := by simp; omega
      clear hbw
      go_wp2_with fail
      refine (alike_any s s' base raw1 ts1 S1 K wr HB1.out).mono ?_
      rintro e w2 ⟨rfl, hb2⟩
      have HF := Lib.hid (HT.out _ _ _ (BStep.same HB1.out hb2))
      clear hb2
      go_wp2_with fail
      go_ret
      exact ⟨rfl, raw1, ts1, HF.out⟩
end Go.Proofs.Ytpmpgnhbpneloaa
