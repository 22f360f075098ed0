/- The document's Copy; two pairs of states over one memory. -/
import Derived.Test.YtpmpgnhbpneloaaRg
namespace Go.Proofs.Ytpmpgnhbpneloaa
open Go.RowKit Go.Joins Go.ChangeShapes Go.WideShapes Go.Deep
set_option linter.unusedVariables false
set_option maxRecDepth 100000

def RRawPost (W : World) (n : Nat) (raw : List Int) : Ending → World → Prop := fun e w' => ∃ b cap, e = .returned (.slice (some ⟨b, 0, none⟩) n cap) ∧ w'.ownsRow W.heap.size 2 1 (.slice (some ⟨b, 0, none⟩) n cap) n (ints raw) ∧ Below W.heap.size W w'
def RShPost (W : World) (n : Nat) (ts : List TS) : Ending → World → Prop := fun e w' => ∃ TA Tc l', e = .returned (.slice TA n Tc) ∧ LIs w' W.heap.size 52 3 TM.cells3 (.slice TA n Tc) l' ∧ l'.map TM.t = ts ∧ Below W.heap.size W w'
def RCopyPost (w : World) (base : Nat) (rv : Option Addr) (r1 : Nat) (c : Cfg) (regs : List Reg) (raw : List Int) (ts : List TS) : Ending → World → Prop := fun e w' =>
  ∃ s2 g2 cap tv2 l2, e = .returned (.pointer (some ⟨s2, 0, none⟩)) ∧ RIs w' base s2 g2 rv (r1, cap) tv2 c regs raw l2 ∧ l2.map TM.t = ts ∧ (∀ b, PBlk s2 g2 tv2 l2 b → w.heap.size ≤ b) ∧ Below w.heap.size w w'

theorem rcopy_end {w W : World} {base b cap n r1 : Nat} {rv TA : Option Addr} {Tc : Nat} {c : Cfg} {regs : List Reg} {raw : List Int} {l2 : List TM} {ts : List TS} (hr : W.ownsRow w.heap.size 2 1 (.slice (some ⟨b, 0, none⟩) n cap) n (ints raw)) (hL : LIs W w.heap.size 52 3 TM.cells3 (.slice TA l2.length Tc) l2) (hn : n = raw.length) (hsep : ∀ x ∈ l2, x.vv.ownBlock ≠ some b) (ht : l2.map TM.t = ts)
    (hbase : base ≤ w.heap.size) (hregs : w.ownsRow base 82 2 (.slice rv regs.length r1) regs.length (rows Reg.cells regs)) (hb : Below w.heap.size w W) :
    RCopyPost w base rv r1 c regs raw ts (.returned (.pointer (some ⟨W.heap.size, 0, none⟩))) (W.alloc (.cells #[.int .i64 c.raw, .int .i64 c.ring, .int .i64 c.writes, .int .i64 c.stamps, .bool c.multi, .int .i64 c.tries, .slice rv regs.length r1, .slice (some ⟨b, 0, none⟩) n cap, .slice TA l2.length Tc] 80)) := by
  subst hn
  have hsz := hb.size
  refine ⟨W.heap.size, b, cap, _, l2, rfl, ⟨Blk.new _ _ _, (own_kept hregs hb).alloc _, (own_base hr hbase).alloc _, (hL.base_ hbase).alloc _, hsep, by omega, Nat.le_trans hbase (hr.lt b rfl).1⟩, ht, ?_, hb.alloc hsz _⟩
  rintro q (rfl | rfl | h)
  · exact hsz
  · exact (hr.lt q rfl).1
  · exact (hL.blk h).1

set_option maxHeartbeats 4000000 in
theorem rcopy_any (s g base : Nat) (rv : Option Addr) (rc : Nat × Nat) (tv : Value) (c : Cfg) (regs : List Reg) (raw : List Int) (l : List TM) (w : World) (h : RIs w base s g rv rc tv c regs raw l) (hl8 : l.length ≤ 8) (hok : AllOk (l.map TM.t)) (h1 : 1 ≤ raw.length) (h64 : raw.length ≤ 64) (hbase : base ≤ w.heap.size) :
    Calls Try.prog 20 #[.pointer (some ⟨s, 0, none⟩)] w (RCopyPost w base rv rc.1 c regs raw (l.map TM.t)) := by
  obtain ⟨n, hn⟩ : ∃ n, n = l.length := ⟨_, rfl⟩
  obtain ⟨rl, hrl⟩ : ∃ rl, rl = raw.length := ⟨_, rfl⟩
  have HRW : Hid (∀ W, Below w.heap.size w W → Calls Try.prog 34 #[.pointer (some ⟨s, 0, none⟩)] W (RRawPost W rl raw)) := Lib.hid fun W hW => (rraw_any s g base rv rc tv c regs raw l W (h.below hW) h1 h64).mono fun e w' h => by rw [hrl]; exact h
  have HSH : Hid (∀ W, Below w.heap.size w W → Calls Try.prog 35 #[.pointer (some ⟨s, 0, none⟩)] W (RShPost W n (l.map TM.t))) := Lib.hid fun W hW => (rshapes_any s g base rv rc tv c regs raw l W (h.below hW) hl8 hok).mono fun e w' h => by
    obtain ⟨v, l', h1, h2, h3, h4⟩ := h
    have hlen : l'.length = n := by have := congrArg List.length h3; simpa [hn] using this
    obtain ⟨TA, Tc, hv, -, -⟩ := own_shapes h2.row
    rw [hlen] at hv
    exact ⟨TA, Tc, l', by rw [h1, hv], by rw [← hv]; exact h2, h3, h4⟩
  have HREGS := Lib.hid h.regs
  have k0 : w.cell? ⟨s, 0, none⟩ = some (.int .i64 c.raw) := (h.blk.cell 0).trans rfl
  have k1 : w.cell? ⟨s, 1, none⟩ = some (.int .i64 c.ring) := (h.blk.cell 1).trans rfl
  have k2 : w.cell? ⟨s, 2, none⟩ = some (.int .i64 c.writes) := (h.blk.cell 2).trans rfl
  have k3 : w.cell? ⟨s, 3, none⟩ = some (.int .i64 c.stamps) := (h.blk.cell 3).trans rfl
  have k4 : w.cell? ⟨s, 4, none⟩ = some (.bool c.multi) := (h.blk.cell 4).trans rfl
  have k5 : w.cell? ⟨s, 5, none⟩ = some (.int .i64 c.tries) := (h.blk.cell 5).trans rfl
  have k6 : w.cell? ⟨s, 6, none⟩ = some (.slice rv regs.length rc.1) := (h.blk.cell 6).trans rfl
  have hsl := h.blk.lt
  have HN : Hid (n = l.length ∧ rl = raw.length) := Lib.hid ⟨hn, hrl⟩
  obtain ⟨ts, hts⟩ : ∃ ts, ts = l.map TM.t := ⟨_, rfl⟩
  rw [← hts] at HSH ⊢
  have HTS := Lib.hid hts
  have hbx := Below.refl w.heap.size w
  clear h hn hrl hts hok
  go_enter Try.func20, Try.ntmps20
  go_wp2_with fail
  go_region_law (first
    | (go_simp; go_at_call 34; refine (HRW.out _ (by first | exact hbx | exact hbx.drew | exact below_drewN hbx _)).mono ?_; rintro e w2 ⟨b, cap, rfl, hRo, hb2⟩; (try (have hsepr : ∀ x ∈ l2, x.vv.ownBlock ≠ some b := fun x hx e => by have h1 := (hSo.blk (.inr ⟨x, hx, .inl e⟩)).2.1; have h2 := (hRo.lt b rfl).1; omega)); (try (have hSo := hSo.below hb2)); have hbx2 : Below w.heap.size w w2 := (by first | exact hbx.trans (hb2.mono hbx.size) | exact hbx.drew.trans (hb2.mono hbx.size) | exact (below_drewN hbx _).trans (hb2.mono hbx.size)); have hsz2 := hbx2.size; have j0 := (hbx2.cell (p := ⟨s, 0, none⟩) hsl).trans k0; have j1 := (hbx2.cell (p := ⟨s, 1, none⟩) hsl).trans k1; have j2 := (hbx2.cell (p := ⟨s, 2, none⟩) hsl).trans k2; have j3 := (hbx2.cell (p := ⟨s, 3, none⟩) hsl).trans k3; have j4 := (hbx2.cell (p := ⟨s, 4, none⟩) hsl).trans k4; have j5 := (hbx2.cell (p := ⟨s, 5, none⟩) hsl).trans k5; have j6 := (hbx2.cell (p := ⟨s, 6, none⟩) hsl).trans k6; clear hbx; have hbx := hbx2; clear hbx2)
    | (go_simp; go_at_call 35; refine (HSH.out _ (by first | exact hbx | exact hbx.drew | exact below_drewN hbx _)).mono ?_; rintro e w2 ⟨TA, Tc, l2, rfl, hSo, hl2, hb2⟩; (try (have hsepr : ∀ x ∈ l2, x.vv.ownBlock ≠ some b := fun x hx e => by have h1 := (hSo.blk (.inr ⟨x, hx, .inl e⟩)).1; have h2 := (hRo.lt b rfl).2; omega)); (try (have hRo := own_kept hRo hb2)); have hbx2 : Below w.heap.size w w2 := (by first | exact hbx.trans (hb2.mono hbx.size) | exact hbx.drew.trans (hb2.mono hbx.size) | exact (below_drewN hbx _).trans (hb2.mono hbx.size)); have hsz2 := hbx2.size; have j0 := (hbx2.cell (p := ⟨s, 0, none⟩) hsl).trans k0; have j1 := (hbx2.cell (p := ⟨s, 1, none⟩) hsl).trans k1; have j2 := (hbx2.cell (p := ⟨s, 2, none⟩) hsl).trans k2; have j3 := (hbx2.cell (p := ⟨s, 3, none⟩) hsl).trans k3; have j4 := (hbx2.cell (p := ⟨s, 4, none⟩) hsl).trans k4; have j5 := (hbx2.cell (p := ⟨s, 5, none⟩) hsl).trans k5; have j6 := (hbx2.cell (p := ⟨s, 6, none⟩) hsl).trans k6; clear hbx; have hbx := hbx2; clear hbx2))
  all_goals
    have hlen : n = l2.length := by have := congrArg List.length hl2; rw [HTS.out] at this; simpa [HN.out.1] using this.symm
    subst hlen
    have hfin := rcopy_end (c := c) (own_base hRo (by first | exact Nat.le_refl _ | omega)) (hSo.base_ (by first | exact Nat.le_refl _ | omega)) HN.out.2 hsepr hl2 hbase HREGS.out hbx
    have HFIN := Lib.hid hfin
    clear hfin hRo hSo hsepr k0 k1 k2 k3 k4 k5 k6
    go_wp2_with fail
    go_ret
    exact HFIN.out

/-- A copy of both, beside both. -/
theorem both_copy {w w3 w4 : World} {base s g s' g' s2 g2 s3 g3 cap : Nat} {rv : Option Addr} {rc : Nat × Nat} {tv tv' tv2 tv3 : Value} {c : Cfg} {regs : List Reg} {raw : List Int} {ts : List TS} {l l' l2 l3 : List TM} {S K : Nat → Prop} (h : Both w base s g s' g' rv rc tv tv' c regs raw ts l l' S K) (hK : ∀ b, K b → base ≤ b ∧ b < w.heap.size) (hbase : base ≤ w.heap.size)
    (hb3 : Below w.heap.size w w3) (hp : PIs w3 w.heap.size s2 g2 tv2 raw l2) (ht2 : l2.map TM.t = ts) (hb4 : Below w3.heap.size w3 w4) (hr : RIs w4 base s3 g3 rv (rc.1, cap) tv3 c regs raw l3) (ht3 : l3.map TM.t = ts) (hnew : ∀ b, PBlk s3 g3 tv3 l3 b → w3.heap.size ≤ b) :
    BothIs w4 base s2 s3 raw ts (fun b => w.heap.size ≤ b ∧ b < w4.heap.size) K := by
  have hs3 := hb3.size
  have hs4 := hb4.size
  refine ⟨fun b hb => ⟨by omega, hb.2⟩, ⟨fun b hb => ⟨(hK b hb).1, by have := (hK b hb).2; omega⟩, fun b hb hk => by have := (hK b hk).2; omega⟩, g2, g3, rv, (rc.1, cap), tv2, tv3, c, regs, l2, l3, (hp.below hb4).base_ hbase, hr, ht2, ht3, h.ok, h.rg, h.n8, h.r1, h.r64, ?_, ?_, ?_, h.ink⟩
  · intro b hb hrb
    have h1 := hp.in_ hb
    rcases hrb with e | e | e | e
    · have := hnew b (.inl e); omega
    · have := hnew b (.inr (.inl e)); omega
    · have := (hK b (h.ink b e)).2; omega
    · have := hnew b (.inr (.inr e)); omega
  · intro b hb
    have h1 := hp.in_ hb
    exact ⟨h1.1, by omega⟩
  · intro b hb
    have h1 := hnew b hb
    refine ⟨by omega, (hr.in_ (b := b) ?_).2⟩
    rcases hb with e | e | e
    · exact .inl e
    · exact .inr (.inl e)
    · exact .inr (.inr (.inr e))
end Go.Proofs.Ytpmpgnhbpneloaa
