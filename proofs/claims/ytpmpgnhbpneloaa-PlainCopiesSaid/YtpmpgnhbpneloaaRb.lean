/- A state of the program and one of the document that mean the same: what each call leaves. -/
import Derived.Test.YtpmpgnhbpneloaaQz
namespace Go.Proofs.Ytpmpgnhbpneloaa
open Go.RowKit Go.Joins Go.ChangeShapes Go.WideShapes Go.Deep
set_option linter.unusedVariables false
set_option maxRecDepth 100000

theorem set_ints {w : World} {g : Nat} {t : TypeId} {l : List Int} (h : Blk w g t (ints l).toArray) (n : Nat) (v : Int) : Blk (w.setCell ⟨g, n, none⟩ (.int .i64 v)) g t (ints (l.set n v)).toArray := by
  have := h.set_ n (.int .i64 v)
  rw [show (ints l).toArray.setIfInBounds n (.int .i64 v) = (ints (l.set n v)).toArray by simp [ints, List.map_set]] at this
  exact this
section
variable {w w' : World} {base s g : Nat} {tv : Value} {raw : List Int} {l : List TM} {rv : Option Addr} {rc : Nat × Nat} {c : Cfg} {regs : List Reg}
theorem PIs.notg (h : PIs w base s g tv raw l) : ¬ LBlocks tv l g := by
  rintro (hb | ⟨x, hx, hb | hb⟩)
  · obtain ⟨c, hc⟩ := own_blk h.ls.row hb
    exact hc.ne_ h.rawb (by decide) rfl
  · exact h.sepr x hx hb
  · obtain ⟨c, hc⟩ := own_blk (h.ls.things x hx).ps hb
    exact hc.ne_ h.rawb (by decide) rfl
theorem RIs.notg (h : RIs w base s g rv rc tv c regs raw l) : ¬ LBlocks tv l g := by
  rintro (hb | ⟨x, hx, hb | hb⟩)
  · obtain ⟨c, hc⟩ := own_blk h.ls.row hb
    exact hc.ne_ h.rb.choose_spec (by decide) rfl
  · exact h.sepr x hx hb
  · obtain ⟨c, hc⟩ := own_blk (h.ls.things x hx).ps hb
    exact hc.ne_ h.rb.choose_spec (by decide) rfl
theorem PIs.store (h : PIs w base s g tv raw l) (i : Nat) (v : Int) : PIs (w.setCell ⟨g, i, none⟩ (.int .i64 v)) base s g tv (raw.set i v) l := by
  refine ⟨?_, set_ints h.rawb i v, h.ls.far (p := ⟨g, i, none⟩) (fun b hb (e : b = g) => h.notg (e ▸ hb)) _, h.sepr, h.b0, h.b1⟩
  rw [List.length_set]
  exact h.blk.far (p := ⟨g, i, none⟩) (h.blk.ne_ h.rawb (by decide)) _
theorem RIs.store (h : RIs w base s g rv rc tv c regs raw l) (i : Nat) (v : Int) : RIs (w.setCell ⟨g, i, none⟩ (.int .i64 v)) base s g rv rc tv c regs (raw.set i v) l := by
  have hst := (h.rawb.stored i (.int .i64 v)).1
  rw [show (ints raw).set i (.int .i64 v) = ints (raw.set i v) by simp [ints, List.map_set]] at hst
  refine ⟨?_, own_keep h.regs fun b hb => Below.heap_setCell w ⟨g, i, none⟩ _ b (fun e => own_blk_ne h.regs h.rb.choose_spec (by decide) (by rw [hb]; exact congrArg some e)), by rw [List.length_set]; exact hst, h.ls.far (p := ⟨g, i, none⟩) (fun b hb (e : b = g) => h.notg (e ▸ hb)) _, h.sepr, h.b0, h.b1⟩
  rw [List.length_set]
  exact h.blk.far (p := ⟨g, i, none⟩) (h.blk.ne_ h.rb.choose_spec (by decide)) _
theorem PIs.frm {S : Nat → Prop} (h : PIs w base s g tv raw l) (hF : Frm w w' S) (hs : ∀ b, PBlk s g tv l b → ¬ S b) : PIs w' base s g tv raw l :=
  h.keep (hF.block s h.blk.lt (hs s (.inl rfl))) (hF.block g h.rawb.lt (hs g (.inr (.inl rfl)))) fun b hb => hF.block b (h.ls.blk hb).2.1 (hs b (.inr (.inr hb)))
theorem RIs.frm {S : Nat → Prop} (h : RIs w base s g rv rc tv c regs raw l) (hF : Frm w w' S) (hs : ∀ b, RBlk s g rv regs.length rc tv l b → ¬ S b) : RIs w' base s g rv rc tv c regs raw l :=
  h.keep (hF.block s h.blk.lt (hs s (.inl rfl))) (hF.block g h.gl (hs g (.inr (.inl rfl)))) (fun b hb => hF.block b (h.regs.lt b hb).2 (hs b (.inr (.inr (.inl hb))))) fun b hb => hF.block b (h.ls.blk hb).2.1 (hs b (.inr (.inr (.inr hb))))
theorem PIs.in_ (h : PIs w base s g tv raw l) {b : Nat} (hb : PBlk s g tv l b) : base ≤ b ∧ b < w.heap.size := by
  rcases hb with rfl | rfl | hb
  · exact ⟨h.b0, h.blk.lt⟩
  · exact ⟨h.b1, h.rawb.lt⟩
  · exact ⟨(h.ls.blk hb).1, (h.ls.blk hb).2.1⟩
theorem RIs.in_ (h : RIs w base s g rv rc tv c regs raw l) {b : Nat} (hb : RBlk s g rv regs.length rc tv l b) : base ≤ b ∧ b < w.heap.size := by
  rcases hb with rfl | rfl | hb | hb
  · exact ⟨h.b0, h.blk.lt⟩
  · exact ⟨h.b1, h.gl⟩
  · exact h.regs.lt b hb
  · exact ⟨(h.ls.blk hb).1, (h.ls.blk hb).2.1⟩
end

structure Both (w : World) (base s g s' g' : Nat) (rv : Option Addr) (rc : Nat × Nat) (tv tv' : Value) (c : Cfg) (regs : List Reg) (raw : List Int) (ts : List TS) (l l' : List TM) (S K : Nat → Prop) : Prop where
  p : PIs w base s g tv raw l
  r : RIs w base s' g' rv rc tv' c regs raw l'
  pt : l.map TM.t = ts
  rt : l'.map TM.t = ts
  ok : AllOk ts
  rg : regs = ts.map regOf
  n8 : ts.length ≤ 8
  r1 : 1 ≤ raw.length
  r64 : raw.length ≤ 64
  sep : ∀ b, PBlk s g tv l b → ¬ RBlk s' g' rv regs.length rc tv' l' b
  inp : ∀ b, PBlk s g tv l b → S b
  inr : ∀ b, PBlk s' g' tv' l' b → S b
  ink : ∀ b, (Value.slice rv regs.length rc.1).ownBlock = some b → K b
def BothIs (w : World) (base s s' : Nat) (raw : List Int) (ts : List TS) (S K : Nat → Prop) : Prop :=
  (∀ b, S b → base ≤ b ∧ b < w.heap.size) ∧ ((∀ b, K b → base ≤ b ∧ b < w.heap.size) ∧ ∀ b, S b → ¬ K b) ∧ ∃ g g' rv rc tv tv' c regs l l', Both w base s g s' g' rv rc tv tv' c regs raw ts l l' S K
def BStep (w w' : World) (base s s' : Nat) (raw : List Int) (ts : List TS) (S K : Nat → Prop) : Prop :=
  ∃ S', BothIs w' base s s' raw ts S' K ∧ Frm w w' S ∧ ∀ b, S' b → S b ∨ w.heap.size ≤ b
section
variable {w w' w1 w2 : World} {base s s' : Nat} {raw raw1 : List Int} {ts ts1 : List TS} {S S1 K : Nat → Prop}
theorem Both.rblk {g g' : Nat} {rv : Option Addr} {rc : Nat × Nat} {tv tv' : Value} {c : Cfg} {regs : List Reg} {l l' : List TM} (h : Both w base s g s' g' rv rc tv tv' c regs raw ts l l' S K) {b : Nat} (hb : RBlk s' g' rv regs.length rc tv' l' b) : S b ∨ K b := by
  rcases hb with e | e | e | e
  · exact .inl (h.inr b (.inl e))
  · exact .inl (h.inr b (.inr (.inl e)))
  · exact .inr (h.ink b e)
  · exact .inl (h.inr b (.inr (.inr e)))
theorem BothIs.frm {S2 : Nat → Prop} (h : BothIs w base s s' raw ts S K) (hF : Frm w w' S2) (hs : ∀ b, S b → ¬ S2 b) (hk : ∀ b, K b → ¬ S2 b) : BothIs w' base s s' raw ts S K := by
  obtain ⟨hb, ⟨hb2, hd⟩, g, g', rv, rc, tv, tv', c, regs, l, l', h⟩ := h
  exact ⟨fun b h => ⟨(hb b h).1, Nat.lt_of_lt_of_le (hb b h).2 hF.size⟩, ⟨fun b h => ⟨(hb2 b h).1, Nat.lt_of_lt_of_le (hb2 b h).2 hF.size⟩, hd⟩, g, g', rv, rc, tv, tv', c, regs, l, l', h.p.frm hF (fun b h' => hs b (h.inp b h')), h.r.frm hF (fun b h' => (h.rblk h').elim (hs b) (hk b)), h.pt, h.rt, h.ok, h.rg, h.n8, h.r1, h.r64, h.sep, h.inp, h.inr, h.ink⟩
theorem BothIs.below (h : BothIs w base s s' raw ts S K) (hb : Below w.heap.size w w') : BothIs w' base s s' raw ts S K :=
  h.frm (S2 := fun _ => False) (Frm.of_below hb) (fun _ _ => id) fun _ _ => id
theorem BStep.same (h : BothIs w base s s' raw ts S K) (hb : Below w.heap.size w w') : BStep w w' base s s' raw ts S K := ⟨S, h.below hb, Frm.of_below hb, fun _ h => .inl h⟩
/-- First blocks are made. -/
theorem BStep.after (hb : Below w.heap.size w w1) (h : BStep w1 w2 base s s' raw ts S K) : BStep w w2 base s s' raw ts S K := by
  obtain ⟨S2, hB2, hF2, hS2⟩ := h
  have hs := hb.size
  refine ⟨S2, hB2, (Frm.of_below hb).trans hF2 fun _ h => .inl h, fun b hb => ?_⟩
  rcases hS2 b hb with h | h
  · exact .inl h
  · exact .inr (by omega)
theorem BStep.belowb (h : BStep w w' base s s' raw ts S K) (hS : ∀ b, S b → base ≤ b) (hw : base ≤ w.heap.size) : Below base w w' := by
  obtain ⟨S', _, hF, _⟩ := h
  exact hF.below hw hS
end

/-- The program's Call, whatever is asked. -/
theorem pcall_any (region what : Int) (A : Option Addr) (na ca : Nat) (args : List Int) (w : World) {base s g : Nat} {tv : Value} {raw : List Int} {l : List TM} (h : PIs w base s g tv raw l) (hok : AllOk (l.map TM.t)) (hal : args.length = na) (hna : na ≤ 9223372036854775807) (hA : Reads w w.heap.size 1 A na (ints args)) (hbase : base ≤ w.heap.size)
    (hl8 : l.length ≤ 8) (hsep : 0 < na → ∀ ad, A = some ad → ¬ PBlk s g tv l ad.block) :
    Calls Try.prog 12 #[.pointer (some ⟨s, 0, none⟩), .int .i64 region, .int .i64 what, .slice A na ca] w (PCallPost (pcallF (l.map TM.t) region what args) base s g tv raw l w) := by
  subst hal
  by_cases hin : 0 ≤ region ∧ region.toNat < l.length
  · obtain ⟨k, rfl⟩ := Int.eq_ofNat_of_zero_le hin.1
    exact pcall_in k what A ca args w h (by simpa using hin.2) hok hna hA hbase (by omega) hsep
  · have e : pcallF (l.map TM.t) region what args = (l.map TM.t, 0, 0, 1) := by
      unfold pcallF
      rw [dif_neg (by simpa using hin)]
    rw [e]
    exact pcall_out region what A _ ca args w h hin
theorem rcall_any (region what : Int) (A : Option Addr) (na ca : Nat) (args : List Int) (w : World) {base s g : Nat} {rv : Option Addr} {rc : Nat × Nat} {tv : Value} {c : Cfg} {regs : List Reg} {raw : List Int} {l : List TM} (h : RIs w base s g rv rc tv c regs raw l) (hok : AllOk (l.map TM.t)) (hregs : regs = (l.map TM.t).map regOf) (hal : args.length = na) (hna : na ≤ 9223372036854775807) (hA : Reads w w.heap.size 1 A na (ints args)) (hbase : base ≤ w.heap.size)
    (hl8 : l.length ≤ 8) (hsep : 0 < na → ∀ ad, A = some ad → ¬ RBlk s g rv regs.length rc tv l ad.block) :
    Calls Try.prog 16 #[.pointer (some ⟨s, 0, none⟩), .int .i64 region, .int .i64 what, .slice A na ca] w (RCallPost (pcallF (l.map TM.t) region what args) base s g rv rc tv c regs raw l w) := by
  subst hal
  by_cases hin : 0 ≤ region ∧ region.toNat < l.length
  · obtain ⟨k, rfl⟩ := Int.eq_ofNat_of_zero_le hin.1
    exact rcall_in k what A ca args w h (by simpa using hin.2) hok hregs hna hA hbase (by omega) hsep
  · have e : pcallF (l.map TM.t) region what args = (l.map TM.t, 0, 0, 1) := by
      unfold pcallF
      rw [dif_neg (by simpa using hin)]
    rw [e]
    exact rcall_out region what A _ ca w h hin

theorem pcallF_reg {ts : List TS} (region what : Int) (args : List Int) : (pcallF ts region what args).1.map regOf = ts.map regOf ∧ (pcallF ts region what args).1.length = ts.length := by
  unfold pcallF
  split
  · rename_i hh
    split
    · refine ⟨?_, by simp⟩
      rw [List.map_set]
      have hk := callF_kind (ts[region.toNat]'hh.2) what args
      have : regOf (callF (ts[region.toNat]'hh.2) what args).1 = (ts.map regOf)[region.toNat]'(by simpa using hh.2) := by
        simp [regOf, hk.1, hk.2]
      rw [this]
      exact List.set_getElem_self _
    · exact ⟨rfl, rfl⟩
  · exact ⟨rfl, rfl⟩

/-- Both called: the program first. -/
theorem Both.called {w W : World} {base s g s' g' : Nat} {rv : Option Addr} {rc : Nat × Nat} {tv tv' : Value} {c : Cfg} {regs : List Reg} {raw : List Int} {ts : List TS} {l l' l1 : List TM} {S K : Nat → Prop} (h : Both w base s g s' g' rv rc tv tv' c regs raw ts l l' S K) (hF : Frm w W (LBlocks tv l)) :
    RIs W base s' g' rv rc tv' c regs raw l' := h.r.frm hF fun b hb hl => h.sep b (.inr (.inr hl)) hb
theorem Both.called2 {w w1 w2 : World} {base s g s' g' : Nat} {rv : Option Addr} {rc : Nat × Nat} {tv tv' : Value} {c : Cfg} {regs : List Reg} {raw : List Int} {ts ts' : List TS} {l l' l1 l2 : List TM} {S K : Nat → Prop} (h : Both w base s g s' g' rv rc tv tv' c regs raw ts l l' S K) (hS : ∀ b, S b → base ≤ b ∧ b < w.heap.size) (hK : (∀ b, K b → base ≤ b ∧ b < w.heap.size) ∧ ∀ b, S b → ¬ K b) (hbase : base ≤ w.heap.size)
    (h1 : PIs w1 base s g tv raw l1) (ht1 : l1.map TM.t = ts') (hF : Frm w w1 (LBlocks tv l)) (hn1 : ∀ b, LBlocks tv l1 b → LBlocks tv l b ∨ w.heap.size ≤ b)
    (h2 : RIs w2 base s' g' rv rc tv' c regs raw l2) (ht2 : l2.map TM.t = ts') (hF2 : Frm w1 w2 (LBlocks tv' l')) (hn2 : ∀ b, LBlocks tv' l2 b → LBlocks tv' l' b ∨ w1.heap.size ≤ b) (hok : AllOk ts') (hreg : ts'.map regOf = ts.map regOf) (hlen : ts'.length = ts.length) : BStep w w2 base s s' raw ts' S K := by
  have hs1 := hF.size
  have hs2 := hF2.size
  have hr1 := h.called (l1 := l1) hF
  have hp1 : ∀ b, PBlk s g tv l1 b → PBlk s g tv l b ∨ w.heap.size ≤ b := by
    rintro b (e | e | e)
    · exact .inl (.inl e)
    · exact .inl (.inr (.inl e))
    · exact (hn1 b e).imp (fun h => .inr (.inr h)) id
  have hr2 : ∀ b, RBlk s' g' rv regs.length rc tv' l2 b → RBlk s' g' rv regs.length rc tv' l' b ∨ w1.heap.size ≤ b := by
    rintro b (e | e | e | e)
    · exact .inl (.inl e)
    · exact .inl (.inr (.inl e))
    · exact .inl (.inr (.inr (.inl e)))
    · exact (hn2 b e).imp (fun h => .inr (.inr (.inr h))) id
  have hp2 : PIs w2 base s g tv raw l1 := h1.frm hF2 fun b hb hl => by
    rcases hp1 b hb with e | e
    · exact h.sep b e (.inr (.inr (.inr hl)))
    · have := (h.r.in_ (.inr (.inr (.inr hl)))).2
      omega
  refine ⟨fun b => S b ∨ (w.heap.size ≤ b ∧ b < w2.heap.size), ⟨?_, ⟨fun b hb => ⟨(hK.1 b hb).1, by have := (hK.1 b hb).2; omega⟩, fun b hb hk => hb.elim (fun h => hK.2 b h hk) fun h => by have := (hK.1 b hk).2; omega⟩, g, g', rv, rc, tv, tv', c, regs, l1, l2, hp2, h2, ht1, ht2, hok, by rw [hreg]; exact h.rg, by rw [hlen]; exact h.n8, h.r1, h.r64, ?_, ?_, ?_, h.ink⟩, ?_, ?_⟩
  · rintro b (hb | hb)
    · exact ⟨(hS b hb).1, by have := (hS b hb).2; omega⟩
    · exact ⟨by omega, hb.2⟩
  · intro b hb hr
    have hbl := (h1.in_ hb).2
    rcases hp1 b hb with e | e
    · rcases hr2 b hr with e' | e'
      · exact h.sep b e e'
      · omega
    · rcases hr2 b hr with e' | e'
      · have := (h.r.in_ e').2
        omega
      · omega
  · intro b hb
    rcases hp1 b hb with e | e
    · exact .inl (h.inp b e)
    · exact .inr ⟨e, (hp2.in_ hb).2⟩
  · intro b hb
    have hbr : RBlk s' g' rv regs.length rc tv' l2 b := by
      rcases hb with e | e | e
      · exact .inl e
      · exact .inr (.inl e)
      · exact .inr (.inr (.inr e))
    have hb3 := (h2.in_ hbr).2
    rcases hb with e | e | e
    · exact .inl (h.inr b (.inl e))
    · exact .inl (h.inr b (.inr (.inl e)))
    · rcases hn2 b e with e' | e'
      · exact .inl (h.inr b (.inr (.inr e')))
      · exact .inr ⟨by omega, hb3⟩
  · have f1 : Frm w w1 S := hF.mono fun q hq => h.inp q (.inr (.inr hq))
    have f2 : Frm w1 w2 S := hF2.mono fun q hq => h.inr q (.inr (.inr hq))
    exact f1.trans f2 fun q hq => .inl hq
  · rintro b (hb | hb)
    · exact .inl hb
    · exact .inr hb.1
/-- Both stored. -/
theorem Both.stored {w w2 : World} {base s g s' g' : Nat} {rv : Option Addr} {rc : Nat × Nat} {tv tv' : Value} {c : Cfg} {regs : List Reg} {raw : List Int} {ts : List TS} {l l' : List TM} {S K : Nat → Prop} (h : Both w base s g s' g' rv rc tv tv' c regs raw ts l l' S K) (hS : ∀ b, S b → base ≤ b ∧ b < w.heap.size) (hK : (∀ b, K b → base ≤ b ∧ b < w.heap.size) ∧ ∀ b, S b → ¬ K b) (i : Nat) (v : Int) (n m : Nat)
    (hw : w2 = ((((w.drewN n).setCell ⟨g, i, none⟩ (.int .i64 v)).drewN m).setCell ⟨g', i, none⟩ (.int .i64 v))) : BStep w w2 base s s' (raw.set i v) ts S K := by
  have hgr : ¬ RBlk s' g' rv regs.length rc tv' l' g := h.sep g (.inr (.inl rfl))
  have hgp : ¬ PBlk s g tv l g' := fun hb => h.sep g' hb (.inr (.inl rfl))
  have f1 : Frm w ((w.drewN n).setCell ⟨g, i, none⟩ (.int .i64 v)) (fun q => q = g) := ⟨rfl, rfl, rfl, by simp [World.setCell], fun q hq hn => Below.heap_setCell (w.drewN n) ⟨g, i, none⟩ _ q hn⟩
  have hr1 := (h.r.frm f1 fun b hb e => hgr (e ▸ hb)).drewN m
  have hp1 := ((h.p.drewN n).store i v).drewN m
  have f2 : Frm (((w.drewN n).setCell ⟨g, i, none⟩ (.int .i64 v)).drewN m) w2 (fun q => q = g') := by rw [hw]; exact ⟨rfl, rfl, rfl, by simp [World.setCell], fun q hq hn => Below.heap_setCell _ ⟨g', i, none⟩ _ q hn⟩
  have hp2 := hp1.frm f2 fun b hb e => hgp (e ▸ hb)
  have hr2 := hr1.store i v
  rw [← hw] at hr2
  refine ⟨S, ⟨fun b hb => ⟨(hS b hb).1, by rw [hw]; simp [World.setCell]; exact (hS b hb).2⟩, ⟨fun b hb => ⟨(hK.1 b hb).1, by rw [hw]; simp [World.setCell]; exact (hK.1 b hb).2⟩, hK.2⟩, g, g', rv, rc, tv, tv', c, regs, l, l', hp2, hr2, h.pt, h.rt, h.ok, h.rg, h.n8, by rw [List.length_set]; exact h.r1, by rw [List.length_set]; exact h.r64, h.sep, h.inp, h.inr, h.ink⟩, ?_, fun b hb => .inl hb⟩
  have f1' : Frm w (((w.drewN n).setCell ⟨g, i, none⟩ (.int .i64 v)).drewN m) S := ⟨rfl, rfl, rfl, f1.size, fun q hq hn => f1.block q hq fun e => hn (e ▸ h.inp g (.inr (.inl rfl)))⟩
  exact f1'.trans (f2.mono fun q e => e ▸ h.inr g' (.inr (.inl rfl))) fun q hq => .inl hq
end Go.Proofs.Ytpmpgnhbpneloaa
