/- What the law's alike, one and plays do. -/
import Derived.Test.YtpmpgnhbpneloaaRb
import Derived.Test.YtpmpgnhbpneloaaStp
namespace Go.Proofs.Ytpmpgnhbpneloaa
open Go.RowKit Go.Joins Go.ChangeShapes Go.WideShapes Go.Deep
set_option linter.unusedVariables false
set_option maxRecDepth 100000

def AlikePost (w : World) : Ending → World → Prop := fun e w' => e = .returned (.bool true) ∧ Below w.heap.size w w'
theorem ints_reads {w : World} {g R : Nat} {t : TypeId} {raw : List Int} (hg : Blk w g t (ints raw).toArray) (hl : raw.length = R) : Reads w w.heap.size 1 (some ⟨g, 0, none⟩) R (ints raw) := by
  refine ⟨by simp [ints, hl], fun _ => ⟨_, rfl, hg.lt, fun j u hu => ?_⟩⟩
  have := hg.cell j
  simp only [List.getElem?_toArray, hu] at this
  rw [← this]
  unfold Addr.add
  split <;> simp_all

theorem rsame_any (s g base : Nat) (rv : Option Addr) (rc : Nat × Nat) (tv : Value) (c : Cfg) (regs : List Reg) (raw : List Int) (l l2 : List TM) (w : World) (h : RIs w base s g rv rc tv c regs raw l) (hl8 : l.length ≤ 8) (hok : AllOk (l.map TM.t)) (h64 : raw.length ≤ 64) (B : Option Addr) (d : Nat) (v : Value) (hB : Reads w w.heap.size 1 B raw.length (ints raw)) (hv : ShR w w.heap.size v l2) (hl : l2.map TM.t = l.map TM.t) :
    Calls Try.prog 32 #[.pointer (some ⟨s, 0, none⟩), .slice B raw.length d, v] w (AlikePost w) := by
  have c7 : w.cell? ⟨s, 7, none⟩ = some (.slice (some ⟨g, 0, none⟩) raw.length rc.2) := (h.blk.cell 7).trans rfl
  have c8 : w.cell? ⟨s, 8, none⟩ = some tv := (h.blk.cell 8).trans rfl
  have hA := Reads.of_own h.rawb
  have hv0 := h.ls.shr
  have HS := fun W (hW : Below w.heap.size w W) => sameshapes_yes tv v l l2 W hl.symm hl8 hok ((hv0.below hW).more hW.size) ((hv.below hW).more hW.size)
  have hsl := h.blk.lt
  obtain ⟨n, hn⟩ : ∃ n, n = raw.length := ⟨_, rfl⟩
  rw [← hn] at c7 hA hB h64 ⊢
  obtain ⟨TA, Tc, htv, -, -⟩ := own_shapes h.ls.row
  have HSS := Lib.hid HS
  rw [htv] at c8 HSS
  have HA := Lib.hid hA
  have HB := Lib.hid hB
  clear h hv hok hl hn hv0 HS htv hA hB
  go_enter Try.func32, Try.ntmps32
  go_wp2_with fail
  refine (same_yes _ B n rc.2 d raw _ w.heap.size w.heap.size (by omega) (by exact HA.out) (by exact HB.out)).mono ?_
  rintro e w1 ⟨rfl, j, rfl⟩
  go_wp2_with fail
  refine (HSS.out _ (below_drewN (Below.refl _ _) _)).mono ?_
  rintro e w2 ⟨rfl, hb2⟩
  have hb : Below w.heap.size w w2 := (below_drewN (Below.refl _ _) j).trans hb2
  go_wp2_with fail
  go_ret
  exact ⟨rfl, hb⟩

theorem alike_any (s s' base : Nat) (raw : List Int) (ts : List TS) (S K : Nat → Prop) (w : World) (h : BothIs w base s s' raw ts S K) :
    Calls Try.prog 18 #[.pointer (some ⟨s, 0, none⟩), .pointer (some ⟨s', 0, none⟩)] w (AlikePost w) := by
  obtain ⟨hS, -, g, g', rv, rc, tv, tv', c, regs, l, l', h⟩ := h
  have c0 : w.cell? ⟨s, 0, none⟩ = some (.slice (some ⟨g, 0, none⟩) raw.length raw.length) := (h.p.blk.cell 0).trans rfl
  have H := Lib.hid h
  have HL : Hid (l.length ≤ 8 ∧ l'.length ≤ 8 ∧ AllOk (l.map TM.t) ∧ AllOk (l'.map TM.t) ∧ l.map TM.t = l'.map TM.t) := Lib.hid ⟨by have := h.n8; rw [← h.pt] at this; simpa using this, by have := h.n8; rw [← h.rt] at this; simpa using this, by rw [h.pt]; exact h.ok, by rw [h.rt]; exact h.ok, h.pt.trans h.rt.symm⟩
  clear h hS
  go_enter Try.func18, Try.ntmps18
  go_wp2_with fail
  refine (raw_any s g raw.length raw _ H.out.r64 rfl (by exact c0) (by exact H.out.p.rawb)).mono ?_
  rintro e w1 ⟨rfl, hb1, hbel1⟩
  have hR := Lib.hid (ints_reads hb1 rfl)
  have hsz := hbel1.size
  have HB1 := Lib.hid hbel1
  clear hb1 hbel1
  go_wp2_with fail
  refine (pshapes_any s g base tv raw l _ (by exact H.out.p.below HB1.out) HL.out.1 HL.out.2.2.1).mono ?_
  rintro e w2 ⟨v, l2, rfl, hL2, hl2, hb2⟩
  have HB2 := Lib.hid (HB1.out.trans (hb2.mono hsz))
  have HR2 := Lib.hid ((hR.out.below hb2).more hb2.size)
  have HS2 := Lib.hid hL2.shr
  clear hL2 hb2
  go_wp2_with fail
  refine (rsame_any s' g' base rv rc tv' c regs raw l' l2 _ (by exact H.out.r.below HB2.out) HL.out.2.1 HL.out.2.2.2.1 H.out.r64 _ _ v (by exact HR2.out) (by exact HS2.out) (hl2.trans HL.out.2.2.2.2)).mono ?_
  rintro e w3 ⟨rfl, hb3⟩
  have HB3 := Lib.hid (HB2.out.trans (hb3.mono HB2.out.size))
  clear hb3
  go_wp2_with fail
  go_ret
  exact ⟨rfl, HB3.out⟩
end Go.Proofs.Ytpmpgnhbpneloaa
