/- asm's operand. -/
import Derived.Test.YthghnihlfdoefaaDoorBh
import Derived.Deep.QuietTactic
import Derived.BigQuiet
namespace Go.Proofs.YthghnihlfdoefaaDoor
open Go.RowKit Go.Joins Go.ChangeShapes Go.WideShapes Go.Deep
set_option linter.unusedVariables false
set_option linter.unusedSimpArgs false
set_option maxRecDepth 100000

def insC (c : Nat) (n : Int) (p : Nat) (nm : Tok) : Array Value := #[.int .i64 c, .int .i64 n, .int .i64 p, .string ⟨nm.s.toArray⟩, .int .i64 nm.pos]
def OprPost (w : World) (b c p : Nat) (t : Tok) (e : Ending) (w' : World) : Prop := Frm w w' (fun q => q = b) ∧ match oprL c t with
  | .error x => e = .panicked [{ v := faultV x t.pos, recovered := false }]
  | .ok (n, nm) => e = .returned (.tuple #[]) ∧ Blk w' b 73 (insC c n p nm)
set_option maxHeartbeats 4000000 in
theorem operand_none {B : Nat} {w : World} (hE : EnvP B w) (c : Nat) (hc : c < 41) (p : Nat) (t : Tok) (ht : t.s.length ≤ 4294967296) (b : Nat) (hb : Blk w b 73 (insC c 0 p noTok)) (hnum : numF t.s = none) :
    Calls Tryd.prog 70 #[.pointer (some ⟨b, 0, none⟩), .agg #[.string ⟨t.s.toArray⟩, .int .i64 t.pos]] w (OprPost w b c p t) := by
  obtain ⟨s, hs⟩ : ∃ s : ByteArray, s = ⟨t.s.toArray⟩ := ⟨_, rfl⟩
  have hsl : s.data.toList = t.s := by rw [hs]
  have hsz : s.size = t.s.length := by rw [hs]; show t.s.toArray.size = _; simp
  obtain ⟨w0, hw0⟩ : ∃ w0, w0 = w.alloc (.cells #[.string s, .int .i64 t.pos] 71) := ⟨_, rfl⟩
  have hb0 : Below w.heap.size w w0 := hw0 ▸ (Below.refl _ _).alloc (Nat.le_refl _) _
  have hE0 := hE.below (hb0.mono hE.size)
  have HP := Lib.hid (pint_any hE0 s (by omega))
  rw [← hs]
  have HS := Lib.hid hs
  have HSL := Lib.hid hsl
  have hsz2 : s.size ≤ 4294967296 := by omega
  clear hs hsl hsz
  have hblt := hb.lt
  have hx0 : ∀ (W : World), Below w.heap.size w W → W.cell? ⟨b, 0, none⟩ = some (.int .i64 c) := fun W h => (h.cell (p := ⟨b, 0, none⟩) hblt).trans ((hb.cell 0).trans rfl)
  have HX := Lib.hid hx0
  have HX2 : Hid (∀ (W : World), Below w.heap.size w W → Blk W b 73 (insC c 0 p noTok)) := Lib.hid fun W h => hb.below h hblt
  clear hx0
  have hpn : ∀ v, Go.Lib.parseIntB 64 t.s = .ok v → Go.Lib.itoa v ≠ t.s := fun v h1 h2 => by have := (prog_num t.s v).1 ⟨h1, h2⟩; rw [hnum] at this; cases this
  cases hl : leadsF c
  · have HO : Hid (oprL c t = .error 9) := Lib.hid (by unfold oprL; rw [hnum]; simp [hl])
    have HL := Lib.hid (fun W => leads_any c W)
    rw [hl] at HL
    have HNM := Lib.hid (fun W => named_any s (by omega) W)
    clear hl
    by_cases hok : ∃ v, Go.Lib.parseIntB 64 s.data.toList = .ok v
    · obtain ⟨v, hv⟩ := hok
      have hne : Go.Lib.itoa v ≠ t.s := hpn v (HSL.out ▸ hv)
      have hv64 : i64ok v := by have := Go.Lib.parseIntB_bounds hv; unfold i64ok; omega
      have HPN : Hid (Calls Tryd.prog 86 #[.string s, .int .i64 10, .int .i64 64] w0 fun e w' => Below w0.heap.size w0 w' ∧ e = .returned (.tuple #[.int .i64 v, .nilIface])) := Lib.hid (HP.out.mono fun e w' h => ⟨h.1, by
        rcases h.2 with ⟨v', _, h2, h3⟩ | ⟨h2, _⟩
        · rw [hv] at h2; injection h2 with h2; rw [h2]; exact h3
        · exact absurd hv (h2 v)⟩)
      have HFI0 := Lib.hid (fun (W : World) (hW : Below w.heap.size w W) => formatInt_any (hE.below (hW.mono hE.size)).env v hv64)
      obtain ⟨s2, hs2e⟩ : ∃ s2 : ByteArray, s2 = ⟨(Go.Lib.itoa v).toArray⟩ := ⟨_, rfl⟩
      rw [← hs2e] at HFI0
      have HFI := Lib.hid HFI0.out
      clear HFI0
      have HQ : Hid ((s2.toList == s.toList) = false) := Lib.hid (by
        rw [beq_eq_false_iff_ne, ByteArray.toList_eq, ByteArray.toList_eq, HSL.out, hs2e]
        exact hne)
      clear HP hv hnum hne hs2e hpn hE0
      rw [hw0] at HPN
      clear hw0 hb0
      go_enter Tryd.func70, Tryd.ntmps70
      go_upto_region 2 with (go_at_call 86; refine (HPN.out).mono ?_; rintro e w1 ⟨hb1, rfl⟩)
      have c0 : w1.cell? ⟨b, 0, none⟩ = some (.int .i64 c) := HX.out w1 (((Below.refl _ _).alloc (Nat.le_refl _) _).trans (hb1.mono (by simp)))
      have k0 : w1.cell? ⟨w.heap.size, 0, none⟩ = some (.string s) := (hb1.cell (p := ⟨w.heap.size, 0, none⟩) (by simp)).trans (((Blk.new w _ _).cell 0).trans rfl)
      have k1 : w1.cell? ⟨w.heap.size, 1, none⟩ = some (.int .i64 t.pos) := (hb1.cell (p := ⟨w.heap.size, 1, none⟩) (by simp)).trans (((Blk.new w _ _).cell 1).trans rfl)
      have hz1 : w.heap.size < w1.heap.size := by have := hb1.size; simp at this; omega
      have hz2 : b < w1.heap.size := by omega
      have KB1 : Hid (Blk w1 w.heap.size 71 #[.string s, .int .i64 t.pos]) := Lib.hid ((Blk.new w _ _).below hb1 (by simp))
      have HB1 : Hid (Below w.heap.size w w1) := Lib.hid (((Below.refl _ _).alloc (Nat.le_refl _) _).trans (hb1.mono (by simp)))
      clear hb1
      go_cut [23] from 24 to 65 (fun q wc => q = .bool true ∧ Below w.heap.size w wc ∧ Below w1.heap.size w1 wc)
      case first =>
        go_region_with (go_at_call 22; refine (HFI.out _ (by first | exact HB1.out | exact HB1.out.drew)).mono ?_; rintro e w2 ⟨rfl, hb2⟩; have k0 : w2.cell? ⟨w.heap.size, 0, none⟩ = some (.string s) := (hb2.cell (p := ⟨w.heap.size, 0, none⟩) hz1).trans k0; have hz3 : w.heap.size < w2.heap.size := Nat.lt_of_lt_of_le hz1 hb2.size)
        all_goals (go_wp2_with fail)
        all_goals go_meet
        all_goals (refine ⟨?_, HB1.out.drew.trans (hb2.mono (Nat.le_of_lt hz1)), (Below.refl _ _).drew.trans hb2⟩)
        all_goals (show Value.bool (!(s2.toList == s.toList)) = _; rw [HQ.out]; rfl)
      case rest =>
        obtain ⟨rfl, hbc, hbd⟩ := hcut
        have c0 : wc.cell? ⟨b, 0, none⟩ = some (.int .i64 c) := HX.out wc hbc
        have k0 : wc.cell? ⟨w.heap.size, 0, none⟩ = some (.string s) := (hbd.cell (p := ⟨w.heap.size, 0, none⟩) hz1).trans k0
        have k1 : wc.cell? ⟨w.heap.size, 1, none⟩ = some (.int .i64 t.pos) := (hbd.cell (p := ⟨w.heap.size, 1, none⟩) hz1).trans k1
        have hz3 : w.heap.size < wc.heap.size := Nat.lt_of_lt_of_le hz1 hbd.size
        have hz4 : b < wc.heap.size := by omega
        have KB := Lib.hid (KB1.out.below hbd hz1)
        have HB1 := Lib.hid hbc
        clear hbc hbd
        go_wp2_with (first | (go_at_call 18; refine (HL.out _).mono ?_; rintro r w2 ⟨hr, hw⟩; subst hr; subst hw) | (go_at_call 48; refine (HNM.out _).mono ?_; rintro r w2 ⟨hr, hw⟩; subst hr; subst hw) | (go_at_call 32; refine (fail_any _ _ _).mono ?_; rintro r w2 ⟨hr, hw⟩; subst hr; subst hw))
        refine ⟨rfl, Frm.of_below (by first | exact HB1.out | exact below_drewN HB1.out _), ?_⟩
        rw [HO.out]
        rfl
    · have HPN : Hid (Calls Tryd.prog 86 #[.string s, .int .i64 10, .int .i64 64] w0 fun e w' => Below w0.heap.size w0 w' ∧ ∃ v N, e = .returned (.tuple #[.int .i64 v, .iface 171 (.pointer (some ⟨N, 0, none⟩))])) := Lib.hid (HP.out.mono fun e w' h => ⟨h.1, by
        rcases h.2 with ⟨v, _, h2, _⟩ | ⟨_, v, N, h2⟩
        · exact absurd ⟨v, h2⟩ hok
        · exact ⟨v, N, h2⟩⟩)
      clear HP hok hnum hpn hE0
      rw [hw0] at HPN
      clear hw0 hb0
      go_enter Tryd.func70, Tryd.ntmps70
      go_upto_region 2 with (go_at_call 86; refine (HPN.out).mono ?_; rintro e w1 ⟨hb1, v, N, rfl⟩)
      have c0 : w1.cell? ⟨b, 0, none⟩ = some (.int .i64 c) := HX.out w1 (((Below.refl _ _).alloc (Nat.le_refl _) _).trans (hb1.mono (by simp)))
      have k0 : w1.cell? ⟨w.heap.size, 0, none⟩ = some (.string s) := (hb1.cell (p := ⟨w.heap.size, 0, none⟩) (by simp)).trans (((Blk.new w _ _).cell 0).trans rfl)
      have k1 : w1.cell? ⟨w.heap.size, 1, none⟩ = some (.int .i64 t.pos) := (hb1.cell (p := ⟨w.heap.size, 1, none⟩) (by simp)).trans (((Blk.new w _ _).cell 1).trans rfl)
      have hz1 : w.heap.size < w1.heap.size := by have := hb1.size; simp at this; omega
      have hz2 : b < w1.heap.size := by omega
      have KB1 : Hid (Blk w1 w.heap.size 71 #[.string s, .int .i64 t.pos]) := Lib.hid ((Blk.new w _ _).below hb1 (by simp))
      have HB1 : Hid (Below w.heap.size w w1) := Lib.hid (((Below.refl _ _).alloc (Nat.le_refl _) _).trans (hb1.mono (by simp)))
      clear hb1
      go_quiet (fail)
      go_wp2_with (first | (go_at_call 18; refine (HL.out _).mono ?_; rintro r w2 ⟨hr, hw⟩; subst hr; subst hw) | (go_at_call 48; refine (HNM.out _).mono ?_; rintro r w2 ⟨hr, hw⟩; subst hr; subst hw) | (go_at_call 32; refine (fail_any _ _ _).mono ?_; rintro r w2 ⟨hr, hw⟩; subst hr; subst hw))
      refine ⟨rfl, Frm.of_below (by first | exact HB1.out | exact below_drewN HB1.out _), ?_⟩
      rw [HO.out]
      rfl
  · have HL := Lib.hid (fun W => leads_any c W)
    rw [hl] at HL
    cases hnm : nameF t.s
    · have HO : Hid (oprL c t = .error 9) := Lib.hid (by unfold oprL; rw [hnum]; simp [hl, hnm])
      have HNM0 := Lib.hid (fun W => named_any s (by omega) W)
      rw [HSL.out, hnm] at HNM0
      have HNM := Lib.hid HNM0.out
      clear hl hnm HNM0
      by_cases hok : ∃ v, Go.Lib.parseIntB 64 s.data.toList = .ok v
      · obtain ⟨v, hv⟩ := hok
        have hne : Go.Lib.itoa v ≠ t.s := hpn v (HSL.out ▸ hv)
        have hv64 : i64ok v := by have := Go.Lib.parseIntB_bounds hv; unfold i64ok; omega
        have HPN : Hid (Calls Tryd.prog 86 #[.string s, .int .i64 10, .int .i64 64] w0 fun e w' => Below w0.heap.size w0 w' ∧ e = .returned (.tuple #[.int .i64 v, .nilIface])) := Lib.hid (HP.out.mono fun e w' h => ⟨h.1, by
          rcases h.2 with ⟨v', _, h2, h3⟩ | ⟨h2, _⟩
          · rw [hv] at h2; injection h2 with h2; rw [h2]; exact h3
          · exact absurd hv (h2 v)⟩)
        have HFI0 := Lib.hid (fun (W : World) (hW : Below w.heap.size w W) => formatInt_any (hE.below (hW.mono hE.size)).env v hv64)
        obtain ⟨s2, hs2e⟩ : ∃ s2 : ByteArray, s2 = ⟨(Go.Lib.itoa v).toArray⟩ := ⟨_, rfl⟩
        rw [← hs2e] at HFI0
        have HFI := Lib.hid HFI0.out
        clear HFI0
        have HQ : Hid ((s2.toList == s.toList) = false) := Lib.hid (by
          rw [beq_eq_false_iff_ne, ByteArray.toList_eq, ByteArray.toList_eq, HSL.out, hs2e]
          exact hne)
        clear HP hv hnum hne hs2e hpn hE0
        rw [hw0] at HPN
        clear hw0 hb0
        go_enter Tryd.func70, Tryd.ntmps70
        go_upto_region 2 with (go_at_call 86; refine (HPN.out).mono ?_; rintro e w1 ⟨hb1, rfl⟩)
        have c0 : w1.cell? ⟨b, 0, none⟩ = some (.int .i64 c) := HX.out w1 (((Below.refl _ _).alloc (Nat.le_refl _) _).trans (hb1.mono (by simp)))
        have k0 : w1.cell? ⟨w.heap.size, 0, none⟩ = some (.string s) := (hb1.cell (p := ⟨w.heap.size, 0, none⟩) (by simp)).trans (((Blk.new w _ _).cell 0).trans rfl)
        have k1 : w1.cell? ⟨w.heap.size, 1, none⟩ = some (.int .i64 t.pos) := (hb1.cell (p := ⟨w.heap.size, 1, none⟩) (by simp)).trans (((Blk.new w _ _).cell 1).trans rfl)
        have hz1 : w.heap.size < w1.heap.size := by have := hb1.size; simp at this; omega
        have hz2 : b < w1.heap.size := by omega
        have KB1 : Hid (Blk w1 w.heap.size 71 #[.string s, .int .i64 t.pos]) := Lib.hid ((Blk.new w _ _).below hb1 (by simp))
        have HB1 : Hid (Below w.heap.size w w1) := Lib.hid (((Below.refl _ _).alloc (Nat.le_refl _) _).trans (hb1.mono (by simp)))
        clear hb1
        go_cut [23] from 24 to 65 (fun q wc => q = .bool true ∧ Below w.heap.size w wc ∧ Below w1.heap.size w1 wc)
        case first =>
          go_region_with (go_at_call 22; refine (HFI.out _ (by first | exact HB1.out | exact HB1.out.drew)).mono ?_; rintro e w2 ⟨rfl, hb2⟩; have k0 : w2.cell? ⟨w.heap.size, 0, none⟩ = some (.string s) := (hb2.cell (p := ⟨w.heap.size, 0, none⟩) hz1).trans k0; have hz3 : w.heap.size < w2.heap.size := Nat.lt_of_lt_of_le hz1 hb2.size)
          all_goals (go_wp2_with fail)
          all_goals go_meet
          all_goals (refine ⟨?_, HB1.out.drew.trans (hb2.mono (Nat.le_of_lt hz1)), (Below.refl _ _).drew.trans hb2⟩)
          all_goals (show Value.bool (!(s2.toList == s.toList)) = _; rw [HQ.out]; rfl)
        case rest =>
          obtain ⟨rfl, hbc, hbd⟩ := hcut
          have c0 : wc.cell? ⟨b, 0, none⟩ = some (.int .i64 c) := HX.out wc hbc
          have k0 : wc.cell? ⟨w.heap.size, 0, none⟩ = some (.string s) := (hbd.cell (p := ⟨w.heap.size, 0, none⟩) hz1).trans k0
          have k1 : wc.cell? ⟨w.heap.size, 1, none⟩ = some (.int .i64 t.pos) := (hbd.cell (p := ⟨w.heap.size, 1, none⟩) hz1).trans k1
          have hz3 : w.heap.size < wc.heap.size := Nat.lt_of_lt_of_le hz1 hbd.size
          have hz4 : b < wc.heap.size := by omega
          have KB := Lib.hid (KB1.out.below hbd hz1)
          have HB1 := Lib.hid hbc
          clear hbc hbd
          go_wp2_with (first | (go_at_call 18; refine (HL.out _).mono ?_; rintro r w2 ⟨hr, hw⟩; subst hr; subst hw) | (go_at_call 48; refine (HNM.out _).mono ?_; rintro r w2 ⟨hr, hw⟩; subst hr; subst hw) | (go_at_call 32; refine (fail_any _ _ _).mono ?_; rintro r w2 ⟨hr, hw⟩; subst hr; subst hw))
          refine ⟨rfl, Frm.of_below (by first | exact HB1.out | exact below_drewN HB1.out _), ?_⟩
          rw [HO.out]
          rfl
      · have HPN : Hid (Calls Tryd.prog 86 #[.string s, .int .i64 10, .int .i64 64] w0 fun e w' => Below w0.heap.size w0 w' ∧ ∃ v N, e = .returned (.tuple #[.int .i64 v, .iface 171 (.pointer (some ⟨N, 0, none⟩))])) := Lib.hid (HP.out.mono fun e w' h => ⟨h.1, by
          rcases h.2 with ⟨v, _, h2, _⟩ | ⟨_, v, N, h2⟩
          · exact absurd ⟨v, h2⟩ hok
          · exact ⟨v, N, h2⟩⟩)
        clear HP hok hnum hpn hE0
        rw [hw0] at HPN
        clear hw0 hb0
        go_enter Tryd.func70, Tryd.ntmps70
        go_upto_region 2 with (go_at_call 86; refine (HPN.out).mono ?_; rintro e w1 ⟨hb1, v, N, rfl⟩)
        have c0 : w1.cell? ⟨b, 0, none⟩ = some (.int .i64 c) := HX.out w1 (((Below.refl _ _).alloc (Nat.le_refl _) _).trans (hb1.mono (by simp)))
        have k0 : w1.cell? ⟨w.heap.size, 0, none⟩ = some (.string s) := (hb1.cell (p := ⟨w.heap.size, 0, none⟩) (by simp)).trans (((Blk.new w _ _).cell 0).trans rfl)
        have k1 : w1.cell? ⟨w.heap.size, 1, none⟩ = some (.int .i64 t.pos) := (hb1.cell (p := ⟨w.heap.size, 1, none⟩) (by simp)).trans (((Blk.new w _ _).cell 1).trans rfl)
        have hz1 : w.heap.size < w1.heap.size := by have := hb1.size; simp at this; omega
        have hz2 : b < w1.heap.size := by omega
        have KB1 : Hid (Blk w1 w.heap.size 71 #[.string s, .int .i64 t.pos]) := Lib.hid ((Blk.new w _ _).below hb1 (by simp))
        have HB1 : Hid (Below w.heap.size w w1) := Lib.hid (((Below.refl _ _).alloc (Nat.le_refl _) _).trans (hb1.mono (by simp)))
        clear hb1
        go_quiet (fail)
        go_wp2_with (first | (go_at_call 18; refine (HL.out _).mono ?_; rintro r w2 ⟨hr, hw⟩; subst hr; subst hw) | (go_at_call 48; refine (HNM.out _).mono ?_; rintro r w2 ⟨hr, hw⟩; subst hr; subst hw) | (go_at_call 32; refine (fail_any _ _ _).mono ?_; rintro r w2 ⟨hr, hw⟩; subst hr; subst hw))
        refine ⟨rfl, Frm.of_below (by first | exact HB1.out | exact below_drewN HB1.out _), ?_⟩
        rw [HO.out]
        rfl
    · have HO : Hid (oprL c t = .ok (0, t)) := Lib.hid (by unfold oprL; rw [hnum]; simp [hl, hnm])
      have HNM0 := Lib.hid (fun W => named_any s (by omega) W)
      rw [HSL.out, hnm] at HNM0
      have HNM := Lib.hid HNM0.out
      clear hl hnm HNM0
      by_cases hok : ∃ v, Go.Lib.parseIntB 64 s.data.toList = .ok v
      · obtain ⟨v, hv⟩ := hok
        have hne : Go.Lib.itoa v ≠ t.s := hpn v (HSL.out ▸ hv)
        have hv64 : i64ok v := by have := Go.Lib.parseIntB_bounds hv; unfold i64ok; omega
        have HPN : Hid (Calls Tryd.prog 86 #[.string s, .int .i64 10, .int .i64 64] w0 fun e w' => Below w0.heap.size w0 w' ∧ e = .returned (.tuple #[.int .i64 v, .nilIface])) := Lib.hid (HP.out.mono fun e w' h => ⟨h.1, by
          rcases h.2 with ⟨v', _, h2, h3⟩ | ⟨h2, _⟩
          · rw [hv] at h2; injection h2 with h2; rw [h2]; exact h3
          · exact absurd hv (h2 v)⟩)
        have HFI0 := Lib.hid (fun (W : World) (hW : Below w.heap.size w W) => formatInt_any (hE.below (hW.mono hE.size)).env v hv64)
        obtain ⟨s2, hs2e⟩ : ∃ s2 : ByteArray, s2 = ⟨(Go.Lib.itoa v).toArray⟩ := ⟨_, rfl⟩
        rw [← hs2e] at HFI0
        have HFI := Lib.hid HFI0.out
        clear HFI0
        have HQ : Hid ((s2.toList == s.toList) = false) := Lib.hid (by
          rw [beq_eq_false_iff_ne, ByteArray.toList_eq, ByteArray.toList_eq, HSL.out, hs2e]
          exact hne)
        clear HP hv hnum hne hs2e hpn hE0
        rw [hw0] at HPN
        clear hw0 hb0
        go_enter Tryd.func70, Tryd.ntmps70
        go_upto_region 2 with (go_at_call 86; refine (HPN.out).mono ?_; rintro e w1 ⟨hb1, rfl⟩)
        have c0 : w1.cell? ⟨b, 0, none⟩ = some (.int .i64 c) := HX.out w1 (((Below.refl _ _).alloc (Nat.le_refl _) _).trans (hb1.mono (by simp)))
        have k0 : w1.cell? ⟨w.heap.size, 0, none⟩ = some (.string s) := (hb1.cell (p := ⟨w.heap.size, 0, none⟩) (by simp)).trans (((Blk.new w _ _).cell 0).trans rfl)
        have k1 : w1.cell? ⟨w.heap.size, 1, none⟩ = some (.int .i64 t.pos) := (hb1.cell (p := ⟨w.heap.size, 1, none⟩) (by simp)).trans (((Blk.new w _ _).cell 1).trans rfl)
        have hz1 : w.heap.size < w1.heap.size := by have := hb1.size; simp at this; omega
        have hz2 : b < w1.heap.size := by omega
        have KB1 : Hid (Blk w1 w.heap.size 71 #[.string s, .int .i64 t.pos]) := Lib.hid ((Blk.new w _ _).below hb1 (by simp))
        have HB1 : Hid (Below w.heap.size w w1) := Lib.hid (((Below.refl _ _).alloc (Nat.le_refl _) _).trans (hb1.mono (by simp)))
        clear hb1
        go_cut [23] from 24 to 65 (fun q wc => q = .bool true ∧ Below w.heap.size w wc ∧ Below w1.heap.size w1 wc)
        case first =>
          go_region_with (go_at_call 22; refine (HFI.out _ (by first | exact HB1.out | exact HB1.out.drew)).mono ?_; rintro e w2 ⟨rfl, hb2⟩; have k0 : w2.cell? ⟨w.heap.size, 0, none⟩ = some (.string s) := (hb2.cell (p := ⟨w.heap.size, 0, none⟩) hz1).trans k0; have hz3 : w.heap.size < w2.heap.size := Nat.lt_of_lt_of_le hz1 hb2.size)
          all_goals (go_wp2_with fail)
          all_goals go_meet
          all_goals (refine ⟨?_, HB1.out.drew.trans (hb2.mono (Nat.le_of_lt hz1)), (Below.refl _ _).drew.trans hb2⟩)
          all_goals (show Value.bool (!(s2.toList == s.toList)) = _; rw [HQ.out]; rfl)
        case rest =>
          obtain ⟨rfl, hbc, hbd⟩ := hcut
          have c0 : wc.cell? ⟨b, 0, none⟩ = some (.int .i64 c) := HX.out wc hbc
          have k0 : wc.cell? ⟨w.heap.size, 0, none⟩ = some (.string s) := (hbd.cell (p := ⟨w.heap.size, 0, none⟩) hz1).trans k0
          have k1 : wc.cell? ⟨w.heap.size, 1, none⟩ = some (.int .i64 t.pos) := (hbd.cell (p := ⟨w.heap.size, 1, none⟩) hz1).trans k1
          have hz3 : w.heap.size < wc.heap.size := Nat.lt_of_lt_of_le hz1 hbd.size
          have hz4 : b < wc.heap.size := by omega
          have KB := Lib.hid (KB1.out.below hbd hz1)
          have HB1 := Lib.hid hbc
          clear hbc hbd
          have HBX := HX2.out wc HB1.out
          have x3 : (wc).cell? ⟨b, 3, none⟩ = some (.string ⟨#[]⟩) := (HBX.cell 3).trans rfl
          have x4 : (wc).cell? ⟨b, 4, none⟩ = some (.int .i64 0) := (HBX.cell 4).trans rfl
          have f3 : (wc).frozen? ⟨b, 3, none⟩ = false := HBX.frozen 3
          have f4 : (wc).frozen? ⟨b, 4, none⟩ = false := HBX.frozen 4
          have HBY := Lib.hid HBX
          clear HBX
          go_wp2_with (first | (go_at_call 18; refine (HL.out _).mono ?_; rintro r w2 ⟨hr, hw⟩; subst hr; subst hw) | (go_at_call 48; refine (HNM.out _).mono ?_; rintro r w2 ⟨hr, hw⟩; subst hr; subst hw) | (go_at_call 32; refine (fail_any _ _ _).mono ?_; rintro r w2 ⟨hr, hw⟩; subst hr; subst hw))
          go_end0
          refine ⟨by first | exact ((Frm.of_below (S := fun q => q = b) HB1.out).set b 3 _ (.inl rfl)).set b 4 _ (.inl rfl) | exact ((Frm.of_below (S := fun q => q = b) (below_drewN HB1.out _)).set b 3 _ (.inl rfl)).set b 4 _ (.inl rfl), ?_⟩
          rw [HO.out]
          refine ⟨rfl, ?_⟩
          have := ((HBY.out.drewN 0).set_ 3 (.string s)).set_ 4 (.int .i64 t.pos)
          rw [HS.out] at this ⊢
          exact this
      · have HPN : Hid (Calls Tryd.prog 86 #[.string s, .int .i64 10, .int .i64 64] w0 fun e w' => Below w0.heap.size w0 w' ∧ ∃ v N, e = .returned (.tuple #[.int .i64 v, .iface 171 (.pointer (some ⟨N, 0, none⟩))])) := Lib.hid (HP.out.mono fun e w' h => ⟨h.1, by
          rcases h.2 with ⟨v, _, h2, _⟩ | ⟨_, v, N, h2⟩
          · exact absurd ⟨v, h2⟩ hok
          · exact ⟨v, N, h2⟩⟩)
        clear HP hok hnum hpn hE0
        rw [hw0] at HPN
        clear hw0 hb0
        go_enter Tryd.func70, Tryd.ntmps70
        go_upto_region 2 with (go_at_call 86; refine (HPN.out).mono ?_; rintro e w1 ⟨hb1, v, N, rfl⟩)
        have c0 : w1.cell? ⟨b, 0, none⟩ = some (.int .i64 c) := HX.out w1 (((Below.refl _ _).alloc (Nat.le_refl _) _).trans (hb1.mono (by simp)))
        have k0 : w1.cell? ⟨w.heap.size, 0, none⟩ = some (.string s) := (hb1.cell (p := ⟨w.heap.size, 0, none⟩) (by simp)).trans (((Blk.new w _ _).cell 0).trans rfl)
        have k1 : w1.cell? ⟨w.heap.size, 1, none⟩ = some (.int .i64 t.pos) := (hb1.cell (p := ⟨w.heap.size, 1, none⟩) (by simp)).trans (((Blk.new w _ _).cell 1).trans rfl)
        have hz1 : w.heap.size < w1.heap.size := by have := hb1.size; simp at this; omega
        have hz2 : b < w1.heap.size := by omega
        have KB1 : Hid (Blk w1 w.heap.size 71 #[.string s, .int .i64 t.pos]) := Lib.hid ((Blk.new w _ _).below hb1 (by simp))
        have HB1 : Hid (Below w.heap.size w w1) := Lib.hid (((Below.refl _ _).alloc (Nat.le_refl _) _).trans (hb1.mono (by simp)))
        clear hb1
        go_quiet (fail)
        have HBX := HX2.out w1 HB1.out
        have x3 : (w1).cell? ⟨b, 3, none⟩ = some (.string ⟨#[]⟩) := (HBX.cell 3).trans rfl
        have x4 : (w1).cell? ⟨b, 4, none⟩ = some (.int .i64 0) := (HBX.cell 4).trans rfl
        have f3 : (w1).frozen? ⟨b, 3, none⟩ = false := HBX.frozen 3
        have f4 : (w1).frozen? ⟨b, 4, none⟩ = false := HBX.frozen 4
        have HBY := Lib.hid HBX
        clear HBX
        go_wp2_with (first | (go_at_call 18; refine (HL.out _).mono ?_; rintro r w2 ⟨hr, hw⟩; subst hr; subst hw) | (go_at_call 48; refine (HNM.out _).mono ?_; rintro r w2 ⟨hr, hw⟩; subst hr; subst hw) | (go_at_call 32; refine (fail_any _ _ _).mono ?_; rintro r w2 ⟨hr, hw⟩; subst hr; subst hw))
        go_end0
        refine ⟨by first | exact ((Frm.of_below (S := fun q => q = b) HB1.out).set b 3 _ (.inl rfl)).set b 4 _ (.inl rfl) | exact ((Frm.of_below (S := fun q => q = b) (below_drewN HB1.out _)).set b 3 _ (.inl rfl)).set b 4 _ (.inl rfl), ?_⟩
        rw [HO.out]
        refine ⟨rfl, ?_⟩
        have := ((HBY.out.drewN nq).set_ 3 (.string s)).set_ 4 (.int .i64 t.pos)
        rw [HS.out] at this ⊢
        exact this
end Go.Proofs.YthghnihlfdoefaaDoor

/- asm's operand: a number. -/
namespace Go.Proofs.YthghnihlfdoefaaDoor
open Go.RowKit Go.Joins Go.ChangeShapes Go.WideShapes Go.Deep
set_option linter.unusedVariables false
set_option linter.unusedSimpArgs false
set_option maxRecDepth 100000

set_option maxHeartbeats 4000000 in
theorem operand_some {B : Nat} {w : World} (hE : EnvP B w) (c : Nat) (hc : c < 41) (p : Nat) (t : Tok) (ht : t.s.length ≤ 4294967296) (b : Nat) (hb : Blk w b 73 (insC c 0 p noTok)) (n : Int) (hbB : B ≤ b) (hnum : numF t.s = some n) :
    Calls Tryd.prog 70 #[.pointer (some ⟨b, 0, none⟩), .agg #[.string ⟨t.s.toArray⟩, .int .i64 t.pos]] w (OprPost w b c p t) := by
  obtain ⟨s, hs⟩ : ∃ s : ByteArray, s = ⟨t.s.toArray⟩ := ⟨_, rfl⟩
  have hsl : s.data.toList = t.s := by rw [hs]
  have hsz : s.size = t.s.length := by rw [hs]; show t.s.toArray.size = _; simp
  obtain ⟨w0, hw0⟩ : ∃ w0, w0 = w.alloc (.cells #[.string s, .int .i64 t.pos] 71) := ⟨_, rfl⟩
  have hb0 : Below w.heap.size w w0 := hw0 ▸ (Below.refl _ _).alloc (Nat.le_refl _) _
  have hE0 := hE.below (hb0.mono hE.size)
  have HP := Lib.hid (pint_any hE0 s (by omega))
  rw [← hs]
  have HS := Lib.hid hs
  have HSL := Lib.hid hsl
  have hsl' : s.data.toList = t.s := hsl
  have hsz2 : s.size ≤ 4294967296 := by omega
  clear hs hsl hsz
  have hblt := hb.lt
  have hx0 : ∀ (W : World), Below w.heap.size w W → W.cell? ⟨b, 0, none⟩ = some (.int .i64 c) := fun W h => (h.cell (p := ⟨b, 0, none⟩) hblt).trans ((hb.cell 0).trans rfl)
  have HX := Lib.hid hx0
  have HX2 : Hid (∀ (W : World), Below w.heap.size w W → Blk W b 73 (insC c 0 p noTok)) := Lib.hid fun W h => hb.below h hblt
  clear hx0
  have hpn := (prog_num t.s n).2 hnum
  have hv : Go.Lib.parseIntB 64 s.data.toList = .ok n := by rw [hsl']; exact hpn.1
  obtain ⟨v, hvn⟩ : ∃ v, v = n := ⟨_, rfl⟩
  rw [← hvn] at hv hpn hnum
  have hv64 : i64ok v := by have := Go.Lib.parseIntB_bounds hv; unfold i64ok; omega
  have HPN : Hid (Calls Tryd.prog 86 #[.string s, .int .i64 10, .int .i64 64] w0 fun e w' => Below w0.heap.size w0 w' ∧ e = .returned (.tuple #[.int .i64 v, .nilIface])) := Lib.hid (HP.out.mono fun e w' h => ⟨h.1, by
    rcases h.2 with ⟨v', _, h2, h3⟩ | ⟨h2, _⟩
    · rw [hv] at h2; injection h2 with h2; rw [h2]; exact h3
    · exact absurd hv (h2 v)⟩)
  have HFI0 := Lib.hid (fun (W : World) (hW : Below w.heap.size w W) => formatInt_any (hE.below (hW.mono hE.size)).env v hv64)
  obtain ⟨s2, hs2e⟩ : ∃ s2 : ByteArray, s2 = ⟨(Go.Lib.itoa v).toArray⟩ := ⟨_, rfl⟩
  rw [← hs2e] at HFI0
  have HFI := Lib.hid HFI0.out
  clear HFI0
  have HQ : Hid ((s2.toList == s.toList) = true) := Lib.hid (by
    rw [beq_iff_eq, ByteArray.toList_eq, ByteArray.toList_eq, HSL.out, hs2e]
    exact hpn.2)
  cases hf : fitsF (shapeF c) v
  · have HO : Hid (oprL c t = .error 12) := Lib.hid (by unfold oprL; rw [hnum]; simp [hf])
    have HENC : Hid (∀ W, ShapesAt W → Calls Tryd.prog 33 #[.slice (some ⟨W.heap.size, 0, none⟩) 1 1] (W.alloc (.cells #[.int .i64 c, .int .i64 v] 36)) fun e w' => e = .returned (.tuple #[.string ⟨#[]⟩, .int .i64 12, .int .i64 0]) ∧ Below (W.heap.size + 1) (W.alloc (.cells #[.int .i64 c, .int .i64 v] 36)) w') := Lib.hid fun W hS => by
      have := enc_no c v W.heap.size 1 1 (W.alloc (.cells #[.int .i64 c, .int .i64 v] 36)) (hS.below ((Below.refl _ _).alloc (Nat.le_refl _) _) hS.lt) ((reads_lit W c v).more (by simp)) hc hf
      simpa using this
    clear HP hv hnum hs2e hpn hE0 hf hvn
    rw [hw0] at HPN
    clear hw0 hb0
    go_enter Tryd.func70, Tryd.ntmps70
    go_upto_region 2 with (go_at_call 86; refine (HPN.out).mono ?_; rintro e w1 ⟨hb1, rfl⟩)
    have c0 : w1.cell? ⟨b, 0, none⟩ = some (.int .i64 c) := HX.out w1 (((Below.refl _ _).alloc (Nat.le_refl _) _).trans (hb1.mono (by simp)))
    have k0 : w1.cell? ⟨w.heap.size, 0, none⟩ = some (.string s) := (hb1.cell (p := ⟨w.heap.size, 0, none⟩) (by simp)).trans (((Blk.new w _ _).cell 0).trans rfl)
    have k1 : w1.cell? ⟨w.heap.size, 1, none⟩ = some (.int .i64 t.pos) := (hb1.cell (p := ⟨w.heap.size, 1, none⟩) (by simp)).trans (((Blk.new w _ _).cell 1).trans rfl)
    have hz1 : w.heap.size < w1.heap.size := by have := hb1.size; simp at this; omega
    have hz2 : b < w1.heap.size := by omega
    have KB1 : Hid (Blk w1 w.heap.size 71 #[.string s, .int .i64 t.pos]) := Lib.hid ((Blk.new w _ _).below hb1 (by simp))
    have HB1 : Hid (Below w.heap.size w w1) := Lib.hid (((Below.refl _ _).alloc (Nat.le_refl _) _).trans (hb1.mono (by simp)))
    clear hb1
    go_cut [23] from 24 to 65 (fun q wc => q = .bool false ∧ Below w.heap.size w wc ∧ Below w1.heap.size w1 wc)
    case first =>
      go_region_with (go_at_call 22; refine (HFI.out _ (by first | exact HB1.out | exact HB1.out.drew)).mono ?_; rintro e w2 ⟨rfl, hb2⟩; have k0 : w2.cell? ⟨w.heap.size, 0, none⟩ = some (.string s) := (hb2.cell (p := ⟨w.heap.size, 0, none⟩) hz1).trans k0; have hz3 : w.heap.size < w2.heap.size := Nat.lt_of_lt_of_le hz1 hb2.size)
      all_goals (go_wp2_with fail)
      all_goals go_meet
      all_goals (refine ⟨?_, HB1.out.drew.trans (hb2.mono (Nat.le_of_lt hz1)), (Below.refl _ _).drew.trans hb2⟩)
      all_goals (show Value.bool (!(s2.toList == s.toList)) = _; rw [HQ.out]; rfl)
    case rest =>
      obtain ⟨rfl, hbc, hbd⟩ := hcut
      have c0 : wc.cell? ⟨b, 0, none⟩ = some (.int .i64 c) := HX.out wc hbc
      have k0 : wc.cell? ⟨w.heap.size, 0, none⟩ = some (.string s) := (hbd.cell (p := ⟨w.heap.size, 0, none⟩) hz1).trans k0
      have k1 : wc.cell? ⟨w.heap.size, 1, none⟩ = some (.int .i64 t.pos) := (hbd.cell (p := ⟨w.heap.size, 1, none⟩) hz1).trans k1
      have hz3 : w.heap.size < wc.heap.size := Nat.lt_of_lt_of_le hz1 hbd.size
      have hz4 : b < wc.heap.size := by omega
      have KB := Lib.hid (KB1.out.below hbd hz1)
      have HB1 := Lib.hid hbc
      clear hbc hbd
      have HBX := HX2.out wc HB1.out
      have x1 : (wc).cell? ⟨b, 1, none⟩ = some (.int .i64 0) := (HBX.cell 1).trans rfl
      have f1 : (wc).frozen? ⟨b, 1, none⟩ = false := HBX.frozen 1
      have HBY := Lib.hid HBX
      have HSX := Lib.hid ((hE.below (HB1.out.mono hE.size)).env.below (((Below.refl B _).setCell hbB (.int .i64 v) : Below B wc ((wc).setCell ⟨b, 1, none⟩ (.int .i64 v)))) (Nat.le_refl _)).here.shapes
      clear HBX
      go_upto_region 7 with fail
      obtain ⟨W1, hW1⟩ : ∃ W1, W1 = (wc).setCell ⟨b, 1, none⟩ (.int .i64 v) := ⟨_, rfl⟩
      rw [← hW1] at HSX ⊢
      have HBZ : Blk W1 b 73 (insC c v p noTok) := hW1 ▸ HBY.out.set_ 1 (.int .i64 v)
      have hzs : W1.heap.size = (wc).heap.size := by rw [hW1]; simp [World.setCell]
      have KBZ : Blk W1 w.heap.size 71 #[.string s, .int .i64 t.pos] := hW1 ▸ KB.out.far (p := ⟨b, 1, none⟩) (Nat.ne_of_gt hblt) _
      have k1x : W1.cell? ⟨w.heap.size, 1, none⟩ = some (.int .i64 t.pos) := (KBZ.cell 1).trans rfl
      have y0 : W1.cell? ⟨b, 0, none⟩ = some (.int .i64 c) := (HBZ.cell 0).trans rfl
      have y1 : W1.cell? ⟨b, 1, none⟩ = some (.int .i64 v) := (HBZ.cell 1).trans rfl
      have hz5 : w.heap.size < W1.heap.size := by omega
      have hz6 : b < W1.heap.size := by omega
      have HF1 : Hid (Frm w W1 (fun q => q = b)) := Lib.hid (hW1 ▸ (Frm.of_below (S := fun q => q = b) HB1.out).set b 1 _ (.inl rfl))
      have HEN1 := Lib.hid (HENC.out W1 HSX.out)
      have HBW := Lib.hid HBZ
      clear hW1 hzs c0 k0 k1 x1 f1 hz3 hz4 KBZ HBZ
      go_wp2_with (first | (go_at_call 33; refine HEN1.out.mono ?_; rintro e w3 ⟨rfl, hb3⟩; have k1 : w3.cell? ⟨w.heap.size, 1, none⟩ = some (.int .i64 t.pos) := (hb3.cell (p := ⟨w.heap.size, 1, none⟩) (Nat.lt_succ_of_lt hz5)).trans ((((Below.refl _ _).alloc (Nat.le_refl _) _).cell (p := ⟨w.heap.size, 1, none⟩) hz5).trans k1x); have hb4 : Below W1.heap.size W1 w3 := ((Below.refl _ _).alloc (Nat.le_refl _) _).trans (hb3.mono (Nat.le_succ _)); have HF4 : Frm w w3 (fun q => q = b) := HF1.out.trans (Frm.of_below (S := fun _ => False) hb4) (fun q hq => hq.elim)) | (go_at_call 32; refine (fail_any _ _ _).mono ?_; rintro r w2 ⟨hr, hw⟩; subst hr; subst hw))
      refine ⟨rfl, HF4, ?_⟩
      rw [HO.out]
      rfl
  · have HO : Hid (oprL c t = .ok (v, noTok)) := Lib.hid (by unfold oprL; rw [hnum]; simp [hf])
    have HENC : Hid (∀ W, ShapesAt W → Calls Tryd.prog 33 #[.slice (some ⟨W.heap.size, 0, none⟩) 1 1] (W.alloc (.cells #[.int .i64 c, .int .i64 v] 36)) fun e w' => e = .returned (.tuple #[.string ⟨(bytesOf [⟨c, v⟩]).toArray⟩, .int .i64 0, .int .i64 0]) ∧ Below (W.heap.size + 1) (W.alloc (.cells #[.int .i64 c, .int .i64 v] 36)) w') := Lib.hid fun W hS => by
      have := enc_ok [⟨c, v⟩] (some ⟨W.heap.size, 0, none⟩) 1 1 (W.alloc (.cells #[.int .i64 c, .int .i64 v] 36)) (hS.below ((Below.refl _ _).alloc (Nat.le_refl _) _) hS.lt) ((reads_lit W c v).more (by simp)) (by decide)
        (by intro o ho; obtain rfl := List.mem_singleton.1 ho; exact ⟨hc, hf⟩) (by simp [bytesOf, encB_length]; unfold widthF; split <;> (try split) <;> (try split) <;> omega)
      simpa using this
    clear HP hv hnum hs2e hpn hE0 hf hvn
    rw [hw0] at HPN
    clear hw0 hb0
    go_enter Tryd.func70, Tryd.ntmps70
    go_upto_region 2 with (go_at_call 86; refine (HPN.out).mono ?_; rintro e w1 ⟨hb1, rfl⟩)
    have c0 : w1.cell? ⟨b, 0, none⟩ = some (.int .i64 c) := HX.out w1 (((Below.refl _ _).alloc (Nat.le_refl _) _).trans (hb1.mono (by simp)))
    have k0 : w1.cell? ⟨w.heap.size, 0, none⟩ = some (.string s) := (hb1.cell (p := ⟨w.heap.size, 0, none⟩) (by simp)).trans (((Blk.new w _ _).cell 0).trans rfl)
    have k1 : w1.cell? ⟨w.heap.size, 1, none⟩ = some (.int .i64 t.pos) := (hb1.cell (p := ⟨w.heap.size, 1, none⟩) (by simp)).trans (((Blk.new w _ _).cell 1).trans rfl)
    have hz1 : w.heap.size < w1.heap.size := by have := hb1.size; simp at this; omega
    have hz2 : b < w1.heap.size := by omega
    have KB1 : Hid (Blk w1 w.heap.size 71 #[.string s, .int .i64 t.pos]) := Lib.hid ((Blk.new w _ _).below hb1 (by simp))
    have HB1 : Hid (Below w.heap.size w w1) := Lib.hid (((Below.refl _ _).alloc (Nat.le_refl _) _).trans (hb1.mono (by simp)))
    clear hb1
    go_cut [23] from 24 to 65 (fun q wc => q = .bool false ∧ Below w.heap.size w wc ∧ Below w1.heap.size w1 wc)
    case first =>
      go_region_with (go_at_call 22; refine (HFI.out _ (by first | exact HB1.out | exact HB1.out.drew)).mono ?_; rintro e w2 ⟨rfl, hb2⟩; have k0 : w2.cell? ⟨w.heap.size, 0, none⟩ = some (.string s) := (hb2.cell (p := ⟨w.heap.size, 0, none⟩) hz1).trans k0; have hz3 : w.heap.size < w2.heap.size := Nat.lt_of_lt_of_le hz1 hb2.size)
      all_goals (go_wp2_with fail)
      all_goals go_meet
      all_goals (refine ⟨?_, HB1.out.drew.trans (hb2.mono (Nat.le_of_lt hz1)), (Below.refl _ _).drew.trans hb2⟩)
      all_goals (show Value.bool (!(s2.toList == s.toList)) = _; rw [HQ.out]; rfl)
    case rest =>
      obtain ⟨rfl, hbc, hbd⟩ := hcut
      have c0 : wc.cell? ⟨b, 0, none⟩ = some (.int .i64 c) := HX.out wc hbc
      have k0 : wc.cell? ⟨w.heap.size, 0, none⟩ = some (.string s) := (hbd.cell (p := ⟨w.heap.size, 0, none⟩) hz1).trans k0
      have k1 : wc.cell? ⟨w.heap.size, 1, none⟩ = some (.int .i64 t.pos) := (hbd.cell (p := ⟨w.heap.size, 1, none⟩) hz1).trans k1
      have hz3 : w.heap.size < wc.heap.size := Nat.lt_of_lt_of_le hz1 hbd.size
      have hz4 : b < wc.heap.size := by omega
      have KB := Lib.hid (KB1.out.below hbd hz1)
      have HB1 := Lib.hid hbc
      clear hbc hbd
      have HBX := HX2.out wc HB1.out
      have x1 : (wc).cell? ⟨b, 1, none⟩ = some (.int .i64 0) := (HBX.cell 1).trans rfl
      have f1 : (wc).frozen? ⟨b, 1, none⟩ = false := HBX.frozen 1
      have HBY := Lib.hid HBX
      have HSX := Lib.hid ((hE.below (HB1.out.mono hE.size)).env.below (((Below.refl B _).setCell hbB (.int .i64 v) : Below B wc ((wc).setCell ⟨b, 1, none⟩ (.int .i64 v)))) (Nat.le_refl _)).here.shapes
      clear HBX
      go_upto_region 7 with fail
      obtain ⟨W1, hW1⟩ : ∃ W1, W1 = (wc).setCell ⟨b, 1, none⟩ (.int .i64 v) := ⟨_, rfl⟩
      rw [← hW1] at HSX ⊢
      have HBZ : Blk W1 b 73 (insC c v p noTok) := hW1 ▸ HBY.out.set_ 1 (.int .i64 v)
      have hzs : W1.heap.size = (wc).heap.size := by rw [hW1]; simp [World.setCell]
      have KBZ : Blk W1 w.heap.size 71 #[.string s, .int .i64 t.pos] := hW1 ▸ KB.out.far (p := ⟨b, 1, none⟩) (Nat.ne_of_gt hblt) _
      have k1x : W1.cell? ⟨w.heap.size, 1, none⟩ = some (.int .i64 t.pos) := (KBZ.cell 1).trans rfl
      have y0 : W1.cell? ⟨b, 0, none⟩ = some (.int .i64 c) := (HBZ.cell 0).trans rfl
      have y1 : W1.cell? ⟨b, 1, none⟩ = some (.int .i64 v) := (HBZ.cell 1).trans rfl
      have hz5 : w.heap.size < W1.heap.size := by omega
      have hz6 : b < W1.heap.size := by omega
      have HF1 : Hid (Frm w W1 (fun q => q = b)) := Lib.hid (hW1 ▸ (Frm.of_below (S := fun q => q = b) HB1.out).set b 1 _ (.inl rfl))
      have HEN1 := Lib.hid (HENC.out W1 HSX.out)
      have HBW := Lib.hid HBZ
      clear hW1 hzs c0 k0 k1 x1 f1 hz3 hz4 KBZ HBZ
      go_wp2_with (first | (go_at_call 33; refine HEN1.out.mono ?_; rintro e w3 ⟨rfl, hb3⟩; have k1 : w3.cell? ⟨w.heap.size, 1, none⟩ = some (.int .i64 t.pos) := (hb3.cell (p := ⟨w.heap.size, 1, none⟩) (Nat.lt_succ_of_lt hz5)).trans ((((Below.refl _ _).alloc (Nat.le_refl _) _).cell (p := ⟨w.heap.size, 1, none⟩) hz5).trans k1x); have hb4 : Below W1.heap.size W1 w3 := ((Below.refl _ _).alloc (Nat.le_refl _) _).trans (hb3.mono (Nat.le_succ _)); have HF4 : Frm w w3 (fun q => q = b) := HF1.out.trans (Frm.of_below (S := fun _ => False) hb4) (fun q hq => hq.elim)) | (go_at_call 32; refine (fail_any _ _ _).mono ?_; rintro r w2 ⟨hr, hw⟩; subst hr; subst hw))
      go_end0
      refine ⟨HF4, ?_⟩
      rw [HO.out]
      exact ⟨rfl, HBW.out.below hb4 hz6⟩
theorem operand_asm {B : Nat} {w : World} (hE : EnvP B w) (c : Nat) (hc : c < 41) (p : Nat) (t : Tok) (ht : t.s.length ≤ 4294967296) (b : Nat) (hbB : B ≤ b) (hb : Blk w b 73 (insC c 0 p noTok)) :
    Calls Tryd.prog 70 #[.pointer (some ⟨b, 0, none⟩), .agg #[.string ⟨t.s.toArray⟩, .int .i64 t.pos]] w (OprPost w b c p t) := by
  cases hnum : numF t.s with
  | none => exact operand_none hE c hc p t ht b hb hnum
  | some n => exact operand_some hE c hc p t ht b hb n hbB hnum
end Go.Proofs.YthghnihlfdoefaaDoor
