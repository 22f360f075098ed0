/- What 'done' does: a call, run over cells. -/
import Derived.Test.YtjggcidaolnmbaaDt
import Derived.Test.YtjggcidaolnmbaaDpl
import Derived.BigQuiet
import Derived.Deep.QuietTactic
namespace Go.Proofs.Ytjggcidaolnmbaa
open Go.RowKit Go.Joins Go.ChangeShapes Go.WideShapes Go.Deep
set_option linter.unusedVariables false
set_option maxRecDepth 100000

def DonePost (most call : Int) (args cs : List Int) (g b0 n cap : Nat) (w : World) : Ending → World → Prop := fun e w' =>
  ∃ (v code : Int) (cs' : List Int), runF 0 (2 * most.toNat + 6) cs (startF 0 most call args) 0 = ((v, code, true), cs') ∧ e = .returned (.tuple #[.int .i64 v, .int .i64 code, .bool true]) ∧
    w'.ownsRow b0 2 1 (.slice (some ⟨g, 0, none⟩) n cap) n (ints cs') ∧ w.grownBy w' (some g)

def DoneRel (most call : Int) (args cs : List Int) (g b0 n cap : Nat) (w : World) (mb : Nat) (gk : Nat) (v i : Value) (wr : World) : Prop :=
  ∃ (k : Nat) (read : List Int) (writes V : Int) (last : Want) (s : DS) (cs' : List Int), v = .int .i64 V ∧ i = .int .i64 k ∧ (k : Int) + gk = 2 * most + 6 ∧ rank s ≤ gk ∧ 0 < gk ∧ Sim 0 most call args read writes last s ∧
    MIs wr mb s (fun q => mb < q) ∧ wr.ownsRow b0 2 1 (.slice (some ⟨g, 0, none⟩) n cap) n (ints cs') ∧ runF 0 gk cs' s V = runF 0 (2 * most.toNat + 6) cs (startF 0 most call args) 0 ∧ w.grownBy wr (some g)

theorem grown_two {a w w' : World} {g mb : Nat} (h : a.grownBy w (some g)) (k : w.grownBy w' (some mb)) (hm : a.heap.size ≤ mb) : a.grownBy w' (some g) :=
  ⟨k.os.trans h.os, k.tape.trans h.tape, k.output.trans h.output, Nat.le_trans h.size k.size, fun i hi hn => (k.block i (Nat.lt_of_lt_of_le hi h.size) (fun e => by injection e with e; omega)).trans (h.block i hi hn)⟩

set_option maxHeartbeats 1000000 in
theorem drun_any (most call : Int) (args cs : List Int) (A : Option Addr) (na ca n cap g b0 : Nat) (w : World) (hna : na ≤ 9223372036854775807) (hA : Reads w w.heap.size 1 A na (ints args)) (hok : callOk 0 most call args)
    (hn : (n : Int) = 3 * most + 1) (hown : w.ownsRow b0 2 1 (.slice (some ⟨g, 0, none⟩) n cap) n (ints cs)) :
    Calls Try.prog 21 #[.slice (some ⟨g, 0, none⟩) n cap, .int .i64 0, .int .i64 most, .int .i64 call, .slice A na ca] w (DonePost most call args cs g b0 n cap w) := by
  have m0 := hok.2.2.1
  have m1 := hok.2.2.2.1
  have HOK := Lib.hid hok
  have HN := Lib.hid hn
  have hn49 : n ≤ 49 := by omega
  have hgl := (hown.lt g rfl).2
  clear hok hn
  go_enter Try.func21, Try.ntmps21
  go_wp2_with fail
  refine (new_yes 0 most call args A na ca w.heap.size _ hna (by exact hA) HOK.out).mono ?_
  rintro e w1 ⟨rfl, hM, hb1⟩
  have hs1 : w.heap.size < w1.heap.size := hM.lt
  have hown1 := hown.kept (only_of_below hb1 none) (by right; simp [Value.ownBlock])
  go_wp2_with fail
  go_loopg [15, 16] (2 * most.toNat + 6) (fun gk v i wr => DoneRel most call args cs g b0 n cap w w.heap.size gk v i wr)
  case atStart =>
    refine ⟨0, [], 0, 0, ⟨0, 0, 0, 0⟩, startF 0 most call args, cs, rfl, rfl, by omega, ?_, by omega, startF_sim HOK.out, MIs.more hM (fun _ h => h.elim), hown1, rfl, only_of_below hb1 _⟩
    rw [startF_rank]
    exact Nat.le_refl _
  case round =>
    obtain ⟨k, read, writes, V, last, s, cs', rfl, rfl, hkg, hrk, hgk, hsim, hMr, hownr, hrun, hgr⟩ := hrel
    have HS := Lib.hid hsim
    have HK := Lib.hid hkg
    have HRK := Lib.hid hrk
    have HRUN := Lib.hid hrun
    have hk5 : (k : Int) ≤ 2 * most + 5 := by omega
    have hlr := hMr.lt
    clear hkg hrk hsim hrun
    go_wp2_with fail
    refine (next_any w.heap.size s (fun q => w.heap.size < q ∧ q < wr.heap.size) V _ HS.out.ok HS.out.look (fun g hg => hg.2) (by exact hMr.bound)).mono ?_
    rintro e w2 ⟨x, s', hx, rfl, hM2, hg⟩
    have hst := step_sim HOK.out HS.out V
    have hrun2 := HRUN.out
    obtain ⟨g1, rfl⟩ : ∃ g1, gk = g1 + 1 := ⟨gk - 1, by omega⟩
    rw [runF_succ, hx] at hrun2
    rw [hx] at hst
    clear hx
    have hwok := hst.ok
    have hfin := hst.fin
    have hrk2 : rank s' + 1 ≤ g1 + 1 ∨ rank s' = 0 := by have h1 := hst.rk; have h2 := HRK.out; simp only at h1; omega
    have HST := Lib.hid hst
    clear hst
    simp only at hwok hfin
    have hM3 := hM2.more (S' := fun q => w.heap.size < q) (by rintro q (h | h); exact h.1; omega)
    have hown2 := hownr.kept hg (.inr (by simp [Value.ownBlock]; omega))
    have hg2 := grown_two hgr hg (Nat.le_refl _)
    have hs2 := hg.size
    have hzl : cs'.length = n := by have := hownr.1; simpa [ints] using this
    clear hM2 hM hown hown1 hg hMr hownr
    by_cases hx6 : x.kind = 6
    · have e6 : (x.kind == 6) = true := by simp [hx6]
      have HR : Hid (runF 0 (2 * most.toNat + 6) cs (startF 0 most call args) 0 = ((x.value, x.code, true), cs')) := by
        show _ = _
        rw [← hrun2]
        unfold runR
        rw [if_pos hx6]
      clear hx6 hrun2 hwok hfin hrk2 hzl
      go_wp2_with fail
      go_quiet (fail)
      go_wp2
      go_ret3
      exact ⟨_, _, _, HR.out, rfl, hown2.alloc _, only_drewN (only_alloc hg2 _) _⟩
    · have e6 : (x.kind == 6) = false := by simp [hx6]
      have hrk3 : 0 < rank s' := by
        rcases Nat.eq_zero_or_pos (rank s') with h | h
        · exact absurd (hfin.2 h) hx6
        · exact h
      rcases hwok with ⟨h, _⟩ | ⟨hk23, hlo, hhi⟩
      · exact absurd h hx6
      · obtain ⟨kd, cc, vv, co⟩ := x
        simp only at *
        obtain ⟨c, rfl⟩ := Int.eq_ofNat_of_zero_le hlo
        have hn' := HN.out
        have hcn : c < n := by omega
        have ck : w2.cell? ⟨g, c, none⟩ = some (.int .i64 (cs'.getD c 0)) := by
          rw [hown2.cellAt c (by omega)]
          simp [ints, List.getD_eq_getElem?_getD, List.getElem?_eq_getElem (show c < cs'.length by omega)]
        have fk : w2.frozen? ⟨g, c, none⟩ = false := hown2.frozenAt c
        have hcn' : (c : Int) < (n : Int) := by omega
        have hgl2 : g < w2.heap.size := by omega
        obtain ⟨z, hz⟩ : ∃ z, z = cs'.getD c 0 := ⟨_, rfl⟩
        rw [← hz] at ck
        have hrun3 : runF 0 g1 (if kd = 2 then cs' else cs'.set c vv) s' (if kd = 2 then z else 0) = runF 0 (2 * most.toNat + 6) cs (startF 0 most call args) 0 := by
          by_cases h2 : kd = 2
          · rw [if_pos h2, if_pos h2, ← hrun2]
            unfold runR
            simp only [Int.toNat_natCast]
            rw [if_neg hx6, if_neg (by omega), if_pos h2, hz]
          · rw [if_neg h2, if_neg h2, ← hrun2]
            unfold runR
            simp only [Int.toNat_natCast]
            rw [if_neg hx6, if_neg (by omega), if_neg h2]
        have HRK3 : Hid (rank s' ≤ g1 ∧ 0 < g1 ∧ ((k + 1 : Nat) : Int) + g1 = 2 * most + 6) := by
          have h1 := HK.out
          show _ ∧ _ ∧ _
          omega
        clear hrk2 hrk3 hfin hlo hhi hz hrun2 hzl hn' hgk
        by_cases h2 : kd = 2
        · have e9 : (kd == 2) = true := by simp [h2]
          have HRUN3 := Lib.hid hrun3
          have HK2 := Lib.hid h2
          clear hk23 h2 hx6 hrun3
          go_wp2
          go_roundg g1
          case measure => omega
          case rel =>
            have hr := HRUN3.out
            rw [if_pos HK2.out, if_pos HK2.out] at hr
            exact ⟨k + 1, _, _, z, _, s', cs', rfl, by go_num, HRK3.out.2.2, HRK3.out.1, HRK3.out.2.1, HST.out.sim, hM3.alloc _, hown2.alloc _, hr, only_alloc hg2 _⟩
        · have e9 : (kd == 2) = false := by simp [h2]
          have HRUN3 := Lib.hid hrun3
          have HK2 := Lib.hid h2
          clear hk23 h2 hx6 hrun3
          go_wp2
          go_roundg g1
          case measure => omega
          case rel =>
            have hr := HRUN3.out
            rw [if_neg HK2.out, if_neg HK2.out] at hr
            refine ⟨k + 1, _, _, 0, _, s', cs'.set c vv, rfl, by go_num, HRK3.out.2.2, HRK3.out.1, HRK3.out.2.1, HST.out.sim, (hM3.far (p := ⟨g, c, none⟩) (by simp; omega) (by simp; omega) _).alloc _, ?_, hr, only_alloc (only_setCell (p := ⟨g, c, none⟩) hg2 (.inl rfl) _) _⟩
            have := (hown2.stored c (.int .i64 vv)).1.alloc (.cells #[.int .i64 kd, .int .i64 c, .int .i64 vv, .int .i64 co] 37)
            rw [show (ints cs').set c (.int .i64 vv) = ints (cs'.set c vv) from by simp [ints, List.map_set]] at this
            exact this
end Go.Proofs.Ytjggcidaolnmbaa
