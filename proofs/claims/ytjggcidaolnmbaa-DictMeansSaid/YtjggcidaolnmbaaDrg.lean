/- What the document's Find does. -/
import Derived.Test.YtjggcidaolnmbaaDrf
import Derived.Deep.LoopGhost
namespace Go.Proofs.Ytjggcidaolnmbaa
open Go.RowKit Go.Joins Go.ChangeShapes Go.WideShapes Go.Deep
set_option linter.unusedVariables false
set_option maxRecDepth 100000

def lookV (x : Look) : Value := .agg #[.int .i64 x.found, .int .i64 x.free, .int .i64 x.reads, .bool x.over, .int .i64 x.cell]
def FindPost (key most : Int) (read : List Int) (w : World) : Ending → World → Prop := fun e w' =>
  ∃ (fd fr ce : Int) (rd : Nat) (ov : Bool), lookF key most read = ⟨fd, fr, rd, ov, ce⟩ ∧ e = .returned (.agg #[.int .i64 fd, .int .i64 fr, .int .i64 rd, .bool ov, .int .i64 ce]) ∧ Below w.heap.size w w'
def FindRel (key most : Int) (read : List Int) (n : Nat) (w : World) (gk : Nat) (i : Value) (wr : World) : Prop :=
  ∃ (j pos : Nat) (free : Int), i = .int .i64 j ∧ (j : Int) + gk = most ∧ pos ≤ n ∧ -1 ≤ free ∧ free < most ∧ lookF key most read = findL key most gk j free pos (read.drop pos) ∧
    Blk wr w.heap.size 78 #[.int .i64 0, .int .i64 0, .int .i64 0, .bool false, .int .i64 0] ∧ Blk wr (w.heap.size + 1) 78 #[.int .i64 (-1), .int .i64 free, .int .i64 pos, .bool false, .int .i64 0] ∧ Below w.heap.size w wr

theorem find_fin {a b c d fd fr ce : Int} {rd : Nat} {o : Bool} (h1 : a = fd) (h2 : b = fr) (h3 : c = rd) (h4 : d = ce) :
    Ending.returned (.agg #[.int .i64 a, .int .i64 b, .int .i64 c, .bool o, .int .i64 d]) = Ending.returned (.agg #[.int .i64 fd, .int .i64 fr, .int .i64 rd, .bool o, .int .i64 ce]) := by
  rw [h1, h2, h3, h4]
set_option maxHeartbeats 4000000 in
theorem find_any (key most : Int) (read : List Int) (A : Option Addr) (n c : Nat) (w : World) (hn : n ≤ 17592186044416) (m0 : 0 ≤ most) (m1 : most ≤ 16) (hA : Reads w w.heap.size 1 A n (ints read)) :
    Calls Try.prog 46 #[.int .i64 key, .int .i64 most, .slice A n c] w (FindPost key most read w) := by
  have hlen : read.length = n := by have := hA.1; simpa [ints] using this
  have HLEN := Lib.hid hlen
  clear hlen
  go_enter Try.func46, Try.ntmps46
  go_wp2
  go_loopg [8] most.toNat (fun gk i wr => FindRel key most read n w gk i wr)
  case atStart =>
    exact ⟨0, 0, -1, rfl, by omega, Nat.zero_le _, by omega, by omega, rfl, (Blk.new _ _ _).alloc _, Blk.new' (by simp), by repeat (first | with_reducible exact Below.refl _ _ | with_reducible refine Below.drew ?_ | with_reducible refine below_drewN ?_ _ | ((with_reducible refine Below.alloc ?_ ?_ _); (rotate_left; focus (first | with_reducible exact Nat.le_refl _ | omega | (simp; done) | (simp; omega) | (simp [World.setCell]; done) | (simp [World.setCell]; omega)))) | ((with_reducible refine Below.setCell ?_ ?_ _); (rotate_left; focus (first | with_reducible exact Nat.le_refl _ | omega | (simp; done) | (simp; omega) | (simp [World.setCell]; done) | (simp [World.setCell]; omega)))))⟩
  case round =>
    obtain ⟨j, pos, free, rfl, hjg, hpos, f0, f1, hfind, hZ, hX, hbel⟩ := hrel
    have x0 : wr.cell? ⟨w.heap.size + 1, 0, none⟩ = some (.int .i64 (-1)) := (hX.cell 0).trans rfl
    have x1 : wr.cell? ⟨w.heap.size + 1, 1, none⟩ = some (.int .i64 free) := (hX.cell 1).trans rfl
    have x2 : wr.cell? ⟨w.heap.size + 1, 2, none⟩ = some (.int .i64 pos) := (hX.cell 2).trans rfl
    have x3 : wr.cell? ⟨w.heap.size + 1, 3, none⟩ = some (.bool false) := (hX.cell 3).trans rfl
    have x4 : wr.cell? ⟨w.heap.size + 1, 4, none⟩ = some (.int .i64 0) := (hX.cell 4).trans rfl
    have g0 : wr.frozen? ⟨w.heap.size + 1, 0, none⟩ = false := hX.frozen 0
    have g1 : wr.frozen? ⟨w.heap.size + 1, 1, none⟩ = false := hX.frozen 1
    have g2 : wr.frozen? ⟨w.heap.size + 1, 2, none⟩ = false := hX.frozen 2
    have g3 : wr.frozen? ⟨w.heap.size + 1, 3, none⟩ = false := hX.frozen 3
    have g4 : wr.frozen? ⟨w.heap.size + 1, 4, none⟩ = false := hX.frozen 4
    have z0 : wr.cell? ⟨w.heap.size, 0, none⟩ = some (.int .i64 0) := (hZ.cell 0).trans rfl
    have z1 : wr.cell? ⟨w.heap.size, 1, none⟩ = some (.int .i64 0) := (hZ.cell 1).trans rfl
    have z2 : wr.cell? ⟨w.heap.size, 2, none⟩ = some (.int .i64 0) := (hZ.cell 2).trans rfl
    have z3 : wr.cell? ⟨w.heap.size, 3, none⟩ = some (.bool false) := (hZ.cell 3).trans rfl
    have z4 : wr.cell? ⟨w.heap.size, 4, none⟩ = some (.int .i64 0) := (hZ.cell 4).trans rfl
    have k0 : wr.frozen? ⟨w.heap.size, 0, none⟩ = false := hZ.frozen 0
    have k1 : wr.frozen? ⟨w.heap.size, 1, none⟩ = false := hZ.frozen 1
    have k2 : wr.frozen? ⟨w.heap.size, 2, none⟩ = false := hZ.frozen 2
    have k3 : wr.frozen? ⟨w.heap.size, 3, none⟩ = false := hZ.frozen 3
    have k4 : wr.frozen? ⟨w.heap.size, 4, none⟩ = false := hZ.frozen 4
    have HF := Lib.hid hfind
    have HJ := Lib.hid hjg
    clear hfind hjg
    by_cases hlt : (j : Int) < most
    · have hsb : 0 ≤ (firstI key most + (j : Int)) % most ∧ (firstI key most + (j : Int)) % most < most := slotI_bd (key := key) j (show 0 < most by omega)
      have hsb1 := hsb.1
      have hsb2 := hsb.2
      clear hsb
      have hfb := firstI_bd key most m0 m1
      have hfb1 := hfb.1
      have hfb2 := hfb.2.2
      clear hfb
      have hpm : 0 < most := by omega
      obtain ⟨f, rfl⟩ : ∃ f, gk = f + 1 := ⟨gk - 1, by have := HJ.out; omega⟩
      by_cases hpn : pos = n
      · have HR : Hid (lookF key most read = ⟨-1, free, pos, false, 1 + 3 * ((firstI key most + (j : Int)) % most)⟩) := by
          show lookF key most read = _
          rw [HF.out, List.drop_of_length_le (by rw [HLEN.out]; omega)]
          simp [findL, slotI]
        subst hpn
        go_wp2_with fail
        refine (rfirst_any key most _ m0 m1).mono ?_
        rintro e w1 ⟨rfl, rfl⟩
        go_wp2
        refine bodyPost_ret (v := .agg #[.int .i64 (-1), .int .i64 (free), .int .i64 (pos), .bool false, .int .i64 (1 + 3 * ((firstI key most + (j : Int)) % most))]) (by simp [results, Try.results46, go_sem, z0, z1, z2, z3, z4]) rfl ?_
        exact ⟨_, _, _, _, _, HR.out, find_fin rfl rfl (by omega) rfl, by repeat (first | with_reducible exact hbel | with_reducible refine Below.drew ?_ | with_reducible refine below_drewN ?_ _ | ((with_reducible refine Below.alloc ?_ ?_ _); (rotate_left; focus (first | with_reducible exact Nat.le_refl _ | omega | (simp; done) | (simp; omega) | (simp [World.setCell]; done) | (simp [World.setCell]; omega)))) | ((with_reducible refine Below.setCell ?_ ?_ _); (rotate_left; focus (first | with_reducible exact Nat.le_refl _ | omega | (simp; done) | (simp; omega) | (simp [World.setCell]; done) | (simp [World.setCell]; omega)))))⟩
      · have hpl : pos < n := by omega
        have hpr : pos < read.length := by rw [HLEN.out]; exact hpl
        obtain ⟨wb, wo, rfl, hwb, hwc⟩ := (hA.below hbel).flat (by omega)
        obtain ⟨st, hst⟩ : ∃ st, st = read[pos] := ⟨_, rfl⟩
        have cw : wr.cell? ⟨wb, wo + pos, none⟩ = some (.int .i64 st) := by rw [hst]; exact hwc pos _ (ints_at _ _ hpr)
        have hdrop : read.drop pos = st :: read.drop (pos + 1) := by rw [hst]; exact List.drop_eq_getElem_cons hpr
        have HD := Lib.hid hdrop
        have HWC := Lib.hid hwc
        have hnb : wb ≠ w.heap.size := by omega
        have hnb1 : wb ≠ w.heap.size + 1 := by omega
        clear hst hdrop hwc
        have ep : ((pos : Int) == (n : Int)) = false := by simp; omega
        by_cases h0 : st = 0
        · subst h0
          by_cases hf : free < 0
          · have HR : Hid (lookF key most read = ⟨-1, (firstI key most + (j : Int)) % most, pos + 1, true, 0⟩) := by
              show lookF key most read = _
              rw [HF.out, HD.out]
              simp [findL, freeI, hf, slotI]
            go_wp2_with fail
            refine (rfirst_any key most _ m0 m1).mono ?_
            rintro e w1 ⟨rfl, rfl⟩
            go_wp2
            refine bodyPost_ret (v := .agg #[.int .i64 (-1), .int .i64 ((firstI key most + (j : Int)) % most), .int .i64 ((pos : Int) + 1), .bool true, .int .i64 (0)]) (by simp [results, Try.results46, go_sem, z0, z1, z2, z3, z4]) rfl ?_
            exact ⟨_, _, _, _, _, HR.out, find_fin rfl rfl (by omega) rfl, by repeat (first | with_reducible exact hbel | with_reducible refine Below.drew ?_ | with_reducible refine below_drewN ?_ _ | ((with_reducible refine Below.alloc ?_ ?_ _); (rotate_left; focus (first | with_reducible exact Nat.le_refl _ | omega | (simp; done) | (simp; omega) | (simp [World.setCell]; done) | (simp [World.setCell]; omega)))) | ((with_reducible refine Below.setCell ?_ ?_ _); (rotate_left; focus (first | with_reducible exact Nat.le_refl _ | omega | (simp; done) | (simp; omega) | (simp [World.setCell]; done) | (simp [World.setCell]; omega)))))⟩
          · have HR : Hid (lookF key most read = ⟨-1, free, pos + 1, true, 0⟩) := by
              show lookF key most read = _
              rw [HF.out, HD.out]
              simp [findL, freeI, hf]
            have hf' : decide (free < 0) = false := by simpa using hf
            clear hf
            go_wp2_with fail
            refine (rfirst_any key most _ m0 m1).mono ?_
            rintro e w1 ⟨rfl, rfl⟩
            go_wp2
            refine bodyPost_ret (v := .agg #[.int .i64 (-1), .int .i64 (free), .int .i64 ((pos : Int) + 1), .bool true, .int .i64 (0)]) (by simp [results, Try.results46, go_sem, z0, z1, z2, z3, z4]) rfl ?_
            exact ⟨_, _, _, _, _, HR.out, find_fin rfl rfl (by omega) rfl, by repeat (first | with_reducible exact hbel | with_reducible refine Below.drew ?_ | with_reducible refine below_drewN ?_ _ | ((with_reducible refine Below.alloc ?_ ?_ _); (rotate_left; focus (first | with_reducible exact Nat.le_refl _ | omega | (simp; done) | (simp; omega) | (simp [World.setCell]; done) | (simp [World.setCell]; omega)))) | ((with_reducible refine Below.setCell ?_ ?_ _); (rotate_left; focus (first | with_reducible exact Nat.le_refl _ | omega | (simp; done) | (simp; omega) | (simp [World.setCell]; done) | (simp [World.setCell]; omega)))))⟩
        · have e0 : (st == 0) = false := by simp [h0]
          by_cases h1 : st = 1
          · subst h1
            clear h0 e0
            by_cases hpn1 : pos + 1 = n
            · have HR : Hid (lookF key most read = ⟨-1, free, pos + 1, false, 2 + 3 * ((firstI key most + (j : Int)) % most)⟩) := by
                show lookF key most read = _
                rw [HF.out, HD.out, List.drop_of_length_le (by rw [HLEN.out]; omega)]
                simp [findL, slotI]
              have ep1 : ((pos : Int) + 1 == (n : Int)) = true := by simp; omega
              clear hpn1
              go_wp2_with fail
              refine (rfirst_any key most _ m0 m1).mono ?_
              rintro e w1 ⟨rfl, rfl⟩
              go_wp2
              refine bodyPost_ret (v := .agg #[.int .i64 (-1), .int .i64 (free), .int .i64 ((pos : Int) + 1), .bool false, .int .i64 (2 + 3 * ((firstI key most + (j : Int)) % most))]) (by simp [results, Try.results46, go_sem, z0, z1, z2, z3, z4]) rfl ?_
              exact ⟨_, _, _, _, _, HR.out, find_fin rfl rfl (by omega) rfl, by repeat (first | with_reducible exact hbel | with_reducible refine Below.drew ?_ | with_reducible refine below_drewN ?_ _ | ((with_reducible refine Below.alloc ?_ ?_ _); (rotate_left; focus (first | with_reducible exact Nat.le_refl _ | omega | (simp; done) | (simp; omega) | (simp [World.setCell]; done) | (simp [World.setCell]; omega)))) | ((with_reducible refine Below.setCell ?_ ?_ _); (rotate_left; focus (first | with_reducible exact Nat.le_refl _ | omega | (simp; done) | (simp; omega) | (simp [World.setCell]; done) | (simp [World.setCell]; omega)))))⟩
            · have hpr1 : pos + 1 < read.length := by rw [HLEN.out]; omega
              obtain ⟨ky, hky⟩ : ∃ ky, ky = read[pos + 1] := ⟨_, rfl⟩
              have cw1 : wr.cell? ⟨wb, wo + (pos + 1), none⟩ = some (.int .i64 ky) := by rw [hky]; exact HWC.out (pos + 1) _ (ints_at _ _ hpr1)
              have cw2 : wr.cell? ⟨wb, wo + pos + 1, none⟩ = some (.int .i64 ky) := cw1
              have hdrop : read.drop (pos + 1) = ky :: read.drop (pos + 2) := by rw [hky]; exact List.drop_eq_getElem_cons hpr1
              have HD1 := Lib.hid hdrop
              clear hky hdrop
              have ep1 : ((pos : Int) + 1 == (n : Int)) = false := by simp; omega
              by_cases hk : ky = key
              · have HR : Hid (lookF key most read = ⟨(firstI key most + (j : Int)) % most, free, pos + 2, true, 0⟩) := by
                  show lookF key most read = _
                  rw [HF.out, HD.out, HD1.out]
                  simp [findL, hk, slotI]
                have ek : (ky == key) = true := by simp [hk]
                clear hk
                go_wp2_with fail
                refine (rfirst_any key most _ m0 m1).mono ?_
                rintro e w1 ⟨rfl, rfl⟩
                go_wp2
                refine bodyPost_ret (v := .agg #[.int .i64 ((firstI key most + (j : Int)) % most), .int .i64 (free), .int .i64 ((pos : Int) + 1 + 1), .bool true, .int .i64 (0)]) (by simp [results, Try.results46, go_sem, z0, z1, z2, z3, z4]) rfl ?_
                exact ⟨_, _, _, _, _, HR.out, find_fin rfl rfl (by omega) rfl, by repeat (first | with_reducible exact hbel | with_reducible refine Below.drew ?_ | with_reducible refine below_drewN ?_ _ | ((with_reducible refine Below.alloc ?_ ?_ _); (rotate_left; focus (first | with_reducible exact Nat.le_refl _ | omega | (simp; done) | (simp; omega) | (simp [World.setCell]; done) | (simp [World.setCell]; omega)))) | ((with_reducible refine Below.setCell ?_ ?_ _); (rotate_left; focus (first | with_reducible exact Nat.le_refl _ | omega | (simp; done) | (simp; omega) | (simp [World.setCell]; done) | (simp [World.setCell]; omega)))))⟩
              · have HR : Hid (lookF key most read = findL key most f ((j + 1 : Nat) : Int) free (pos + 2) (read.drop (pos + 2))) := by
                  show lookF key most read = _
                  rw [HF.out, HD.out, HD1.out]
                  simp [findL, hk]
                have ek : (ky == key) = false := by simp [hk]
                clear hk
                go_wp2_with fail
                refine (rfirst_any key most _ m0 m1).mono ?_
                rintro e w1 ⟨rfl, rfl⟩
                go_wp2
                go_roundg f
                case measure => omega
                case rel =>
                  refine ⟨j + 1, pos + 2, free, by go_num, by have := HJ.out; omega, by omega, by omega, by omega, HR.out, ?_, ?_, ?_⟩
                  · exact (hZ.far (by simp) _).far (by simp) _
                  · rw [show ((pos + 2 : Nat) : Int) = (pos : Int) + 1 + 1 by omega]; exact (hX.set_ 2 _).set_ 2 _
                  · repeat (first | with_reducible exact hbel | with_reducible refine Below.drew ?_ | with_reducible refine below_drewN ?_ _ | ((with_reducible refine Below.alloc ?_ ?_ _); (rotate_left; focus (first | with_reducible exact Nat.le_refl _ | omega | (simp; done) | (simp; omega) | (simp [World.setCell]; done) | (simp [World.setCell]; omega)))) | ((with_reducible refine Below.setCell ?_ ?_ _); (rotate_left; focus (first | with_reducible exact Nat.le_refl _ | omega | (simp; done) | (simp; omega) | (simp [World.setCell]; done) | (simp [World.setCell]; omega)))))
          · have e1 : (st != 1) = true := by simp [h1]
            have HNE := Lib.hid (And.intro h0 h1)
            clear h0 h1
            by_cases hf : free < 0
            · have HR : Hid (lookF key most read = findL key most f ((j + 1 : Nat) : Int) ((firstI key most + (j : Int)) % most) (pos + 1) (read.drop (pos + 1))) := by
                show lookF key most read = _
                rw [HF.out, HD.out]
                simp [findL, freeI, hf, slotI, HNE.out.1, HNE.out.2]
              go_wp2_with fail
              refine (rfirst_any key most _ m0 m1).mono ?_
              rintro e w1 ⟨rfl, rfl⟩
              go_wp2
              go_roundg f
              case measure => omega
              case rel =>
                refine ⟨j + 1, pos + 1, (firstI key most + (j : Int)) % most, by go_num, by have := HJ.out; omega, by omega, by omega, by omega, HR.out, ?_, ?_, ?_⟩
                · exact (hZ.far (by simp) _).far (by simp) _
                · rw [show ((pos + 1 : Nat) : Int) = (pos : Int) + 1 by omega]; exact (hX.set_ 2 _).set_ 1 _
                · repeat (first | with_reducible exact hbel | with_reducible refine Below.drew ?_ | with_reducible refine below_drewN ?_ _ | ((with_reducible refine Below.alloc ?_ ?_ _); (rotate_left; focus (first | with_reducible exact Nat.le_refl _ | omega | (simp; done) | (simp; omega) | (simp [World.setCell]; done) | (simp [World.setCell]; omega)))) | ((with_reducible refine Below.setCell ?_ ?_ _); (rotate_left; focus (first | with_reducible exact Nat.le_refl _ | omega | (simp; done) | (simp; omega) | (simp [World.setCell]; done) | (simp [World.setCell]; omega)))))
            · have HR : Hid (lookF key most read = findL key most f ((j + 1 : Nat) : Int) free (pos + 1) (read.drop (pos + 1))) := by
                show lookF key most read = _
                rw [HF.out, HD.out]
                simp [findL, freeI, hf, HNE.out.1, HNE.out.2]
              have hf' : decide (free < 0) = false := by simpa using hf
              clear hf
              go_wp2_with fail
              refine (rfirst_any key most _ m0 m1).mono ?_
              rintro e w1 ⟨rfl, rfl⟩
              go_wp2
              go_roundg f
              case measure => omega
              case rel =>
                refine ⟨j + 1, pos + 1, free, by go_num, by have := HJ.out; omega, by omega, by omega, by omega, HR.out, ?_, ?_, ?_⟩
                · exact hZ.far (by simp) _
                · rw [show ((pos + 1 : Nat) : Int) = (pos : Int) + 1 by omega]; exact hX.set_ 2 _
                · repeat (first | with_reducible exact hbel | with_reducible refine Below.drew ?_ | with_reducible refine below_drewN ?_ _ | ((with_reducible refine Below.alloc ?_ ?_ _); (rotate_left; focus (first | with_reducible exact Nat.le_refl _ | omega | (simp; done) | (simp; omega) | (simp [World.setCell]; done) | (simp [World.setCell]; omega)))) | ((with_reducible refine Below.setCell ?_ ?_ _); (rotate_left; focus (first | with_reducible exact Nat.le_refl _ | omega | (simp; done) | (simp; omega) | (simp [World.setCell]; done) | (simp [World.setCell]; omega)))))
    · have hz : gk = 0 := by have := HJ.out; omega
      subst hz
      have HR : Hid (lookF key most read = ⟨-1, free, pos, true, 0⟩) := by
        show lookF key most read = _
        rw [HF.out]
        rfl
      go_wp2
      refine bodyPost_ret (v := .agg #[.int .i64 (-1), .int .i64 (free), .int .i64 (pos), .bool true, .int .i64 (0)]) (by simp [results, Try.results46, go_sem, z0, z1, z2, z3, z4]) rfl ?_
      exact ⟨_, _, _, _, _, HR.out, find_fin rfl rfl (by omega) rfl, by repeat (first | with_reducible exact hbel | with_reducible refine Below.drew ?_ | with_reducible refine below_drewN ?_ _ | ((with_reducible refine Below.alloc ?_ ?_ _); (rotate_left; focus (first | with_reducible exact Nat.le_refl _ | omega | (simp; done) | (simp; omega) | (simp [World.setCell]; done) | (simp [World.setCell]; omega)))) | ((with_reducible refine Below.setCell ?_ ?_ _); (rotate_left; focus (first | with_reducible exact Nat.le_refl _ | omega | (simp; done) | (simp; omega) | (simp [World.setCell]; done) | (simp [World.setCell]; omega)))))⟩
end Go.Proofs.Ytjggcidaolnmbaa
