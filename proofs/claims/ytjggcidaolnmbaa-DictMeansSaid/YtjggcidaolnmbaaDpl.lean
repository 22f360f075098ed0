/- What 'play' does: a machine of a call is handed words, and wants what the document says. -/
import Derived.Test.YtjggcidaolnmbaaDrq
import Derived.Test.YtjggcidaolnmbaaDmb
import Derived.Test.YtjggcidaolnmbaaAsked
import Derived.Deep.LoopGhost
import Derived.Deep.DeepMust
namespace Go.Proofs.Ytjggcidaolnmbaa
open Go.RowKit Go.Joins Go.ChangeShapes Go.WideShapes Go.Deep
set_option linter.unusedVariables false
set_option maxRecDepth 100000

theorem info_i64 : (Try.prog.info? 2).map (fun i => (i.zero, i.size, i.bytes)) = some (some (.int .i64 0), 1, 8) := by kernel_rfl

/-- An owned row as a slice that reads. -/
theorem own_shape {w : World} {B e n : Nat} {v : Value} {xs : List Value} (h : w.ownsRow B e 1 v n xs) : ∃ R c, v = .slice R n c ∧ n ≤ c ∧ Reads w w.heap.size 1 R n xs := by
  rcases h.2 with ⟨rfl, rfl⟩ | ⟨g, cap, cur, rfl, hg, hh, hn, _⟩
  · exact ⟨none, 0, rfl, Nat.le_refl _, Reads.of_own h⟩
  · exact ⟨_, cap, rfl, hn, Reads.of_own h⟩

theorem MIs.grownOwn {w w' : World} {b : Nat} {s : DS} {S : Nat → Prop} {B n : Nat} {v : Value} {xs : List Value} (h : MIs w b s S) (hown : w.ownsRow B 2 1 v n xs) (hg : w.grownBy w' v.ownBlock) : MIs w' b s S :=
  h.keep (fun _ hb => hb.grown hg (fun e => own_blk_ne hown hb (by decide) e.symm)) (fun _ _ _ hb => hb.grown hg (fun e => own_blk_ne hown hb (by decide) e.symm)) fun _ h => h
theorem only_own {a w1 w2 : World} {b : Nat} {row : Option Nat} (h : a.grownBy w1 (some b)) (k : w1.grownBy w2 row) (hr : ∀ q, row = some q → a.heap.size ≤ q) : a.grownBy w2 (some b) :=
  ⟨k.os.trans h.os, k.tape.trans h.tape, k.output.trans h.output, Nat.le_trans h.size k.size, fun i hi hn => (k.block i (Nat.lt_of_lt_of_le hi h.size) (fun e => by have := hr i e.symm; omega)).trans (h.block i hi hn)⟩
theorem only_below {a w1 w2 : World} {b : Nat} (h : a.grownBy w1 (some b)) (k : Below w1.heap.size w1 w2) : a.grownBy w2 (some b) :=
  ⟨k.os.trans h.os, k.tape.trans h.tape, k.output.trans h.output, Nat.le_trans h.size k.size, fun i hi hn => (k.block i (Nat.lt_of_lt_of_le hi h.size)).trans (h.block i hi hn)⟩
theorem MIs.below {w w' : World} {b : Nat} {s : DS} {S : Nat → Prop} (h : MIs w b s S) (k : Below w.heap.size w w') : MIs w' b s S :=
  h.keep (fun _ hb => hb.below k hb.lt) (fun _ _ _ hb => hb.below k hb.lt) fun _ h => h
theorem Reads.only {w w' : World} {B mb n : Nat} {A : Option Addr} {xs : List Value} (h : Reads w B 1 A n xs) (hg : w.grownBy w' (some mb)) (hB : B ≤ mb) (hw : mb < w.heap.size) : Reads w' B 1 A n xs :=
  h.keep fun p hp => World.cell?_of_block (hg.block p.block (by omega) (fun e => by injection e with e; omega))
theorem ints_snoc (l : List Int) (v : Int) : ints l ++ [.int .i64 v] = ints (l ++ [v]) := by simp [ints]

theorem play_app {w wr w1 : World} {mb : Nat} {s : DS} {S : Nat → Prop} {R : Option Addr} {rc : Nat} {read : List Int} {V : Int} {v' : Value} {cs ls : Array Value} (hown : wr.ownsRow (w.heap.size + 2) 2 1 (.slice R read.length rc) read.length (ints read)) (hMr : MIs wr mb s S)
    (hBr : Blk wr w.heap.size 26 cs) (hLr : Blk wr (w.heap.size + 1) 37 ls) (hgr : w.grownBy wr (some mb))
    (hown' : w1.ownsRow (w.heap.size + 2) 2 1 v' (read.length + 1) (ints read ++ [.int .i64 V])) (hgrow : (wr.alloc (.cells #[.int .i64 V] 2)).grownBy w1 (Value.slice R read.length rc).ownBlock) :
    ∃ R' rc', v' = .slice R' (read.length + 1) rc' ∧ read.length + 1 ≤ rc' ∧ w1.ownsRow (w.heap.size + 2) 2 1 (.slice R' (read.length + 1) rc') (read.length + 1) (ints (read ++ [V])) ∧
      Reads w1 w1.heap.size 1 R' (read.length + 1) (ints (read ++ [V])) ∧ MIs w1 mb s S ∧ Blk w1 w.heap.size 26 cs ∧ Blk w1 (w.heap.size + 1) 37 ls ∧ w.grownBy w1 (some mb) := by
  obtain ⟨R', rc', rfl, hrc', hRd⟩ := own_shape hown'
  have ho := hown.alloc (.cells #[.int .i64 V] 2)
  rw [ints_snoc] at hown' hRd
  refine ⟨R', rc', rfl, hrc', hown', hRd, (hMr.alloc _).grownOwn ho hgrow, (hBr.alloc _).grown hgrow (fun e => own_blk_ne ho (hBr.alloc _) (by decide) e.symm), (hLr.alloc _).grown hgrow (fun e => own_blk_ne ho (hLr.alloc _) (by decide) e.symm), ?_⟩
  exact only_own (only_alloc hgr _) hgrow (fun q hq => by have := ho.lt q hq; omega)

def PlayRel (base most call : Int) (args : List Int) (w : World) (mb : Nat) (A Wd : Option Addr) (n nc m mc : Nat) (gk : Nat) (rv wv i : Value) (wr : World) : Prop :=
  ∃ (k : Nat) (read : List Int) (writes : Int) (last : Want) (s : DS), rv = rv ∧ wv = .int .i64 writes ∧ i = .int .i64 k ∧ (m + 4 - k) + rank s = gk ∧ k + rank s ≤ m + 42 ∧ 0 ≤ writes ∧ writes ≤ k ∧ read.length ≤ k ∧ (last.kind = 6 ↔ (rank s = 0)) ∧
    Sim base most call args read writes last s ∧ MIs wr mb s (fun g => g ≠ w.heap.size + 1) ∧ wr.ownsRow (w.heap.size + 2) 2 1 rv read.length (ints read) ∧
    Blk wr w.heap.size 26 #[.int .i64 base, .int .i64 most, .int .i64 call, .slice A n nc, .slice Wd m mc] ∧ Blk wr (w.heap.size + 1) 37 #[.int .i64 last.kind, .int .i64 last.cell, .int .i64 last.value, .int .i64 last.code] ∧ w.grownBy wr (some mb)

set_option maxHeartbeats 4000000 in
theorem play_any (base most call : Int) (args words : List Int) (A Wd : Option Addr) (n nc m mc : Nat) (w : World) (mb : Nat) (S : Nat → Prop) (hn : n ≤ 9223372036854775807) (hm : m * 8 ≤ 140737488351232) (hS : ∀ g, S g → g < w.heap.size)
    (B : Nat) (hB : B ≤ mb) (hA : Reads w B 1 A n (ints args)) (hR : Reads w B 1 Wd m (ints words)) (hok : callOk base most call args) (hM : MIs w mb (startF base most call args) S) :
    Calls Try.prog 16 #[.pointer (some ⟨mb, 0, none⟩), .agg #[.int .i64 base, .int .i64 most, .int .i64 call, .slice A n nc, .slice Wd m mc]] w fun e w' => e = .returned (.bool true) ∧ w.grownBy w' (some mb) := by
  have hwl : words.length = m := by have := hR.1; simpa [ints] using this
  have HWL := Lib.hid hwl
  have HOK := Lib.hid hok
  have m0 := hok.2.2.1
  have m1 := hok.2.2.2.1
  have hmlt := hM.lt
  clear hwl hok
  obtain ⟨i0, hi, hz0, hz1, hz2⟩ := info_parts info_i64
  go_enter Try.func16, Try.ntmps16
  go_wp2_with fail
  go_loopg [5, 6, 8] (m + 4 + rank (startF base most call args)) (fun gk rv wv i wr => PlayRel base most call args w mb A Wd n nc m mc gk rv wv i wr)
  case atStart =>
    refine ⟨0, [], 0, ⟨0, 0, 0, 0⟩, _, rfl, rfl, rfl, by omega, ?_, by omega, by omega, by simp, ?_, startF_sim HOK.out, ?_, World.ownsRow_nil _ _ _ _, ?_, ?_, ?_⟩
    · rw [startF_rank]
      omega
    · rw [startF_rank]
      simp
    · exact ((hM.alloc _).alloc _).more (fun g hg => by have := hS g hg; omega)
    · exact (Blk.new _ _ _).alloc _
    · exact Blk.new' (by simp)
    · exact only_alloc (only_alloc (World.grownBy.refl _ _) _) _
  case round =>
    obtain ⟨k, read, writes, last, s, _, rfl, rfl, hgk, hk42, hw0, hwk, hrl, hl6, hsim, hMr, hown, hBr, hLr, hgr⟩ := hrel
    obtain ⟨R, rc, rfl, hrc, hRd⟩ := own_shape hown
    have HS := Lib.hid hsim
    have HGK := Lib.hid hgk
    have HK42 := Lib.hid hk42
    have HL6 := Lib.hid hl6
    have hkb : k ≤ 17592186044412 := by omega
    have hmb : m ≤ 17592186044000 := by omega
    clear hsim hgk hk42 hl6
    have c0 : wr.cell? ⟨w.heap.size, 0, none⟩ = some (.int .i64 base) := (hBr.cell 0).trans rfl
    have c1 : wr.cell? ⟨w.heap.size, 1, none⟩ = some (.int .i64 most) := (hBr.cell 1).trans rfl
    have c2 : wr.cell? ⟨w.heap.size, 2, none⟩ = some (.int .i64 call) := (hBr.cell 2).trans rfl
    have c3 : wr.cell? ⟨w.heap.size, 3, none⟩ = some (.slice A n nc) := (hBr.cell 3).trans rfl
    have c4 : wr.cell? ⟨w.heap.size, 4, none⟩ = some (.slice Wd m mc) := (hBr.cell 4).trans rfl
    have l0 : wr.cell? ⟨w.heap.size + 1, 0, none⟩ = some (.int .i64 last.kind) := (hLr.cell 0).trans rfl
    have l1 : wr.cell? ⟨w.heap.size + 1, 1, none⟩ = some (.int .i64 last.cell) := (hLr.cell 1).trans rfl
    have l2 : wr.cell? ⟨w.heap.size + 1, 2, none⟩ = some (.int .i64 last.value) := (hLr.cell 2).trans rfl
    have l3 : wr.cell? ⟨w.heap.size + 1, 3, none⟩ = some (.int .i64 last.code) := (hLr.cell 3).trans rfl
    have hlt : w.heap.size + 1 < wr.heap.size := hLr.lt
    by_cases hk4 : k < m + 4
    · have HNZ : Hid (k < m + 4 ∨ rank s ≠ 0) := (Or.inl hk4 : k < m + 4 ∨ rank s ≠ 0)
      by_cases hkm : k < m
      · have hRr : Reads wr B 1 Wd m (ints words) := hR.only hgr hB hmlt
        obtain ⟨wb, wo, rfl, hwb, hwc⟩ := hRr.flat (by omega)
        have cw : wr.cell? ⟨wb, wo + k, none⟩ = some (.int .i64 (words[k]'(by rw [HWL.out]; exact hkm))) := hwc k _ (ints_at _ _ _)
        clear hwc hRr
        obtain ⟨V, hV⟩ : ∃ V, V = words[k]'(by rw [HWL.out]; exact hkm) := ⟨_, rfl⟩
        rw [← hV] at cw
        clear hV
        by_cases h3 : last.kind = 3
        · have e3 : (last.kind == 3) = true := by simp [h3]
          have e2 : (last.kind == 2) = false := by simp [h3]
          have HRN : Hid (readsNext last read V = read) := by show readsNext last read _ = _; simp [readsNext, h3]
          have HWN : Hid (writesNext last writes = writes + 1) := by show writesNext last writes = _; simp [writesNext, h3]
          clear h3
          have hMw := hMr
          have hBw := hBr
          have hLw := hLr
          have hgw := hgr
          have hownw := hown
          have hRdw := hRd
          have hrcw := hrc
          go_wp2_with fail
          refine (wants_any base most call args (read) (writes + 1) last A (R) n nc (read.length) (rc) _ (by first | omega | (simp; omega)) hrcw HOK.out (by exact (hA.only hgw hB hmlt).more (by have := hgw.size; omega)) hRdw).mono ?_
          rintro e w2 ⟨kd, kc, kv, ko, hp, rfl, hb2⟩
          have HP := Lib.hid hp
          have hB2 := hBw.below hb2 hBw.lt
          have hL2 := hLw.below hb2 hLw.lt
          have hs2 : wr.heap.size ≤ w2.heap.size := hb2.size
          have hlw : w.heap.size + 1 < wr.heap.size := hLw.lt
          have hg2 : w.grownBy w2 (some mb) := only_below hgw hb2
          have hown2 := hownw.kept (only_of_below hb2 none) (by cases Value.ownBlock _ <;> simp)
          have hM2 := (hMw.below hb2).alloc (.cells #[.int .i64 kd, .int .i64 kc, .int .i64 kv, .int .i64 ko] 37)
          clear hp c0 c1 c2 c3 c4 l0 l1 l2 l3 hb2
          go_wp2_with fail
          refine (next_any mb s (fun g => g ≠ w.heap.size + 1 ∧ g < (w2.alloc (.cells #[.int .i64 kd, .int .i64 kc, .int .i64 kv, .int .i64 ko] 37)).heap.size) V _ HS.out.ok HS.out.look (fun g hg => hg.2) (by exact hM2.bound)).mono ?_
          rintro e w3 ⟨x, s', hx, rfl, hM3, hg3⟩
          have hst := step_sim HOK.out HS.out V
          rw [hx] at hst
          have he := hst.eq
          have hwt : wantsF base most call args (readsNext last read V) (writesNext last writes) last = ⟨kd, kc, kv, ko⟩ := by rw [HRN.out, HWN.out]; exact HP.out
          rw [hwt] at he
          simp only at he
          subst he
          have hrk2 : rank s' + 1 ≤ rank s ∨ (rank s' = 0 ∧ rank s = 0) := by have h1 := hst.rk; simp only at h1; omega
          have HST := Lib.hid hst
          have HRK2 := Lib.hid hrk2
          clear hst hx hwt hrk2
          have hW3 : Blk w3 w2.heap.size 37 #[.int .i64 kd, .int .i64 kc, .int .i64 kv, .int .i64 ko] := (Blk.new w2 _ _).grown hg3 (by intro hh; injection hh with hh; omega)
          have hL3 := (hL2.alloc (.cells #[.int .i64 kd, .int .i64 kc, .int .i64 kv, .int .i64 ko] 37)).grown hg3 (by intro hh; injection hh with hh; omega)
          have q0 : w3.cell? ⟨w2.heap.size, 0, none⟩ = some (.int .i64 kd) := (hW3.cell 0).trans rfl
          have q1 : w3.cell? ⟨w2.heap.size, 1, none⟩ = some (.int .i64 kc) := (hW3.cell 1).trans rfl
          have q2 : w3.cell? ⟨w2.heap.size, 2, none⟩ = some (.int .i64 kv) := (hW3.cell 2).trans rfl
          have q3 : w3.cell? ⟨w2.heap.size, 3, none⟩ = some (.int .i64 ko) := (hW3.cell 3).trans rfl
          have p0 : w3.cell? ⟨w.heap.size + 1, 0, none⟩ = some (.int .i64 last.kind) := (hL3.cell 0).trans rfl
          have p1 : w3.cell? ⟨w.heap.size + 1, 1, none⟩ = some (.int .i64 last.cell) := (hL3.cell 1).trans rfl
          have p2 : w3.cell? ⟨w.heap.size + 1, 2, none⟩ = some (.int .i64 last.value) := (hL3.cell 2).trans rfl
          have p3 : w3.cell? ⟨w.heap.size + 1, 3, none⟩ = some (.int .i64 last.code) := (hL3.cell 3).trans rfl
          have pf0 : w3.frozen? ⟨w.heap.size + 1, 0, none⟩ = false := hL3.frozen 0
          have pf1 : w3.frozen? ⟨w.heap.size + 1, 1, none⟩ = false := hL3.frozen 1
          have pf2 : w3.frozen? ⟨w.heap.size + 1, 2, none⟩ = false := hL3.frozen 2
          have pf3 : w3.frozen? ⟨w.heap.size + 1, 3, none⟩ = false := hL3.frozen 3
          have hlt3 := hL3.lt
          have hlt4 := hW3.lt
          have hmlt3 : mb < w3.heap.size := hM3.lt
          have hM4 : MIs w3 mb s' (fun g => g ≠ w.heap.size + 1) := hM3.more (by rintro g (h | h); exact h.1; simp at h; omega)
          have hob : Value.ownBlock _ ≠ some mb := (by obtain ⟨cs, hcs⟩ := hM2.blk; exact own_blk_ne (hown2.alloc _) hcs (by decide))
          have hown3 := (hown2.alloc (.cells #[.int .i64 kd, .int .i64 kc, .int .i64 kv, .int .i64 ko] 37)).kept hg3 (.inr hob)
          have hB3 := (hB2.alloc (.cells #[.int .i64 kd, .int .i64 kc, .int .i64 kv, .int .i64 ko] 37)).grown hg3 (by intro hh; injection hh with hh; omega)
          have hg4 := only_trans (only_alloc hg2 _) hg3
          clear hM3 hg3 hob hown2 hB2 hg2 hM2 hL2 hW3
          go_wp2
          go_roundg ((m + 4 - (k + 1)) + rank s')
          case measure =>
            have h1 := HGK.out
            have h2 := HRK2.out
            have h3 := HNZ.out
            omega
          case rel =>
            refine ⟨k + 1, read, writes + 1, ⟨kd, kc, kv, ko⟩, s', rfl, rfl, by go_num, rfl, ?_, by omega, by omega, ?_, ?_, ?_, ?_, ?_, ?_, ?_, ?_⟩
            · have h1 := HK42.out
              have h2 := HRK2.out
              have h3 := HNZ.out
              omega
            · first | omega | (simp; omega)
            · exact HST.out.fin
            · have h := HST.out.sim
              rw [HRN.out, HWN.out] at h
              exact h
            · exact ((((hM4.far (p := ⟨w.heap.size + 1, 0, none⟩) (by simp; omega) (by simp) _).far (p := ⟨w.heap.size + 1, 1, none⟩) (by simp; omega) (by simp) _).far (p := ⟨w.heap.size + 1, 2, none⟩) (by simp; omega) (by simp) _).far (p := ⟨w.heap.size + 1, 3, none⟩) (by simp; omega) (by simp) _).alloc _
            · rw [show (read).length = read.length from rfl]
              exact (ownsRow_setCell_below (ownsRow_setCell_below (ownsRow_setCell_below (ownsRow_setCell_below hown3 (by simp) _) (by simp) _) (by simp) _) (by simp) _).alloc _
            · exact ((((hB3.far (p := ⟨w.heap.size + 1, 0, none⟩) (by simp) _).far (p := ⟨w.heap.size + 1, 1, none⟩) (by simp) _).far (p := ⟨w.heap.size + 1, 2, none⟩) (by simp) _).far (p := ⟨w.heap.size + 1, 3, none⟩) (by simp) _).alloc _
            · exact ((((hL3.set_ 0 _).set_ 1 _).set_ 2 _).set_ 3 _).alloc _
            · exact only_alloc (only_setCell (only_setCell (only_setCell (only_setCell hg4 (.inr (by simp)) _) (.inr (by simp)) _) (.inr (by simp)) _) (.inr (by simp)) _) _
        · have e3 : (last.kind == 3) = false := by simp [h3]
          by_cases h2 : last.kind = 2
          · have e2 : (last.kind == 2) = true := by simp [h2]
            have HRN : Hid (readsNext last read V = read ++ [V]) := by show readsNext last read _ = _; simp [readsNext, h2]
            have HWN : Hid (writesNext last writes = writes) := by show writesNext last writes = _; simp [writesNext, h3]
            have hc2 : ∀ u ∈ ([.int .i64 V] : List Value), u.oneCell' = true := (by intro u hu; simp at hu; subst hu; rfl)
            have hc3 : read.length + 1 ≤ maxLen := (by unfold maxLen; omega)
            have hc4 : (read.length + 1) * 8 ≤ 140737488355328 := (by omega)
            have hc5 : w.heap.size + 2 ≤ (wr.alloc (.cells #[.int .i64 V] 2)).heap.size := (by simp; omega)
            clear h3 h2
            go_wp2_with (at_builtin; go_must (refine wpList_append_own _ rfl _ _ 24 rfl (w.heap.size + 2) 2 i0 (.int .i64 0) 1 8 Try.underlying24 hi hz0 hz1 hz2 rfl (by decide) _ _ _ rfl (hown.alloc _) ⟨wr.heap.size, 0, none⟩ 1 1 [.int .i64 V] rfl rfl (cell_one_new _ _ _) hc2 hc3 hc4 hc5 ?_; intro v' w1 hown' hgrow _; obtain ⟨R', rc', hv', hrcw, hownw, hRdw, hMw, hBw, hLw, hgw⟩ := play_app hown hMr hBr hLr hgr hown' hgrow; rw [hv']; have c0w : w1.cell? ⟨w.heap.size, 0, none⟩ = some (.int .i64 base) := (hBw.cell 0).trans rfl; have c1w : w1.cell? ⟨w.heap.size, 1, none⟩ = some (.int .i64 most) := (hBw.cell 1).trans rfl; have c2w : w1.cell? ⟨w.heap.size, 2, none⟩ = some (.int .i64 call) := (hBw.cell 2).trans rfl; have c3w : w1.cell? ⟨w.heap.size, 3, none⟩ = some (.slice A n nc) := (hBw.cell 3).trans rfl; have l0w : w1.cell? ⟨w.heap.size + 1, 0, none⟩ = some (.int .i64 last.kind) := (hLw.cell 0).trans rfl; have l1w : w1.cell? ⟨w.heap.size + 1, 1, none⟩ = some (.int .i64 last.cell) := (hLw.cell 1).trans rfl; have l2w : w1.cell? ⟨w.heap.size + 1, 2, none⟩ = some (.int .i64 last.value) := (hLw.cell 2).trans rfl; have l3w : w1.cell? ⟨w.heap.size + 1, 3, none⟩ = some (.int .i64 last.code) := (hLw.cell 3).trans rfl; have hltw := hLw.lt; clear hv' hown' hgrow))
            have hrcw : read.length + 1 ≤ rc' := by assumption
            have hownw : w1.ownsRow (w.heap.size + 2) 2 1 (.slice R' (read.length + 1) rc') (read.length + 1) (ints (read ++ [V])) := by assumption
            have hRdw : Reads w1 w1.heap.size 1 R' (read.length + 1) (ints (read ++ [V])) := by assumption
            refine (wants_any base most call args (read ++ [V]) (writes) last A (R') n nc (read.length + 1) (rc') _ (by first | omega | (simp; omega)) hrcw HOK.out (by exact (hA.only hgw hB hmlt).more (by have := hgw.size; omega)) hRdw).mono ?_
            rintro e w2 ⟨kd, kc, kv, ko, hp, rfl, hb2⟩
            have HP := Lib.hid hp
            have hB2 := hBw.below hb2 hBw.lt
            have hL2 := hLw.below hb2 hLw.lt
            have hs2 : w1.heap.size ≤ w2.heap.size := hb2.size
            have hlw : w.heap.size + 1 < w1.heap.size := hLw.lt
            have hg2 : w.grownBy w2 (some mb) := only_below hgw hb2
            have hown2 := hownw.kept (only_of_below hb2 none) (by cases Value.ownBlock _ <;> simp)
            have hM2 := (hMw.below hb2).alloc (.cells #[.int .i64 kd, .int .i64 kc, .int .i64 kv, .int .i64 ko] 37)
            clear hp c0 c1 c2 c3 c4 l0 l1 l2 l3 hb2
            go_wp2_with fail
            refine (next_any mb s (fun g => g ≠ w.heap.size + 1 ∧ g < (w2.alloc (.cells #[.int .i64 kd, .int .i64 kc, .int .i64 kv, .int .i64 ko] 37)).heap.size) V _ HS.out.ok HS.out.look (fun g hg => hg.2) (by exact hM2.bound)).mono ?_
            rintro e w3 ⟨x, s', hx, rfl, hM3, hg3⟩
            have hst := step_sim HOK.out HS.out V
            rw [hx] at hst
            have he := hst.eq
            have hwt : wantsF base most call args (readsNext last read V) (writesNext last writes) last = ⟨kd, kc, kv, ko⟩ := by rw [HRN.out, HWN.out]; exact HP.out
            rw [hwt] at he
            simp only at he
            subst he
            have hrk2 : rank s' + 1 ≤ rank s ∨ (rank s' = 0 ∧ rank s = 0) := by have h1 := hst.rk; simp only at h1; omega
            have HST := Lib.hid hst
            have HRK2 := Lib.hid hrk2
            clear hst hx hwt hrk2
            have hW3 : Blk w3 w2.heap.size 37 #[.int .i64 kd, .int .i64 kc, .int .i64 kv, .int .i64 ko] := (Blk.new w2 _ _).grown hg3 (by intro hh; injection hh with hh; omega)
            have hL3 := (hL2.alloc (.cells #[.int .i64 kd, .int .i64 kc, .int .i64 kv, .int .i64 ko] 37)).grown hg3 (by intro hh; injection hh with hh; omega)
            have q0 : w3.cell? ⟨w2.heap.size, 0, none⟩ = some (.int .i64 kd) := (hW3.cell 0).trans rfl
            have q1 : w3.cell? ⟨w2.heap.size, 1, none⟩ = some (.int .i64 kc) := (hW3.cell 1).trans rfl
            have q2 : w3.cell? ⟨w2.heap.size, 2, none⟩ = some (.int .i64 kv) := (hW3.cell 2).trans rfl
            have q3 : w3.cell? ⟨w2.heap.size, 3, none⟩ = some (.int .i64 ko) := (hW3.cell 3).trans rfl
            have p0 : w3.cell? ⟨w.heap.size + 1, 0, none⟩ = some (.int .i64 last.kind) := (hL3.cell 0).trans rfl
            have p1 : w3.cell? ⟨w.heap.size + 1, 1, none⟩ = some (.int .i64 last.cell) := (hL3.cell 1).trans rfl
            have p2 : w3.cell? ⟨w.heap.size + 1, 2, none⟩ = some (.int .i64 last.value) := (hL3.cell 2).trans rfl
            have p3 : w3.cell? ⟨w.heap.size + 1, 3, none⟩ = some (.int .i64 last.code) := (hL3.cell 3).trans rfl
            have pf0 : w3.frozen? ⟨w.heap.size + 1, 0, none⟩ = false := hL3.frozen 0
            have pf1 : w3.frozen? ⟨w.heap.size + 1, 1, none⟩ = false := hL3.frozen 1
            have pf2 : w3.frozen? ⟨w.heap.size + 1, 2, none⟩ = false := hL3.frozen 2
            have pf3 : w3.frozen? ⟨w.heap.size + 1, 3, none⟩ = false := hL3.frozen 3
            have hlt3 := hL3.lt
            have hlt4 := hW3.lt
            have hmlt3 : mb < w3.heap.size := hM3.lt
            have hM4 : MIs w3 mb s' (fun g => g ≠ w.heap.size + 1) := hM3.more (by rintro g (h | h); exact h.1; simp at h; omega)
            have hob : Value.ownBlock _ ≠ some mb := (by obtain ⟨cs, hcs⟩ := hM2.blk; exact own_blk_ne (hown2.alloc _) hcs (by decide))
            have hown3 := (hown2.alloc (.cells #[.int .i64 kd, .int .i64 kc, .int .i64 kv, .int .i64 ko] 37)).kept hg3 (.inr hob)
            have hB3 := (hB2.alloc (.cells #[.int .i64 kd, .int .i64 kc, .int .i64 kv, .int .i64 ko] 37)).grown hg3 (by intro hh; injection hh with hh; omega)
            have hg4 := only_trans (only_alloc hg2 _) hg3
            clear hM3 hg3 hob hown2 hB2 hg2 hM2 hL2 hW3
            go_wp2
            go_roundg ((m + 4 - (k + 1)) + rank s')
            case measure =>
              have h1 := HGK.out
              have h2 := HRK2.out
              have h3 := HNZ.out
              omega
            case rel =>
              refine ⟨k + 1, read ++ [V], writes, ⟨kd, kc, kv, ko⟩, s', rfl, rfl, by go_num, rfl, ?_, by omega, by omega, ?_, ?_, ?_, ?_, ?_, ?_, ?_, ?_⟩
              · have h1 := HK42.out
                have h2 := HRK2.out
                have h3 := HNZ.out
                omega
              · first | omega | (simp; omega)
              · exact HST.out.fin
              · have h := HST.out.sim
                rw [HRN.out, HWN.out] at h
                exact h
              · exact ((((hM4.far (p := ⟨w.heap.size + 1, 0, none⟩) (by simp; omega) (by simp) _).far (p := ⟨w.heap.size + 1, 1, none⟩) (by simp; omega) (by simp) _).far (p := ⟨w.heap.size + 1, 2, none⟩) (by simp; omega) (by simp) _).far (p := ⟨w.heap.size + 1, 3, none⟩) (by simp; omega) (by simp) _).alloc _
              · rw [show (read ++ [V]).length = read.length + 1 from by simp]
                exact (ownsRow_setCell_below (ownsRow_setCell_below (ownsRow_setCell_below (ownsRow_setCell_below hown3 (by simp) _) (by simp) _) (by simp) _) (by simp) _).alloc _
              · exact ((((hB3.far (p := ⟨w.heap.size + 1, 0, none⟩) (by simp) _).far (p := ⟨w.heap.size + 1, 1, none⟩) (by simp) _).far (p := ⟨w.heap.size + 1, 2, none⟩) (by simp) _).far (p := ⟨w.heap.size + 1, 3, none⟩) (by simp) _).alloc _
              · exact ((((hL3.set_ 0 _).set_ 1 _).set_ 2 _).set_ 3 _).alloc _
              · exact only_alloc (only_setCell (only_setCell (only_setCell (only_setCell hg4 (.inr (by simp)) _) (.inr (by simp)) _) (.inr (by simp)) _) (.inr (by simp)) _) _
          · have e2 : (last.kind == 2) = false := by simp [h2]
            have HRN : Hid (readsNext last read V = read) := by show readsNext last read _ = _; simp [readsNext, h2]
            have HWN : Hid (writesNext last writes = writes) := by show writesNext last writes = _; simp [writesNext, h3]
            clear h3 h2
            have hMw := hMr
            have hBw := hBr
            have hLw := hLr
            have hgw := hgr
            have hownw := hown
            have hRdw := hRd
            have hrcw := hrc
            go_wp2_with fail
            refine (wants_any base most call args (read) (writes) last A (R) n nc (read.length) (rc) _ (by first | omega | (simp; omega)) hrcw HOK.out (by exact (hA.only hgw hB hmlt).more (by have := hgw.size; omega)) hRdw).mono ?_
            rintro e w2 ⟨kd, kc, kv, ko, hp, rfl, hb2⟩
            have HP := Lib.hid hp
            have hB2 := hBw.below hb2 hBw.lt
            have hL2 := hLw.below hb2 hLw.lt
            have hs2 : wr.heap.size ≤ w2.heap.size := hb2.size
            have hlw : w.heap.size + 1 < wr.heap.size := hLw.lt
            have hg2 : w.grownBy w2 (some mb) := only_below hgw hb2
            have hown2 := hownw.kept (only_of_below hb2 none) (by cases Value.ownBlock _ <;> simp)
            have hM2 := (hMw.below hb2).alloc (.cells #[.int .i64 kd, .int .i64 kc, .int .i64 kv, .int .i64 ko] 37)
            clear hp c0 c1 c2 c3 c4 l0 l1 l2 l3 hb2
            go_wp2_with fail
            refine (next_any mb s (fun g => g ≠ w.heap.size + 1 ∧ g < (w2.alloc (.cells #[.int .i64 kd, .int .i64 kc, .int .i64 kv, .int .i64 ko] 37)).heap.size) V _ HS.out.ok HS.out.look (fun g hg => hg.2) (by exact hM2.bound)).mono ?_
            rintro e w3 ⟨x, s', hx, rfl, hM3, hg3⟩
            have hst := step_sim HOK.out HS.out V
            rw [hx] at hst
            have he := hst.eq
            have hwt : wantsF base most call args (readsNext last read V) (writesNext last writes) last = ⟨kd, kc, kv, ko⟩ := by rw [HRN.out, HWN.out]; exact HP.out
            rw [hwt] at he
            simp only at he
            subst he
            have hrk2 : rank s' + 1 ≤ rank s ∨ (rank s' = 0 ∧ rank s = 0) := by have h1 := hst.rk; simp only at h1; omega
            have HST := Lib.hid hst
            have HRK2 := Lib.hid hrk2
            clear hst hx hwt hrk2
            have hW3 : Blk w3 w2.heap.size 37 #[.int .i64 kd, .int .i64 kc, .int .i64 kv, .int .i64 ko] := (Blk.new w2 _ _).grown hg3 (by intro hh; injection hh with hh; omega)
            have hL3 := (hL2.alloc (.cells #[.int .i64 kd, .int .i64 kc, .int .i64 kv, .int .i64 ko] 37)).grown hg3 (by intro hh; injection hh with hh; omega)
            have q0 : w3.cell? ⟨w2.heap.size, 0, none⟩ = some (.int .i64 kd) := (hW3.cell 0).trans rfl
            have q1 : w3.cell? ⟨w2.heap.size, 1, none⟩ = some (.int .i64 kc) := (hW3.cell 1).trans rfl
            have q2 : w3.cell? ⟨w2.heap.size, 2, none⟩ = some (.int .i64 kv) := (hW3.cell 2).trans rfl
            have q3 : w3.cell? ⟨w2.heap.size, 3, none⟩ = some (.int .i64 ko) := (hW3.cell 3).trans rfl
            have p0 : w3.cell? ⟨w.heap.size + 1, 0, none⟩ = some (.int .i64 last.kind) := (hL3.cell 0).trans rfl
            have p1 : w3.cell? ⟨w.heap.size + 1, 1, none⟩ = some (.int .i64 last.cell) := (hL3.cell 1).trans rfl
            have p2 : w3.cell? ⟨w.heap.size + 1, 2, none⟩ = some (.int .i64 last.value) := (hL3.cell 2).trans rfl
            have p3 : w3.cell? ⟨w.heap.size + 1, 3, none⟩ = some (.int .i64 last.code) := (hL3.cell 3).trans rfl
            have pf0 : w3.frozen? ⟨w.heap.size + 1, 0, none⟩ = false := hL3.frozen 0
            have pf1 : w3.frozen? ⟨w.heap.size + 1, 1, none⟩ = false := hL3.frozen 1
            have pf2 : w3.frozen? ⟨w.heap.size + 1, 2, none⟩ = false := hL3.frozen 2
            have pf3 : w3.frozen? ⟨w.heap.size + 1, 3, none⟩ = false := hL3.frozen 3
            have hlt3 := hL3.lt
            have hlt4 := hW3.lt
            have hmlt3 : mb < w3.heap.size := hM3.lt
            have hM4 : MIs w3 mb s' (fun g => g ≠ w.heap.size + 1) := hM3.more (by rintro g (h | h); exact h.1; simp at h; omega)
            have hob : Value.ownBlock _ ≠ some mb := (by obtain ⟨cs, hcs⟩ := hM2.blk; exact own_blk_ne (hown2.alloc _) hcs (by decide))
            have hown3 := (hown2.alloc (.cells #[.int .i64 kd, .int .i64 kc, .int .i64 kv, .int .i64 ko] 37)).kept hg3 (.inr hob)
            have hB3 := (hB2.alloc (.cells #[.int .i64 kd, .int .i64 kc, .int .i64 kv, .int .i64 ko] 37)).grown hg3 (by intro hh; injection hh with hh; omega)
            have hg4 := only_trans (only_alloc hg2 _) hg3
            clear hM3 hg3 hob hown2 hB2 hg2 hM2 hL2 hW3
            go_wp2
            go_roundg ((m + 4 - (k + 1)) + rank s')
            case measure =>
              have h1 := HGK.out
              have h2 := HRK2.out
              have h3 := HNZ.out
              omega
            case rel =>
              refine ⟨k + 1, read, writes, ⟨kd, kc, kv, ko⟩, s', rfl, rfl, by go_num, rfl, ?_, by omega, by omega, ?_, ?_, ?_, ?_, ?_, ?_, ?_, ?_⟩
              · have h1 := HK42.out
                have h2 := HRK2.out
                have h3 := HNZ.out
                omega
              · first | omega | (simp; omega)
              · exact HST.out.fin
              · have h := HST.out.sim
                rw [HRN.out, HWN.out] at h
                exact h
              · exact ((((hM4.far (p := ⟨w.heap.size + 1, 0, none⟩) (by simp; omega) (by simp) _).far (p := ⟨w.heap.size + 1, 1, none⟩) (by simp; omega) (by simp) _).far (p := ⟨w.heap.size + 1, 2, none⟩) (by simp; omega) (by simp) _).far (p := ⟨w.heap.size + 1, 3, none⟩) (by simp; omega) (by simp) _).alloc _
              · rw [show (read).length = read.length from rfl]
                exact (ownsRow_setCell_below (ownsRow_setCell_below (ownsRow_setCell_below (ownsRow_setCell_below hown3 (by simp) _) (by simp) _) (by simp) _) (by simp) _).alloc _
              · exact ((((hB3.far (p := ⟨w.heap.size + 1, 0, none⟩) (by simp) _).far (p := ⟨w.heap.size + 1, 1, none⟩) (by simp) _).far (p := ⟨w.heap.size + 1, 2, none⟩) (by simp) _).far (p := ⟨w.heap.size + 1, 3, none⟩) (by simp) _).alloc _
              · exact ((((hL3.set_ 0 _).set_ 1 _).set_ 2 _).set_ 3 _).alloc _
              · exact only_alloc (only_setCell (only_setCell (only_setCell (only_setCell hg4 (.inr (by simp)) _) (.inr (by simp)) _) (.inr (by simp)) _) (.inr (by simp)) _) _
      · have hkm' : decide ((k : Int) < (m : Int)) = false := by simp; omega
        by_cases h3 : last.kind = 3
        · have e3 : (last.kind == 3) = true := by simp [h3]
          have e2 : (last.kind == 2) = false := by simp [h3]
          have HRN : Hid (readsNext last read (0 : Int) = read) := by show readsNext last read _ = _; simp [readsNext, h3]
          have HWN : Hid (writesNext last writes = writes + 1) := by show writesNext last writes = _; simp [writesNext, h3]
          clear h3
          have hMw := hMr
          have hBw := hBr
          have hLw := hLr
          have hgw := hgr
          have hownw := hown
          have hRdw := hRd
          have hrcw := hrc
          go_wp2_with fail
          refine (wants_any base most call args (read) (writes + 1) last A (R) n nc (read.length) (rc) _ (by first | omega | (simp; omega)) hrcw HOK.out (by exact (hA.only hgw hB hmlt).more (by have := hgw.size; omega)) hRdw).mono ?_
          rintro e w2 ⟨kd, kc, kv, ko, hp, rfl, hb2⟩
          have HP := Lib.hid hp
          have hB2 := hBw.below hb2 hBw.lt
          have hL2 := hLw.below hb2 hLw.lt
          have hs2 : wr.heap.size ≤ w2.heap.size := hb2.size
          have hlw : w.heap.size + 1 < wr.heap.size := hLw.lt
          have hg2 : w.grownBy w2 (some mb) := only_below hgw hb2
          have hown2 := hownw.kept (only_of_below hb2 none) (by cases Value.ownBlock _ <;> simp)
          have hM2 := (hMw.below hb2).alloc (.cells #[.int .i64 kd, .int .i64 kc, .int .i64 kv, .int .i64 ko] 37)
          clear hp c0 c1 c2 c3 c4 l0 l1 l2 l3 hb2
          go_wp2_with fail
          refine (next_any mb s (fun g => g ≠ w.heap.size + 1 ∧ g < (w2.alloc (.cells #[.int .i64 kd, .int .i64 kc, .int .i64 kv, .int .i64 ko] 37)).heap.size) (0 : Int) _ HS.out.ok HS.out.look (fun g hg => hg.2) (by exact hM2.bound)).mono ?_
          rintro e w3 ⟨x, s', hx, rfl, hM3, hg3⟩
          have hst := step_sim HOK.out HS.out (0 : Int)
          rw [hx] at hst
          have he := hst.eq
          have hwt : wantsF base most call args (readsNext last read (0 : Int)) (writesNext last writes) last = ⟨kd, kc, kv, ko⟩ := by rw [HRN.out, HWN.out]; exact HP.out
          rw [hwt] at he
          simp only at he
          subst he
          have hrk2 : rank s' + 1 ≤ rank s ∨ (rank s' = 0 ∧ rank s = 0) := by have h1 := hst.rk; simp only at h1; omega
          have HST := Lib.hid hst
          have HRK2 := Lib.hid hrk2
          clear hst hx hwt hrk2
          have hW3 : Blk w3 w2.heap.size 37 #[.int .i64 kd, .int .i64 kc, .int .i64 kv, .int .i64 ko] := (Blk.new w2 _ _).grown hg3 (by intro hh; injection hh with hh; omega)
          have hL3 := (hL2.alloc (.cells #[.int .i64 kd, .int .i64 kc, .int .i64 kv, .int .i64 ko] 37)).grown hg3 (by intro hh; injection hh with hh; omega)
          have q0 : w3.cell? ⟨w2.heap.size, 0, none⟩ = some (.int .i64 kd) := (hW3.cell 0).trans rfl
          have q1 : w3.cell? ⟨w2.heap.size, 1, none⟩ = some (.int .i64 kc) := (hW3.cell 1).trans rfl
          have q2 : w3.cell? ⟨w2.heap.size, 2, none⟩ = some (.int .i64 kv) := (hW3.cell 2).trans rfl
          have q3 : w3.cell? ⟨w2.heap.size, 3, none⟩ = some (.int .i64 ko) := (hW3.cell 3).trans rfl
          have p0 : w3.cell? ⟨w.heap.size + 1, 0, none⟩ = some (.int .i64 last.kind) := (hL3.cell 0).trans rfl
          have p1 : w3.cell? ⟨w.heap.size + 1, 1, none⟩ = some (.int .i64 last.cell) := (hL3.cell 1).trans rfl
          have p2 : w3.cell? ⟨w.heap.size + 1, 2, none⟩ = some (.int .i64 last.value) := (hL3.cell 2).trans rfl
          have p3 : w3.cell? ⟨w.heap.size + 1, 3, none⟩ = some (.int .i64 last.code) := (hL3.cell 3).trans rfl
          have pf0 : w3.frozen? ⟨w.heap.size + 1, 0, none⟩ = false := hL3.frozen 0
          have pf1 : w3.frozen? ⟨w.heap.size + 1, 1, none⟩ = false := hL3.frozen 1
          have pf2 : w3.frozen? ⟨w.heap.size + 1, 2, none⟩ = false := hL3.frozen 2
          have pf3 : w3.frozen? ⟨w.heap.size + 1, 3, none⟩ = false := hL3.frozen 3
          have hlt3 := hL3.lt
          have hlt4 := hW3.lt
          have hmlt3 : mb < w3.heap.size := hM3.lt
          have hM4 : MIs w3 mb s' (fun g => g ≠ w.heap.size + 1) := hM3.more (by rintro g (h | h); exact h.1; simp at h; omega)
          have hob : Value.ownBlock _ ≠ some mb := (by obtain ⟨cs, hcs⟩ := hM2.blk; exact own_blk_ne (hown2.alloc _) hcs (by decide))
          have hown3 := (hown2.alloc (.cells #[.int .i64 kd, .int .i64 kc, .int .i64 kv, .int .i64 ko] 37)).kept hg3 (.inr hob)
          have hB3 := (hB2.alloc (.cells #[.int .i64 kd, .int .i64 kc, .int .i64 kv, .int .i64 ko] 37)).grown hg3 (by intro hh; injection hh with hh; omega)
          have hg4 := only_trans (only_alloc hg2 _) hg3
          clear hM3 hg3 hob hown2 hB2 hg2 hM2 hL2 hW3
          go_wp2
          go_roundg ((m + 4 - (k + 1)) + rank s')
          case measure =>
            have h1 := HGK.out
            have h2 := HRK2.out
            have h3 := HNZ.out
            omega
          case rel =>
            refine ⟨k + 1, read, writes + 1, ⟨kd, kc, kv, ko⟩, s', rfl, rfl, by go_num, rfl, ?_, by omega, by omega, ?_, ?_, ?_, ?_, ?_, ?_, ?_, ?_⟩
            · have h1 := HK42.out
              have h2 := HRK2.out
              have h3 := HNZ.out
              omega
            · first | omega | (simp; omega)
            · exact HST.out.fin
            · have h := HST.out.sim
              rw [HRN.out, HWN.out] at h
              exact h
            · exact ((((hM4.far (p := ⟨w.heap.size + 1, 0, none⟩) (by simp; omega) (by simp) _).far (p := ⟨w.heap.size + 1, 1, none⟩) (by simp; omega) (by simp) _).far (p := ⟨w.heap.size + 1, 2, none⟩) (by simp; omega) (by simp) _).far (p := ⟨w.heap.size + 1, 3, none⟩) (by simp; omega) (by simp) _).alloc _
            · rw [show (read).length = read.length from rfl]
              exact (ownsRow_setCell_below (ownsRow_setCell_below (ownsRow_setCell_below (ownsRow_setCell_below hown3 (by simp) _) (by simp) _) (by simp) _) (by simp) _).alloc _
            · exact ((((hB3.far (p := ⟨w.heap.size + 1, 0, none⟩) (by simp) _).far (p := ⟨w.heap.size + 1, 1, none⟩) (by simp) _).far (p := ⟨w.heap.size + 1, 2, none⟩) (by simp) _).far (p := ⟨w.heap.size + 1, 3, none⟩) (by simp) _).alloc _
            · exact ((((hL3.set_ 0 _).set_ 1 _).set_ 2 _).set_ 3 _).alloc _
            · exact only_alloc (only_setCell (only_setCell (only_setCell (only_setCell hg4 (.inr (by simp)) _) (.inr (by simp)) _) (.inr (by simp)) _) (.inr (by simp)) _) _
        · have e3 : (last.kind == 3) = false := by simp [h3]
          by_cases h2 : last.kind = 2
          · have e2 : (last.kind == 2) = true := by simp [h2]
            have HRN : Hid (readsNext last read (0 : Int) = read ++ [(0 : Int)]) := by show readsNext last read _ = _; simp [readsNext, h2]
            have HWN : Hid (writesNext last writes = writes) := by show writesNext last writes = _; simp [writesNext, h3]
            have hc2 : ∀ u ∈ ([.int .i64 (0 : Int)] : List Value), u.oneCell' = true := (by intro u hu; simp at hu; subst hu; rfl)
            have hc3 : read.length + 1 ≤ maxLen := (by unfold maxLen; omega)
            have hc4 : (read.length + 1) * 8 ≤ 140737488355328 := (by omega)
            have hc5 : w.heap.size + 2 ≤ (wr.alloc (.cells #[.int .i64 (0 : Int)] 2)).heap.size := (by simp; omega)
            clear h3 h2
            go_wp2_with (at_builtin; go_must (refine wpList_append_own _ rfl _ _ 24 rfl (w.heap.size + 2) 2 i0 (.int .i64 0) 1 8 Try.underlying24 hi hz0 hz1 hz2 rfl (by decide) _ _ _ rfl (hown.alloc _) ⟨wr.heap.size, 0, none⟩ 1 1 [.int .i64 (0 : Int)] rfl rfl (cell_one_new _ _ _) hc2 hc3 hc4 hc5 ?_; intro v' w1 hown' hgrow _; obtain ⟨R', rc', hv', hrcw, hownw, hRdw, hMw, hBw, hLw, hgw⟩ := play_app hown hMr hBr hLr hgr hown' hgrow; rw [hv']; have c0w : w1.cell? ⟨w.heap.size, 0, none⟩ = some (.int .i64 base) := (hBw.cell 0).trans rfl; have c1w : w1.cell? ⟨w.heap.size, 1, none⟩ = some (.int .i64 most) := (hBw.cell 1).trans rfl; have c2w : w1.cell? ⟨w.heap.size, 2, none⟩ = some (.int .i64 call) := (hBw.cell 2).trans rfl; have c3w : w1.cell? ⟨w.heap.size, 3, none⟩ = some (.slice A n nc) := (hBw.cell 3).trans rfl; have l0w : w1.cell? ⟨w.heap.size + 1, 0, none⟩ = some (.int .i64 last.kind) := (hLw.cell 0).trans rfl; have l1w : w1.cell? ⟨w.heap.size + 1, 1, none⟩ = some (.int .i64 last.cell) := (hLw.cell 1).trans rfl; have l2w : w1.cell? ⟨w.heap.size + 1, 2, none⟩ = some (.int .i64 last.value) := (hLw.cell 2).trans rfl; have l3w : w1.cell? ⟨w.heap.size + 1, 3, none⟩ = some (.int .i64 last.code) := (hLw.cell 3).trans rfl; have hltw := hLw.lt; clear hv' hown' hgrow))
            have hrcw : read.length + 1 ≤ rc' := by assumption
            have hownw : w1.ownsRow (w.heap.size + 2) 2 1 (.slice R' (read.length + 1) rc') (read.length + 1) (ints (read ++ [(0 : Int)])) := by assumption
            have hRdw : Reads w1 w1.heap.size 1 R' (read.length + 1) (ints (read ++ [(0 : Int)])) := by assumption
            refine (wants_any base most call args (read ++ [(0 : Int)]) (writes) last A (R') n nc (read.length + 1) (rc') _ (by first | omega | (simp; omega)) hrcw HOK.out (by exact (hA.only hgw hB hmlt).more (by have := hgw.size; omega)) hRdw).mono ?_
            rintro e w2 ⟨kd, kc, kv, ko, hp, rfl, hb2⟩
            have HP := Lib.hid hp
            have hB2 := hBw.below hb2 hBw.lt
            have hL2 := hLw.below hb2 hLw.lt
            have hs2 : w1.heap.size ≤ w2.heap.size := hb2.size
            have hlw : w.heap.size + 1 < w1.heap.size := hLw.lt
            have hg2 : w.grownBy w2 (some mb) := only_below hgw hb2
            have hown2 := hownw.kept (only_of_below hb2 none) (by cases Value.ownBlock _ <;> simp)
            have hM2 := (hMw.below hb2).alloc (.cells #[.int .i64 kd, .int .i64 kc, .int .i64 kv, .int .i64 ko] 37)
            clear hp c0 c1 c2 c3 c4 l0 l1 l2 l3 hb2
            go_wp2_with fail
            refine (next_any mb s (fun g => g ≠ w.heap.size + 1 ∧ g < (w2.alloc (.cells #[.int .i64 kd, .int .i64 kc, .int .i64 kv, .int .i64 ko] 37)).heap.size) (0 : Int) _ HS.out.ok HS.out.look (fun g hg => hg.2) (by exact hM2.bound)).mono ?_
            rintro e w3 ⟨x, s', hx, rfl, hM3, hg3⟩
            have hst := step_sim HOK.out HS.out (0 : Int)
            rw [hx] at hst
            have he := hst.eq
            have hwt : wantsF base most call args (readsNext last read (0 : Int)) (writesNext last writes) last = ⟨kd, kc, kv, ko⟩ := by rw [HRN.out, HWN.out]; exact HP.out
            rw [hwt] at he
            simp only at he
            subst he
            have hrk2 : rank s' + 1 ≤ rank s ∨ (rank s' = 0 ∧ rank s = 0) := by have h1 := hst.rk; simp only at h1; omega
            have HST := Lib.hid hst
            have HRK2 := Lib.hid hrk2
            clear hst hx hwt hrk2
            have hW3 : Blk w3 w2.heap.size 37 #[.int .i64 kd, .int .i64 kc, .int .i64 kv, .int .i64 ko] := (Blk.new w2 _ _).grown hg3 (by intro hh; injection hh with hh; omega)
            have hL3 := (hL2.alloc (.cells #[.int .i64 kd, .int .i64 kc, .int .i64 kv, .int .i64 ko] 37)).grown hg3 (by intro hh; injection hh with hh; omega)
            have q0 : w3.cell? ⟨w2.heap.size, 0, none⟩ = some (.int .i64 kd) := (hW3.cell 0).trans rfl
            have q1 : w3.cell? ⟨w2.heap.size, 1, none⟩ = some (.int .i64 kc) := (hW3.cell 1).trans rfl
            have q2 : w3.cell? ⟨w2.heap.size, 2, none⟩ = some (.int .i64 kv) := (hW3.cell 2).trans rfl
            have q3 : w3.cell? ⟨w2.heap.size, 3, none⟩ = some (.int .i64 ko) := (hW3.cell 3).trans rfl
            have p0 : w3.cell? ⟨w.heap.size + 1, 0, none⟩ = some (.int .i64 last.kind) := (hL3.cell 0).trans rfl
            have p1 : w3.cell? ⟨w.heap.size + 1, 1, none⟩ = some (.int .i64 last.cell) := (hL3.cell 1).trans rfl
            have p2 : w3.cell? ⟨w.heap.size + 1, 2, none⟩ = some (.int .i64 last.value) := (hL3.cell 2).trans rfl
            have p3 : w3.cell? ⟨w.heap.size + 1, 3, none⟩ = some (.int .i64 last.code) := (hL3.cell 3).trans rfl
            have pf0 : w3.frozen? ⟨w.heap.size + 1, 0, none⟩ = false := hL3.frozen 0
            have pf1 : w3.frozen? ⟨w.heap.size + 1, 1, none⟩ = false := hL3.frozen 1
            have pf2 : w3.frozen? ⟨w.heap.size + 1, 2, none⟩ = false := hL3.frozen 2
            have pf3 : w3.frozen? ⟨w.heap.size + 1, 3, none⟩ = false := hL3.frozen 3
            have hlt3 := hL3.lt
            have hlt4 := hW3.lt
            have hmlt3 : mb < w3.heap.size := hM3.lt
            have hM4 : MIs w3 mb s' (fun g => g ≠ w.heap.size + 1) := hM3.more (by rintro g (h | h); exact h.1; simp at h; omega)
            have hob : Value.ownBlock _ ≠ some mb := (by obtain ⟨cs, hcs⟩ := hM2.blk; exact own_blk_ne (hown2.alloc _) hcs (by decide))
            have hown3 := (hown2.alloc (.cells #[.int .i64 kd, .int .i64 kc, .int .i64 kv, .int .i64 ko] 37)).kept hg3 (.inr hob)
            have hB3 := (hB2.alloc (.cells #[.int .i64 kd, .int .i64 kc, .int .i64 kv, .int .i64 ko] 37)).grown hg3 (by intro hh; injection hh with hh; omega)
            have hg4 := only_trans (only_alloc hg2 _) hg3
            clear hM3 hg3 hob hown2 hB2 hg2 hM2 hL2 hW3
            go_wp2
            go_roundg ((m + 4 - (k + 1)) + rank s')
            case measure =>
              have h1 := HGK.out
              have h2 := HRK2.out
              have h3 := HNZ.out
              omega
            case rel =>
              refine ⟨k + 1, read ++ [(0 : Int)], writes, ⟨kd, kc, kv, ko⟩, s', rfl, rfl, by go_num, rfl, ?_, by omega, by omega, ?_, ?_, ?_, ?_, ?_, ?_, ?_, ?_⟩
              · have h1 := HK42.out
                have h2 := HRK2.out
                have h3 := HNZ.out
                omega
              · first | omega | (simp; omega)
              · exact HST.out.fin
              · have h := HST.out.sim
                rw [HRN.out, HWN.out] at h
                exact h
              · exact ((((hM4.far (p := ⟨w.heap.size + 1, 0, none⟩) (by simp; omega) (by simp) _).far (p := ⟨w.heap.size + 1, 1, none⟩) (by simp; omega) (by simp) _).far (p := ⟨w.heap.size + 1, 2, none⟩) (by simp; omega) (by simp) _).far (p := ⟨w.heap.size + 1, 3, none⟩) (by simp; omega) (by simp) _).alloc _
              · rw [show (read ++ [(0 : Int)]).length = read.length + 1 from by simp]
                exact (ownsRow_setCell_below (ownsRow_setCell_below (ownsRow_setCell_below (ownsRow_setCell_below hown3 (by simp) _) (by simp) _) (by simp) _) (by simp) _).alloc _
              · exact ((((hB3.far (p := ⟨w.heap.size + 1, 0, none⟩) (by simp) _).far (p := ⟨w.heap.size + 1, 1, none⟩) (by simp) _).far (p := ⟨w.heap.size + 1, 2, none⟩) (by simp) _).far (p := ⟨w.heap.size + 1, 3, none⟩) (by simp) _).alloc _
              · exact ((((hL3.set_ 0 _).set_ 1 _).set_ 2 _).set_ 3 _).alloc _
              · exact only_alloc (only_setCell (only_setCell (only_setCell (only_setCell hg4 (.inr (by simp)) _) (.inr (by simp)) _) (.inr (by simp)) _) (.inr (by simp)) _) _
          · have e2 : (last.kind == 2) = false := by simp [h2]
            have HRN : Hid (readsNext last read (0 : Int) = read) := by show readsNext last read _ = _; simp [readsNext, h2]
            have HWN : Hid (writesNext last writes = writes) := by show writesNext last writes = _; simp [writesNext, h3]
            clear h3 h2
            have hMw := hMr
            have hBw := hBr
            have hLw := hLr
            have hgw := hgr
            have hownw := hown
            have hRdw := hRd
            have hrcw := hrc
            go_wp2_with fail
            refine (wants_any base most call args (read) (writes) last A (R) n nc (read.length) (rc) _ (by first | omega | (simp; omega)) hrcw HOK.out (by exact (hA.only hgw hB hmlt).more (by have := hgw.size; omega)) hRdw).mono ?_
            rintro e w2 ⟨kd, kc, kv, ko, hp, rfl, hb2⟩
            have HP := Lib.hid hp
            have hB2 := hBw.below hb2 hBw.lt
            have hL2 := hLw.below hb2 hLw.lt
            have hs2 : wr.heap.size ≤ w2.heap.size := hb2.size
            have hlw : w.heap.size + 1 < wr.heap.size := hLw.lt
            have hg2 : w.grownBy w2 (some mb) := only_below hgw hb2
            have hown2 := hownw.kept (only_of_below hb2 none) (by cases Value.ownBlock _ <;> simp)
            have hM2 := (hMw.below hb2).alloc (.cells #[.int .i64 kd, .int .i64 kc, .int .i64 kv, .int .i64 ko] 37)
            clear hp c0 c1 c2 c3 c4 l0 l1 l2 l3 hb2
            go_wp2_with fail
            refine (next_any mb s (fun g => g ≠ w.heap.size + 1 ∧ g < (w2.alloc (.cells #[.int .i64 kd, .int .i64 kc, .int .i64 kv, .int .i64 ko] 37)).heap.size) (0 : Int) _ HS.out.ok HS.out.look (fun g hg => hg.2) (by exact hM2.bound)).mono ?_
            rintro e w3 ⟨x, s', hx, rfl, hM3, hg3⟩
            have hst := step_sim HOK.out HS.out (0 : Int)
            rw [hx] at hst
            have he := hst.eq
            have hwt : wantsF base most call args (readsNext last read (0 : Int)) (writesNext last writes) last = ⟨kd, kc, kv, ko⟩ := by rw [HRN.out, HWN.out]; exact HP.out
            rw [hwt] at he
            simp only at he
            subst he
            have hrk2 : rank s' + 1 ≤ rank s ∨ (rank s' = 0 ∧ rank s = 0) := by have h1 := hst.rk; simp only at h1; omega
            have HST := Lib.hid hst
            have HRK2 := Lib.hid hrk2
            clear hst hx hwt hrk2
            have hW3 : Blk w3 w2.heap.size 37 #[.int .i64 kd, .int .i64 kc, .int .i64 kv, .int .i64 ko] := (Blk.new w2 _ _).grown hg3 (by intro hh; injection hh with hh; omega)
            have hL3 := (hL2.alloc (.cells #[.int .i64 kd, .int .i64 kc, .int .i64 kv, .int .i64 ko] 37)).grown hg3 (by intro hh; injection hh with hh; omega)
            have q0 : w3.cell? ⟨w2.heap.size, 0, none⟩ = some (.int .i64 kd) := (hW3.cell 0).trans rfl
            have q1 : w3.cell? ⟨w2.heap.size, 1, none⟩ = some (.int .i64 kc) := (hW3.cell 1).trans rfl
            have q2 : w3.cell? ⟨w2.heap.size, 2, none⟩ = some (.int .i64 kv) := (hW3.cell 2).trans rfl
            have q3 : w3.cell? ⟨w2.heap.size, 3, none⟩ = some (.int .i64 ko) := (hW3.cell 3).trans rfl
            have p0 : w3.cell? ⟨w.heap.size + 1, 0, none⟩ = some (.int .i64 last.kind) := (hL3.cell 0).trans rfl
            have p1 : w3.cell? ⟨w.heap.size + 1, 1, none⟩ = some (.int .i64 last.cell) := (hL3.cell 1).trans rfl
            have p2 : w3.cell? ⟨w.heap.size + 1, 2, none⟩ = some (.int .i64 last.value) := (hL3.cell 2).trans rfl
            have p3 : w3.cell? ⟨w.heap.size + 1, 3, none⟩ = some (.int .i64 last.code) := (hL3.cell 3).trans rfl
            have pf0 : w3.frozen? ⟨w.heap.size + 1, 0, none⟩ = false := hL3.frozen 0
            have pf1 : w3.frozen? ⟨w.heap.size + 1, 1, none⟩ = false := hL3.frozen 1
            have pf2 : w3.frozen? ⟨w.heap.size + 1, 2, none⟩ = false := hL3.frozen 2
            have pf3 : w3.frozen? ⟨w.heap.size + 1, 3, none⟩ = false := hL3.frozen 3
            have hlt3 := hL3.lt
            have hlt4 := hW3.lt
            have hmlt3 : mb < w3.heap.size := hM3.lt
            have hM4 : MIs w3 mb s' (fun g => g ≠ w.heap.size + 1) := hM3.more (by rintro g (h | h); exact h.1; simp at h; omega)
            have hob : Value.ownBlock _ ≠ some mb := (by obtain ⟨cs, hcs⟩ := hM2.blk; exact own_blk_ne (hown2.alloc _) hcs (by decide))
            have hown3 := (hown2.alloc (.cells #[.int .i64 kd, .int .i64 kc, .int .i64 kv, .int .i64 ko] 37)).kept hg3 (.inr hob)
            have hB3 := (hB2.alloc (.cells #[.int .i64 kd, .int .i64 kc, .int .i64 kv, .int .i64 ko] 37)).grown hg3 (by intro hh; injection hh with hh; omega)
            have hg4 := only_trans (only_alloc hg2 _) hg3
            clear hM3 hg3 hob hown2 hB2 hg2 hM2 hL2 hW3
            go_wp2
            go_roundg ((m + 4 - (k + 1)) + rank s')
            case measure =>
              have h1 := HGK.out
              have h2 := HRK2.out
              have h3 := HNZ.out
              omega
            case rel =>
              refine ⟨k + 1, read, writes, ⟨kd, kc, kv, ko⟩, s', rfl, rfl, by go_num, rfl, ?_, by omega, by omega, ?_, ?_, ?_, ?_, ?_, ?_, ?_, ?_⟩
              · have h1 := HK42.out
                have h2 := HRK2.out
                have h3 := HNZ.out
                omega
              · first | omega | (simp; omega)
              · exact HST.out.fin
              · have h := HST.out.sim
                rw [HRN.out, HWN.out] at h
                exact h
              · exact ((((hM4.far (p := ⟨w.heap.size + 1, 0, none⟩) (by simp; omega) (by simp) _).far (p := ⟨w.heap.size + 1, 1, none⟩) (by simp; omega) (by simp) _).far (p := ⟨w.heap.size + 1, 2, none⟩) (by simp; omega) (by simp) _).far (p := ⟨w.heap.size + 1, 3, none⟩) (by simp; omega) (by simp) _).alloc _
              · rw [show (read).length = read.length from rfl]
                exact (ownsRow_setCell_below (ownsRow_setCell_below (ownsRow_setCell_below (ownsRow_setCell_below hown3 (by simp) _) (by simp) _) (by simp) _) (by simp) _).alloc _
              · exact ((((hB3.far (p := ⟨w.heap.size + 1, 0, none⟩) (by simp) _).far (p := ⟨w.heap.size + 1, 1, none⟩) (by simp) _).far (p := ⟨w.heap.size + 1, 2, none⟩) (by simp) _).far (p := ⟨w.heap.size + 1, 3, none⟩) (by simp) _).alloc _
              · exact ((((hL3.set_ 0 _).set_ 1 _).set_ 2 _).set_ 3 _).alloc _
              · exact only_alloc (only_setCell (only_setCell (only_setCell (only_setCell hg4 (.inr (by simp)) _) (.inr (by simp)) _) (.inr (by simp)) _) (.inr (by simp)) _) _
    · by_cases h6 : last.kind = 6
      · have e6 : (last.kind != 6) = false := by simp [h6]
        have hk4' : decide ((k : Int) < (m : Int) + 4) = false := by simp; omega
        clear h6
        go_wp2
        go_ret
        exact ⟨rfl, hgr⟩
      · have HNZ : Hid (k < m + 4 ∨ rank s ≠ 0) := (Or.inr (fun h => h6 (HL6.out.2 h)) : k < m + 4 ∨ rank s ≠ 0)
        have e6 : (last.kind != 6) = true := by simp [h6]
        have hk4' : decide ((k : Int) < (m : Int) + 4) = false := by simp; omega
        have hkm' : decide ((k : Int) < (m : Int)) = false := by simp; omega
        have hkm2 : ¬ k < m := by omega
        clear h6
        by_cases h3 : last.kind = 3
        · have e3 : (last.kind == 3) = true := by simp [h3]
          have e2 : (last.kind == 2) = false := by simp [h3]
          have HRN : Hid (readsNext last read (0 : Int) = read) := by show readsNext last read _ = _; simp [readsNext, h3]
          have HWN : Hid (writesNext last writes = writes + 1) := by show writesNext last writes = _; simp [writesNext, h3]
          clear h3
          have hMw := hMr
          have hBw := hBr
          have hLw := hLr
          have hgw := hgr
          have hownw := hown
          have hRdw := hRd
          have hrcw := hrc
          go_wp2_with fail
          refine (wants_any base most call args (read) (writes + 1) last A (R) n nc (read.length) (rc) _ (by first | omega | (simp; omega)) hrcw HOK.out (by exact (hA.only hgw hB hmlt).more (by have := hgw.size; omega)) hRdw).mono ?_
          rintro e w2 ⟨kd, kc, kv, ko, hp, rfl, hb2⟩
          have HP := Lib.hid hp
          have hB2 := hBw.below hb2 hBw.lt
          have hL2 := hLw.below hb2 hLw.lt
          have hs2 : wr.heap.size ≤ w2.heap.size := hb2.size
          have hlw : w.heap.size + 1 < wr.heap.size := hLw.lt
          have hg2 : w.grownBy w2 (some mb) := only_below hgw hb2
          have hown2 := hownw.kept (only_of_below hb2 none) (by cases Value.ownBlock _ <;> simp)
          have hM2 := (hMw.below hb2).alloc (.cells #[.int .i64 kd, .int .i64 kc, .int .i64 kv, .int .i64 ko] 37)
          clear hp c0 c1 c2 c3 c4 l0 l1 l2 l3 hb2
          go_wp2_with fail
          refine (next_any mb s (fun g => g ≠ w.heap.size + 1 ∧ g < (w2.alloc (.cells #[.int .i64 kd, .int .i64 kc, .int .i64 kv, .int .i64 ko] 37)).heap.size) (0 : Int) _ HS.out.ok HS.out.look (fun g hg => hg.2) (by exact hM2.bound)).mono ?_
          rintro e w3 ⟨x, s', hx, rfl, hM3, hg3⟩
          have hst := step_sim HOK.out HS.out (0 : Int)
          rw [hx] at hst
          have he := hst.eq
          have hwt : wantsF base most call args (readsNext last read (0 : Int)) (writesNext last writes) last = ⟨kd, kc, kv, ko⟩ := by rw [HRN.out, HWN.out]; exact HP.out
          rw [hwt] at he
          simp only at he
          subst he
          have hrk2 : rank s' + 1 ≤ rank s ∨ (rank s' = 0 ∧ rank s = 0) := by have h1 := hst.rk; simp only at h1; omega
          have HST := Lib.hid hst
          have HRK2 := Lib.hid hrk2
          clear hst hx hwt hrk2
          have hW3 : Blk w3 w2.heap.size 37 #[.int .i64 kd, .int .i64 kc, .int .i64 kv, .int .i64 ko] := (Blk.new w2 _ _).grown hg3 (by intro hh; injection hh with hh; omega)
          have hL3 := (hL2.alloc (.cells #[.int .i64 kd, .int .i64 kc, .int .i64 kv, .int .i64 ko] 37)).grown hg3 (by intro hh; injection hh with hh; omega)
          have q0 : w3.cell? ⟨w2.heap.size, 0, none⟩ = some (.int .i64 kd) := (hW3.cell 0).trans rfl
          have q1 : w3.cell? ⟨w2.heap.size, 1, none⟩ = some (.int .i64 kc) := (hW3.cell 1).trans rfl
          have q2 : w3.cell? ⟨w2.heap.size, 2, none⟩ = some (.int .i64 kv) := (hW3.cell 2).trans rfl
          have q3 : w3.cell? ⟨w2.heap.size, 3, none⟩ = some (.int .i64 ko) := (hW3.cell 3).trans rfl
          have p0 : w3.cell? ⟨w.heap.size + 1, 0, none⟩ = some (.int .i64 last.kind) := (hL3.cell 0).trans rfl
          have p1 : w3.cell? ⟨w.heap.size + 1, 1, none⟩ = some (.int .i64 last.cell) := (hL3.cell 1).trans rfl
          have p2 : w3.cell? ⟨w.heap.size + 1, 2, none⟩ = some (.int .i64 last.value) := (hL3.cell 2).trans rfl
          have p3 : w3.cell? ⟨w.heap.size + 1, 3, none⟩ = some (.int .i64 last.code) := (hL3.cell 3).trans rfl
          have pf0 : w3.frozen? ⟨w.heap.size + 1, 0, none⟩ = false := hL3.frozen 0
          have pf1 : w3.frozen? ⟨w.heap.size + 1, 1, none⟩ = false := hL3.frozen 1
          have pf2 : w3.frozen? ⟨w.heap.size + 1, 2, none⟩ = false := hL3.frozen 2
          have pf3 : w3.frozen? ⟨w.heap.size + 1, 3, none⟩ = false := hL3.frozen 3
          have hlt3 := hL3.lt
          have hlt4 := hW3.lt
          have hmlt3 : mb < w3.heap.size := hM3.lt
          have hM4 : MIs w3 mb s' (fun g => g ≠ w.heap.size + 1) := hM3.more (by rintro g (h | h); exact h.1; simp at h; omega)
          have hob : Value.ownBlock _ ≠ some mb := (by obtain ⟨cs, hcs⟩ := hM2.blk; exact own_blk_ne (hown2.alloc _) hcs (by decide))
          have hown3 := (hown2.alloc (.cells #[.int .i64 kd, .int .i64 kc, .int .i64 kv, .int .i64 ko] 37)).kept hg3 (.inr hob)
          have hB3 := (hB2.alloc (.cells #[.int .i64 kd, .int .i64 kc, .int .i64 kv, .int .i64 ko] 37)).grown hg3 (by intro hh; injection hh with hh; omega)
          have hg4 := only_trans (only_alloc hg2 _) hg3
          clear hM3 hg3 hob hown2 hB2 hg2 hM2 hL2 hW3
          go_wp2
          go_roundg ((m + 4 - (k + 1)) + rank s')
          case measure =>
            have h1 := HGK.out
            have h2 := HRK2.out
            have h3 := HNZ.out
            omega
          case rel =>
            refine ⟨k + 1, read, writes + 1, ⟨kd, kc, kv, ko⟩, s', rfl, rfl, by go_num, rfl, ?_, by omega, by omega, ?_, ?_, ?_, ?_, ?_, ?_, ?_, ?_⟩
            · have h1 := HK42.out
              have h2 := HRK2.out
              have h3 := HNZ.out
              omega
            · first | omega | (simp; omega)
            · exact HST.out.fin
            · have h := HST.out.sim
              rw [HRN.out, HWN.out] at h
              exact h
            · exact ((((hM4.far (p := ⟨w.heap.size + 1, 0, none⟩) (by simp; omega) (by simp) _).far (p := ⟨w.heap.size + 1, 1, none⟩) (by simp; omega) (by simp) _).far (p := ⟨w.heap.size + 1, 2, none⟩) (by simp; omega) (by simp) _).far (p := ⟨w.heap.size + 1, 3, none⟩) (by simp; omega) (by simp) _).alloc _
            · rw [show (read).length = read.length from rfl]
              exact (ownsRow_setCell_below (ownsRow_setCell_below (ownsRow_setCell_below (ownsRow_setCell_below hown3 (by simp) _) (by simp) _) (by simp) _) (by simp) _).alloc _
            · exact ((((hB3.far (p := ⟨w.heap.size + 1, 0, none⟩) (by simp) _).far (p := ⟨w.heap.size + 1, 1, none⟩) (by simp) _).far (p := ⟨w.heap.size + 1, 2, none⟩) (by simp) _).far (p := ⟨w.heap.size + 1, 3, none⟩) (by simp) _).alloc _
            · exact ((((hL3.set_ 0 _).set_ 1 _).set_ 2 _).set_ 3 _).alloc _
            · exact only_alloc (only_setCell (only_setCell (only_setCell (only_setCell hg4 (.inr (by simp)) _) (.inr (by simp)) _) (.inr (by simp)) _) (.inr (by simp)) _) _
        · have e3 : (last.kind == 3) = false := by simp [h3]
          by_cases h2 : last.kind = 2
          · have e2 : (last.kind == 2) = true := by simp [h2]
            have HRN : Hid (readsNext last read (0 : Int) = read ++ [(0 : Int)]) := by show readsNext last read _ = _; simp [readsNext, h2]
            have HWN : Hid (writesNext last writes = writes) := by show writesNext last writes = _; simp [writesNext, h3]
            have hc2 : ∀ u ∈ ([.int .i64 (0 : Int)] : List Value), u.oneCell' = true := (by intro u hu; simp at hu; subst hu; rfl)
            have hc3 : read.length + 1 ≤ maxLen := (by unfold maxLen; omega)
            have hc4 : (read.length + 1) * 8 ≤ 140737488355328 := (by omega)
            have hc5 : w.heap.size + 2 ≤ (wr.alloc (.cells #[.int .i64 (0 : Int)] 2)).heap.size := (by simp; omega)
            clear h3 h2
            go_wp2_with (at_builtin; go_must (refine wpList_append_own _ rfl _ _ 24 rfl (w.heap.size + 2) 2 i0 (.int .i64 0) 1 8 Try.underlying24 hi hz0 hz1 hz2 rfl (by decide) _ _ _ rfl (hown.alloc _) ⟨wr.heap.size, 0, none⟩ 1 1 [.int .i64 (0 : Int)] rfl rfl (cell_one_new _ _ _) hc2 hc3 hc4 hc5 ?_; intro v' w1 hown' hgrow _; obtain ⟨R', rc', hv', hrcw, hownw, hRdw, hMw, hBw, hLw, hgw⟩ := play_app hown hMr hBr hLr hgr hown' hgrow; rw [hv']; have c0w : w1.cell? ⟨w.heap.size, 0, none⟩ = some (.int .i64 base) := (hBw.cell 0).trans rfl; have c1w : w1.cell? ⟨w.heap.size, 1, none⟩ = some (.int .i64 most) := (hBw.cell 1).trans rfl; have c2w : w1.cell? ⟨w.heap.size, 2, none⟩ = some (.int .i64 call) := (hBw.cell 2).trans rfl; have c3w : w1.cell? ⟨w.heap.size, 3, none⟩ = some (.slice A n nc) := (hBw.cell 3).trans rfl; have l0w : w1.cell? ⟨w.heap.size + 1, 0, none⟩ = some (.int .i64 last.kind) := (hLw.cell 0).trans rfl; have l1w : w1.cell? ⟨w.heap.size + 1, 1, none⟩ = some (.int .i64 last.cell) := (hLw.cell 1).trans rfl; have l2w : w1.cell? ⟨w.heap.size + 1, 2, none⟩ = some (.int .i64 last.value) := (hLw.cell 2).trans rfl; have l3w : w1.cell? ⟨w.heap.size + 1, 3, none⟩ = some (.int .i64 last.code) := (hLw.cell 3).trans rfl; have hltw := hLw.lt; clear hv' hown' hgrow))
            have hrcw : read.length + 1 ≤ rc' := by assumption
            have hownw : w1.ownsRow (w.heap.size + 2) 2 1 (.slice R' (read.length + 1) rc') (read.length + 1) (ints (read ++ [(0 : Int)])) := by assumption
            have hRdw : Reads w1 w1.heap.size 1 R' (read.length + 1) (ints (read ++ [(0 : Int)])) := by assumption
            refine (wants_any base most call args (read ++ [(0 : Int)]) (writes) last A (R') n nc (read.length + 1) (rc') _ (by first | omega | (simp; omega)) hrcw HOK.out (by exact (hA.only hgw hB hmlt).more (by have := hgw.size; omega)) hRdw).mono ?_
            rintro e w2 ⟨kd, kc, kv, ko, hp, rfl, hb2⟩
            have HP := Lib.hid hp
            have hB2 := hBw.below hb2 hBw.lt
            have hL2 := hLw.below hb2 hLw.lt
            have hs2 : w1.heap.size ≤ w2.heap.size := hb2.size
            have hlw : w.heap.size + 1 < w1.heap.size := hLw.lt
            have hg2 : w.grownBy w2 (some mb) := only_below hgw hb2
            have hown2 := hownw.kept (only_of_below hb2 none) (by cases Value.ownBlock _ <;> simp)
            have hM2 := (hMw.below hb2).alloc (.cells #[.int .i64 kd, .int .i64 kc, .int .i64 kv, .int .i64 ko] 37)
            clear hp c0 c1 c2 c3 c4 l0 l1 l2 l3 hb2
            go_wp2_with fail
            refine (next_any mb s (fun g => g ≠ w.heap.size + 1 ∧ g < (w2.alloc (.cells #[.int .i64 kd, .int .i64 kc, .int .i64 kv, .int .i64 ko] 37)).heap.size) (0 : Int) _ HS.out.ok HS.out.look (fun g hg => hg.2) (by exact hM2.bound)).mono ?_
            rintro e w3 ⟨x, s', hx, rfl, hM3, hg3⟩
            have hst := step_sim HOK.out HS.out (0 : Int)
            rw [hx] at hst
            have he := hst.eq
            have hwt : wantsF base most call args (readsNext last read (0 : Int)) (writesNext last writes) last = ⟨kd, kc, kv, ko⟩ := by rw [HRN.out, HWN.out]; exact HP.out
            rw [hwt] at he
            simp only at he
            subst he
            have hrk2 : rank s' + 1 ≤ rank s ∨ (rank s' = 0 ∧ rank s = 0) := by have h1 := hst.rk; simp only at h1; omega
            have HST := Lib.hid hst
            have HRK2 := Lib.hid hrk2
            clear hst hx hwt hrk2
            have hW3 : Blk w3 w2.heap.size 37 #[.int .i64 kd, .int .i64 kc, .int .i64 kv, .int .i64 ko] := (Blk.new w2 _ _).grown hg3 (by intro hh; injection hh with hh; omega)
            have hL3 := (hL2.alloc (.cells #[.int .i64 kd, .int .i64 kc, .int .i64 kv, .int .i64 ko] 37)).grown hg3 (by intro hh; injection hh with hh; omega)
            have q0 : w3.cell? ⟨w2.heap.size, 0, none⟩ = some (.int .i64 kd) := (hW3.cell 0).trans rfl
            have q1 : w3.cell? ⟨w2.heap.size, 1, none⟩ = some (.int .i64 kc) := (hW3.cell 1).trans rfl
            have q2 : w3.cell? ⟨w2.heap.size, 2, none⟩ = some (.int .i64 kv) := (hW3.cell 2).trans rfl
            have q3 : w3.cell? ⟨w2.heap.size, 3, none⟩ = some (.int .i64 ko) := (hW3.cell 3).trans rfl
            have p0 : w3.cell? ⟨w.heap.size + 1, 0, none⟩ = some (.int .i64 last.kind) := (hL3.cell 0).trans rfl
            have p1 : w3.cell? ⟨w.heap.size + 1, 1, none⟩ = some (.int .i64 last.cell) := (hL3.cell 1).trans rfl
            have p2 : w3.cell? ⟨w.heap.size + 1, 2, none⟩ = some (.int .i64 last.value) := (hL3.cell 2).trans rfl
            have p3 : w3.cell? ⟨w.heap.size + 1, 3, none⟩ = some (.int .i64 last.code) := (hL3.cell 3).trans rfl
            have pf0 : w3.frozen? ⟨w.heap.size + 1, 0, none⟩ = false := hL3.frozen 0
            have pf1 : w3.frozen? ⟨w.heap.size + 1, 1, none⟩ = false := hL3.frozen 1
            have pf2 : w3.frozen? ⟨w.heap.size + 1, 2, none⟩ = false := hL3.frozen 2
            have pf3 : w3.frozen? ⟨w.heap.size + 1, 3, none⟩ = false := hL3.frozen 3
            have hlt3 := hL3.lt
            have hlt4 := hW3.lt
            have hmlt3 : mb < w3.heap.size := hM3.lt
            have hM4 : MIs w3 mb s' (fun g => g ≠ w.heap.size + 1) := hM3.more (by rintro g (h | h); exact h.1; simp at h; omega)
            have hob : Value.ownBlock _ ≠ some mb := (by obtain ⟨cs, hcs⟩ := hM2.blk; exact own_blk_ne (hown2.alloc _) hcs (by decide))
            have hown3 := (hown2.alloc (.cells #[.int .i64 kd, .int .i64 kc, .int .i64 kv, .int .i64 ko] 37)).kept hg3 (.inr hob)
            have hB3 := (hB2.alloc (.cells #[.int .i64 kd, .int .i64 kc, .int .i64 kv, .int .i64 ko] 37)).grown hg3 (by intro hh; injection hh with hh; omega)
            have hg4 := only_trans (only_alloc hg2 _) hg3
            clear hM3 hg3 hob hown2 hB2 hg2 hM2 hL2 hW3
            go_wp2
            go_roundg ((m + 4 - (k + 1)) + rank s')
            case measure =>
              have h1 := HGK.out
              have h2 := HRK2.out
              have h3 := HNZ.out
              omega
            case rel =>
              refine ⟨k + 1, read ++ [(0 : Int)], writes, ⟨kd, kc, kv, ko⟩, s', rfl, rfl, by go_num, rfl, ?_, by omega, by omega, ?_, ?_, ?_, ?_, ?_, ?_, ?_, ?_⟩
              · have h1 := HK42.out
                have h2 := HRK2.out
                have h3 := HNZ.out
                omega
              · first | omega | (simp; omega)
              · exact HST.out.fin
              · have h := HST.out.sim
                rw [HRN.out, HWN.out] at h
                exact h
              · exact ((((hM4.far (p := ⟨w.heap.size + 1, 0, none⟩) (by simp; omega) (by simp) _).far (p := ⟨w.heap.size + 1, 1, none⟩) (by simp; omega) (by simp) _).far (p := ⟨w.heap.size + 1, 2, none⟩) (by simp; omega) (by simp) _).far (p := ⟨w.heap.size + 1, 3, none⟩) (by simp; omega) (by simp) _).alloc _
              · rw [show (read ++ [(0 : Int)]).length = read.length + 1 from by simp]
                exact (ownsRow_setCell_below (ownsRow_setCell_below (ownsRow_setCell_below (ownsRow_setCell_below hown3 (by simp) _) (by simp) _) (by simp) _) (by simp) _).alloc _
              · exact ((((hB3.far (p := ⟨w.heap.size + 1, 0, none⟩) (by simp) _).far (p := ⟨w.heap.size + 1, 1, none⟩) (by simp) _).far (p := ⟨w.heap.size + 1, 2, none⟩) (by simp) _).far (p := ⟨w.heap.size + 1, 3, none⟩) (by simp) _).alloc _
              · exact ((((hL3.set_ 0 _).set_ 1 _).set_ 2 _).set_ 3 _).alloc _
              · exact only_alloc (only_setCell (only_setCell (only_setCell (only_setCell hg4 (.inr (by simp)) _) (.inr (by simp)) _) (.inr (by simp)) _) (.inr (by simp)) _) _
          · have e2 : (last.kind == 2) = false := by simp [h2]
            have HRN : Hid (readsNext last read (0 : Int) = read) := by show readsNext last read _ = _; simp [readsNext, h2]
            have HWN : Hid (writesNext last writes = writes) := by show writesNext last writes = _; simp [writesNext, h3]
            clear h3 h2
            have hMw := hMr
            have hBw := hBr
            have hLw := hLr
            have hgw := hgr
            have hownw := hown
            have hRdw := hRd
            have hrcw := hrc
            go_wp2_with fail
            refine (wants_any base most call args (read) (writes) last A (R) n nc (read.length) (rc) _ (by first | omega | (simp; omega)) hrcw HOK.out (by exact (hA.only hgw hB hmlt).more (by have := hgw.size; omega)) hRdw).mono ?_
            rintro e w2 ⟨kd, kc, kv, ko, hp, rfl, hb2⟩
            have HP := Lib.hid hp
            have hB2 := hBw.below hb2 hBw.lt
            have hL2 := hLw.below hb2 hLw.lt
            have hs2 : wr.heap.size ≤ w2.heap.size := hb2.size
            have hlw : w.heap.size + 1 < wr.heap.size := hLw.lt
            have hg2 : w.grownBy w2 (some mb) := only_below hgw hb2
            have hown2 := hownw.kept (only_of_below hb2 none) (by cases Value.ownBlock _ <;> simp)
            have hM2 := (hMw.below hb2).alloc (.cells #[.int .i64 kd, .int .i64 kc, .int .i64 kv, .int .i64 ko] 37)
            clear hp c0 c1 c2 c3 c4 l0 l1 l2 l3 hb2
            go_wp2_with fail
            refine (next_any mb s (fun g => g ≠ w.heap.size + 1 ∧ g < (w2.alloc (.cells #[.int .i64 kd, .int .i64 kc, .int .i64 kv, .int .i64 ko] 37)).heap.size) (0 : Int) _ HS.out.ok HS.out.look (fun g hg => hg.2) (by exact hM2.bound)).mono ?_
            rintro e w3 ⟨x, s', hx, rfl, hM3, hg3⟩
            have hst := step_sim HOK.out HS.out (0 : Int)
            rw [hx] at hst
            have he := hst.eq
            have hwt : wantsF base most call args (readsNext last read (0 : Int)) (writesNext last writes) last = ⟨kd, kc, kv, ko⟩ := by rw [HRN.out, HWN.out]; exact HP.out
            rw [hwt] at he
            simp only at he
            subst he
            have hrk2 : rank s' + 1 ≤ rank s ∨ (rank s' = 0 ∧ rank s = 0) := by have h1 := hst.rk; simp only at h1; omega
            have HST := Lib.hid hst
            have HRK2 := Lib.hid hrk2
            clear hst hx hwt hrk2
            have hW3 : Blk w3 w2.heap.size 37 #[.int .i64 kd, .int .i64 kc, .int .i64 kv, .int .i64 ko] := (Blk.new w2 _ _).grown hg3 (by intro hh; injection hh with hh; omega)
            have hL3 := (hL2.alloc (.cells #[.int .i64 kd, .int .i64 kc, .int .i64 kv, .int .i64 ko] 37)).grown hg3 (by intro hh; injection hh with hh; omega)
            have q0 : w3.cell? ⟨w2.heap.size, 0, none⟩ = some (.int .i64 kd) := (hW3.cell 0).trans rfl
            have q1 : w3.cell? ⟨w2.heap.size, 1, none⟩ = some (.int .i64 kc) := (hW3.cell 1).trans rfl
            have q2 : w3.cell? ⟨w2.heap.size, 2, none⟩ = some (.int .i64 kv) := (hW3.cell 2).trans rfl
            have q3 : w3.cell? ⟨w2.heap.size, 3, none⟩ = some (.int .i64 ko) := (hW3.cell 3).trans rfl
            have p0 : w3.cell? ⟨w.heap.size + 1, 0, none⟩ = some (.int .i64 last.kind) := (hL3.cell 0).trans rfl
            have p1 : w3.cell? ⟨w.heap.size + 1, 1, none⟩ = some (.int .i64 last.cell) := (hL3.cell 1).trans rfl
            have p2 : w3.cell? ⟨w.heap.size + 1, 2, none⟩ = some (.int .i64 last.value) := (hL3.cell 2).trans rfl
            have p3 : w3.cell? ⟨w.heap.size + 1, 3, none⟩ = some (.int .i64 last.code) := (hL3.cell 3).trans rfl
            have pf0 : w3.frozen? ⟨w.heap.size + 1, 0, none⟩ = false := hL3.frozen 0
            have pf1 : w3.frozen? ⟨w.heap.size + 1, 1, none⟩ = false := hL3.frozen 1
            have pf2 : w3.frozen? ⟨w.heap.size + 1, 2, none⟩ = false := hL3.frozen 2
            have pf3 : w3.frozen? ⟨w.heap.size + 1, 3, none⟩ = false := hL3.frozen 3
            have hlt3 := hL3.lt
            have hlt4 := hW3.lt
            have hmlt3 : mb < w3.heap.size := hM3.lt
            have hM4 : MIs w3 mb s' (fun g => g ≠ w.heap.size + 1) := hM3.more (by rintro g (h | h); exact h.1; simp at h; omega)
            have hob : Value.ownBlock _ ≠ some mb := (by obtain ⟨cs, hcs⟩ := hM2.blk; exact own_blk_ne (hown2.alloc _) hcs (by decide))
            have hown3 := (hown2.alloc (.cells #[.int .i64 kd, .int .i64 kc, .int .i64 kv, .int .i64 ko] 37)).kept hg3 (.inr hob)
            have hB3 := (hB2.alloc (.cells #[.int .i64 kd, .int .i64 kc, .int .i64 kv, .int .i64 ko] 37)).grown hg3 (by intro hh; injection hh with hh; omega)
            have hg4 := only_trans (only_alloc hg2 _) hg3
            clear hM3 hg3 hob hown2 hB2 hg2 hM2 hL2 hW3
            go_wp2
            go_roundg ((m + 4 - (k + 1)) + rank s')
            case measure =>
              have h1 := HGK.out
              have h2 := HRK2.out
              have h3 := HNZ.out
              omega
            case rel =>
              refine ⟨k + 1, read, writes, ⟨kd, kc, kv, ko⟩, s', rfl, rfl, by go_num, rfl, ?_, by omega, by omega, ?_, ?_, ?_, ?_, ?_, ?_, ?_, ?_⟩
              · have h1 := HK42.out
                have h2 := HRK2.out
                have h3 := HNZ.out
                omega
              · first | omega | (simp; omega)
              · exact HST.out.fin
              · have h := HST.out.sim
                rw [HRN.out, HWN.out] at h
                exact h
              · exact ((((hM4.far (p := ⟨w.heap.size + 1, 0, none⟩) (by simp; omega) (by simp) _).far (p := ⟨w.heap.size + 1, 1, none⟩) (by simp; omega) (by simp) _).far (p := ⟨w.heap.size + 1, 2, none⟩) (by simp; omega) (by simp) _).far (p := ⟨w.heap.size + 1, 3, none⟩) (by simp; omega) (by simp) _).alloc _
              · rw [show (read).length = read.length from rfl]
                exact (ownsRow_setCell_below (ownsRow_setCell_below (ownsRow_setCell_below (ownsRow_setCell_below hown3 (by simp) _) (by simp) _) (by simp) _) (by simp) _).alloc _
              · exact ((((hB3.far (p := ⟨w.heap.size + 1, 0, none⟩) (by simp) _).far (p := ⟨w.heap.size + 1, 1, none⟩) (by simp) _).far (p := ⟨w.heap.size + 1, 2, none⟩) (by simp) _).far (p := ⟨w.heap.size + 1, 3, none⟩) (by simp) _).alloc _
              · exact ((((hL3.set_ 0 _).set_ 1 _).set_ 2 _).set_ 3 _).alloc _
              · exact only_alloc (only_setCell (only_setCell (only_setCell (only_setCell hg4 (.inr (by simp)) _) (.inr (by simp)) _) (.inr (by simp)) _) (.inr (by simp)) _) _
end Go.Proofs.Ytjggcidaolnmbaa
