/- The walk of history.read. -/
import Derived.Test.YtffjcojehiblnaaGreatDoorPe
import Derived.Deep.WholeRow
namespace Go.Proofs.YtffjcojehiblnaaGreatDoor
open Go.RowKit Go.Joins Go.ChangeShapes Go.WideShapes Go.Deep
set_option linter.unusedVariables false
set_option linter.unusedSimpArgs false
set_option maxRecDepth 100000

theorem ev_all (e : Ev) : (evcs e).all (·.oneCell') = true := by simp [evcs, Value.oneCell']
theorem ev_len (e : Ev) : (evcs e).toList.length = 19 := rfl
/-- The events that came in: one of them, as a range. -/
theorem evs_range {w : World} {b off i : Nat} {l : List Ev} (hc : ∀ j u, (evs l)[j]? = some u → w.cell? ⟨b, off + j, none⟩ = some u) (hi : i < l.length) : w.rangeAt b (off + i * 19) (evcs l[i]).toList := fun j v hv => by
  have hj : j < 19 := by
    have := (List.getElem?_eq_some_iff.1 hv).1
    rwa [ev_len] at this
  have h1 := evs_at l i j hi hj
  have h2 : (evs l)[i * 19 + j]? = some v := by rw [h1]; exact hv
  have := hc _ _ h2
  rwa [← Nat.add_assoc] at this
def zev : Array Value := #[.int .i64 0, .int .i64 0, .int .i64 0, .int .i64 0, .int .i64 0, .int .i64 0, .bool false, .int .i64 0, .int .i64 0, .int .i64 0, .int .u64 0, .int .u64 0, .int .u64 0, .int .u64 0, .int .u64 0, .int .u64 0, .int .u64 0, .int .u64 0, .int .i64 0]
theorem run_alloc_ev (w : World) : (Instr.alloc 43 true (.tuple #[])).run Tryz.prog w = .ok (.pointer (some ⟨w.heap.size, 0, none⟩)) (w.alloc (.cells zev 43)) := by
  kernel_rfl
theorem wpList_alloc_ev {Q : Exit → Act → World → Prop} {ops : Array Oper} {rest : List Oper} {o : Oper} {a : Act} {w : World} (hg : o.guard = none) (ho : o.op = .alloc 43)
    (h : wpList Tryz.prog ops Q rest (a.put o.dst (.pointer (some ⟨w.heap.size, 0, none⟩))) (w.alloc (.cells zev 43))) : wpList Tryz.prog ops Q (o :: rest) a w :=
  wpList_plain hg fun _ hK => by
    unfold Oper.wp
    simp only [execOp, ho, Sem.run_bind, Sem.run_pure, Result.andThen_ok, run_alloc_ev]
    exact hK _ _ h
theorem wpList_store_ev {Q : Exit → Act → World → Prop} {ops : Array Oper} {rest : List Oper} {o : Oper} {a : Act} {w : World} (e : Ev) (hg : o.guard = none) (x y : Operand) (ho : o.op = .store 43 x y) (hx : a.eval x = .pointer (some ⟨w.heap.size, 0, none⟩)) (hy : a.eval y = .agg (evcs e))
    (h : wpList Tryz.prog ops Q rest (a.put o.dst undef) (w.alloc (.cells (evcs e) 43))) : wpList Tryz.prog ops Q (o :: rest) a (w.alloc (.cells zev 43)) :=
  wpList_plain hg fun _ hK => by
    have := run_storeVar_new (P := Tryz.prog) w 43 zev (evcs e) (by kernel_rfl) rfl (ev_all e)
    unfold Oper.wp
    simp only [execOp, ho, hx, hy, Instr.storeAt, Instr.sureAddr, Sem.run_bind, Sem.run_pure, Result.andThen_ok, this]
    exact hK _ _ h

def evErr (p : Addr) : Value := .iface 165 (.pointer (some p))
def ReadPost (w : World) (base : Nat) (l : List Ev) (p : Addr) : Ending → World → Prop := fun r w' => match readF book0 0 l with
  | .ok b => ∃ lv s ll, r = .returned (.tuple #[lv, .nilIface]) ∧ BookAt w' base s lv b ll ∧ Below base w w'
  | .error k => ∃ f, r = .returned (.tuple #[.slice none 0 0, .iface 68 (.pointer (some ⟨f, 0, none⟩))]) ∧ Blk w' f 73 #[.int .i64 k, evErr p] ∧ base ≤ f ∧ Below base w w'

theorem goesF_small {t t' : TxP} {p d p' d' : Nat} {e : Ev} (h : goesF t p d e = some (t', p', d')) : p' ≤ p + 1 ∧ d' ≤ d + 1 ∧ t'.steps.length ≤ t.steps.length + 1 := by
  unfold goesF at h
  repeat' split at h
  all_goals first
    | (cases h; done)
    | (simp only [Option.some.injEq, Prod.mk.injEq] at h; obtain ⟨rfl, rfl, rfl⟩ := h; refine ⟨?_, ?_, ?_⟩ <;> simp)
/-- Nothing in a book is larger than what has been read. -/
structure Small (b : Book) (n : Nat) : Prop where
  l : b.l.length ≤ n
  pub : b.pub ≤ n
  done : b.done ≤ n
  steps : ∀ t ∈ b.l, t.steps.length ≤ n
theorem small_next {b b' : Book} {e : Ev} {n : Nat} (h : Small b n) (hn : nextF b e = some b') : Small b' (n + 1) := by
  unfold nextF at hn
  split at hn
  · cases hn
  split at hn
  · split at hn
    · cases hn
    · injection hn with hn
      subst hn
      refine ⟨by have := h.l; simp; omega, by have := h.pub; show b.pub ≤ _; omega, by have := h.done; show b.done ≤ _; omega, ?_⟩
      intro t ht
      rcases List.mem_append.1 ht with ht | ht
      · have := h.steps t ht; omega
      · rw [List.mem_singleton] at ht; subst ht; simp
  split at hn
  · next hx =>
    have hmem := List.getElem_mem hx.2
    unfold nextT at hn
    split at hn
    · cases hn
    split at hn
    · split at hn
      · cases hn
      · injection hn with hn
        subst hn
        refine ⟨by have := h.l; simp; omega, by have := h.pub; show b.pub ≤ _; omega, by have := h.done; show b.done ≤ _; omega, ?_⟩
        intro t ht
        rcases List.mem_or_eq_of_mem_set ht with ht | ht
        · have := h.steps t ht; omega
        · subst ht
          have := h.steps _ hmem
          show (b.l[e.tx.toNat]).steps.length ≤ _
          omega
    split at hn
    · cases hg : goesF (b.l[e.tx.toNat]'hx.2) b.pub b.done e with
      | none => rw [hg] at hn; cases hn
      | some z =>
        obtain ⟨t', p', d'⟩ := z
        rw [hg] at hn
        injection hn with hn
        subst hn
        have hs := goesF_small hg
        refine ⟨by have := h.l; simp; omega, by have := h.pub; show p' ≤ _; omega, by have := h.done; show d' ≤ _; omega, ?_⟩
        intro t ht
        rcases List.mem_or_eq_of_mem_set ht with ht | ht
        · have := h.steps t ht; omega
        · subst ht
          have := h.steps _ hmem
          omega
    · cases hn
  · cases hn
end Go.Proofs.YtffjcojehiblnaaGreatDoor

/- The walk of history.read: its loop. -/
namespace Go.Proofs.YtffjcojehiblnaaGreatDoor
open Go.RowKit Go.Joins Go.ChangeShapes Go.WideShapes Go.Deep
set_option linter.unusedVariables false
set_option linter.unusedSimpArgs false
set_option maxRecDepth 100000

theorem readF_go {l : List Ev} {k : Nat} (hk : k < l.length) {b : Book} : readF b k (l.drop k) = match nextF b l[k] with
    | none => .error k
    | some b' => readF b' (k + 1) (l.drop (k + 1)) := by
  rw [List.drop_eq_getElem_cons hk]
  rfl
set_option maxHeartbeats 400000 in
theorem read_any (A : Option Addr) (n nc : Nat) (l : List Ev) (p : Addr) (w : World) (hl : l.length = n) (hn : n * 152 ≤ 140737488351232) (hR : Reads w w.heap.size 19 A n (evs l)) (hE : w.cell? ⟨0, 0, none⟩ = some (.iface 165 (.pointer (some p)))) (h0 : 0 < w.heap.size) :
    Calls Tryz.prog 15 #[.slice A n nc] w (ReadPost w w.heap.size l p) := by
  have hb0 : BookAt (w.alloc (.cells #[.slice none 0 0, .int .i64 0, .int .i64 0, .int .i64 0] 80)) w.heap.size w.heap.size (.slice none 0 0) book0 [] :=
    ⟨Blk.new w _ _, Nat.le_refl _, rfl, World.ownsRow_nil _ _ _ _, fun _ h => absurd h (by simp), .nil, .nil⟩
  have hbel : Below w.heap.size w (w.alloc (.cells #[.slice none 0 0, .int .i64 0, .int .i64 0, .int .i64 0] 80)) := Below.alloc (Below.refl _ _) (Nat.le_refl _) _
  have HR := Lib.hid hR
  have HE := Lib.hid hE
  have HB := Lib.hid hb0
  have HBL := Lib.hid hbel
  have HL := Lib.hid hl
  have HN := Lib.hid hn
  clear hR hE hb0 hbel hl hn
  go_enter Tryz.func15, Tryz.ntmps15
  go_wp2_with fail
  go_loopg [11] n (fun gk i wr => ∃ (k : Nat) (b : Book) (lv : Value) (ll : List TxM), i = .int .i64 k ∧ k ≤ n ∧ gk = n - k ∧ BookAt wr w.heap.size w.heap.size lv b ll ∧ readF book0 0 l = readF b k (l.drop k) ∧ Small b k ∧ Below w.heap.size w wr)
  case atStart => exact ⟨0, book0, .slice none 0 0, [], rfl, Nat.zero_le _, rfl, HB.out, rfl, ⟨Nat.le_refl _, Nat.le_refl _, Nat.le_refl _, fun _ h => absurd h (by simp [book0])⟩, HBL.out⟩
  case round =>
    obtain ⟨k, b, lv, ll, rfl, hk, hgk, hB, hrd, hsm, hbel⟩ := hrel
    have HG := Lib.hid hgk
    have HRD := Lib.hid hrd
    have HSM := Lib.hid hsm
    have HBK := Lib.hid hB
    have HBE := Lib.hid hbel
    clear hgk hrd hsm hB hbel
    by_cases hkn : k < n
    · have hkl : k < l.length := by rw [HL.out]; exact hkn
      obtain ⟨bb, off, rfl, hbb, hcc⟩ := reads_flat HR.out (by omega) (by decide)
      obtain ⟨e, he⟩ : ∃ e, e = l[k] := ⟨_, rfl⟩
      have hrg : wr.rangeAt bb (off + k * 19) (evcs e).toList := fun j v hv => (HBE.out.cell (p := ⟨bb, off + k * 19 + j, none⟩) hbb).trans (evs_range hcc hkl j v (he ▸ hv))
      have HE1 := Lib.hid he
      have hwr : w.heap.size ≤ wr.heap.size := HBE.out.size
      have hnx : 0 < wr.heap.size := by omega
      have hk8 : k + 1 ≤ 9223372036854775807 := by have := HN.out; omega
      have HNX := Lib.hid (next_any e (HBK.out.alloc (.cells (evcs e) 43)) (by have := HSM.out.done; have := HN.out; omega) (by have := HSM.out.pub; have := HN.out; omega) (by have := HSM.out.l; have := HN.out; omega) (fun t ht => by have := HSM.out.steps t ht; have := HN.out; omega))
      clear he hcc
      cases hnf : nextF b e with
      | none =>
        go_wp2_with (first
          | (refine wpList_load_mid rfl 43 (.tmp 14) rfl bb (off + k * 19) rfl (evcs e).toList _ hrg Tryz.underlying43 rfl (by kernel_rfl) ?_)
          | (refine wpList_alloc_ev rfl rfl ?_)
          | (refine wpList_store_ev e rfl (.tmp 6) (.tmp 15) rfl rfl rfl ?_)
          | (refine wpList_load_mid rfl 43 (.tmp 6) rfl wr.heap.size 0 rfl (evcs e).toList _ (ev_range wr e) Tryz.underlying43 rfl (by kernel_rfl) ?_)
          | (go_at_call 29; refine HNX.out.mono ?_; rintro r w4 hq; rw [hnf] at hq; obtain ⟨hq, hb4⟩ := hq; subst hq; (have hE4 : w4.cell? ⟨0, 0, none⟩ = some (.iface 165 (.pointer (some p))) := ((HBE.out.trans ((Below.alloc (Below.refl _ wr) hwr _).trans hb4)).cell (p := ⟨0, 0, none⟩) h0).trans HE.out)))
        go_region
        go_wp2_with fail
        go_ret2
        have hr : readF book0 0 l = .error k := by rw [HRD.out, readF_go hkl, ← HE1.out, hnf]
        have hb5 := (HBE.out.trans (Below.alloc (Below.refl _ wr) hwr (.cells (evcs e) 43))).trans hb4
        unfold ReadPost
        rw [hr]
        exact ⟨w4.heap.size, rfl, Blk.new w4 _ _, hb5.size, Below.drew (Below.alloc hb5 hb5.size _)⟩
      | some b' =>
        go_wp2_with (first
          | (refine wpList_load_mid rfl 43 (.tmp 14) rfl bb (off + k * 19) rfl (evcs e).toList _ hrg Tryz.underlying43 rfl (by kernel_rfl) ?_)
          | (refine wpList_alloc_ev rfl rfl ?_)
          | (refine wpList_store_ev e rfl (.tmp 6) (.tmp 15) rfl rfl rfl ?_)
          | (refine wpList_load_mid rfl 43 (.tmp 6) rfl wr.heap.size 0 rfl (evcs e).toList _ (ev_range wr e) Tryz.underlying43 rfl (by kernel_rfl) ?_)
          | (go_at_call 29; refine HNX.out.mono ?_; rintro r w4 hq; rw [hnf] at hq; obtain ⟨hq, lv4, ll4, hB4, hb4⟩ := hq; subst hq))
        go_roundg (n - (k + 1))
        case measure => have := HG.out; omega
        case rel =>
          refine ⟨k + 1, b', lv4, ll4, by go_num, by omega, rfl, hB4, ?_, small_next HSM.out hnf, (HBE.out.trans (Below.alloc (Below.refl _ wr) hwr _)).trans hb4⟩
          rw [HRD.out, readF_go hkl, ← HE1.out, hnf]
    · have hkk : k = n := by omega
      have c0 := HBK.out.blk.cell 0
      replace c0 : wr.cell? ⟨w.heap.size, 0, none⟩ = some lv := c0.trans rfl
      obtain ⟨R, c, hlv, _⟩ := own_shapes HBK.out.row
      subst hlv
      go_wp2_with fail
      go_ret2
      have hr : readF book0 0 l = .ok b := by
        have := HRD.out
        rw [List.drop_eq_nil_of_le (by have := HL.out; omega)] at this
        exact this
      unfold ReadPost
      rw [hr]
      exact ⟨_, _, _, rfl, HBK.out, HBE.out⟩
end Go.Proofs.YtffjcojehiblnaaGreatDoor
