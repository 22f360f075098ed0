/- The document's Txs: a list that is no history. -/
import Derived.Test.YtffjcojehiblnaaDoorHu8
namespace Go.Proofs.YtffjcojehiblnaaDoor
open Go.RowKit Go.Joins Go.ChangeShapes Go.WideShapes Go.Deep
set_option linter.unusedVariables false
set_option linter.unusedSimpArgs false
set_option maxRecDepth 100000

set_option maxHeartbeats 400000 in
theorem rtxs_bad (A : Option Addr) (n nc : Nat) (l : List Ev) (q : Nat) (w : World) (hl : l.length = n) (hn : n * 152 ≤ 140737488351232) (hR : Reads w w.heap.size 19 A n (evs l)) (hq : q < n) (hm : ∀ j (hj : j < l.length), j < q → mayF l j l[j] = true) (hb : ∀ e, l[q]? = some e → mayF l q e = false) :
    Calls Tryd.prog 7 #[.slice A n nc] w fun r w' => r = .returned (.tuple #[.slice none 0 0, .int .i64 14, .int .i64 q]) ∧ Below w.heap.size w w' := by
  have hn8 : n ≤ 925904528640 := by omega
  have HR := Lib.hid hR
  have HL := Lib.hid hl
  have HM := Lib.hid hm
  have HBD := Lib.hid hb
  have HN := Lib.hid hn
  clear hR hn hl hm hb
  go_enter Tryd.func7, Tryd.ntmps7
  go_wp2_with fail
  go_loopg [5] q (fun gk i wr => ∃ k : Nat, i = .int .i64 k ∧ k ≤ q ∧ gk = q - k ∧ Below w.heap.size w wr)
  case atStart => exact ⟨0, rfl, Nat.zero_le _, rfl, Below.refl _ _⟩
  case round =>
    obtain ⟨k, rfl, hk, hgk, hbel⟩ := hrel
    have HG := Lib.hid hgk
    have HBE := Lib.hid hbel
    clear hgk hbel
    have hkl : k < l.length := by rw [HL.out]; omega
    have HMA := Lib.hid (may_any A n nc l k wr HL.out HN.out ((HR.out.below HBE.out).more HBE.out.size) (by omega) l[k] (List.getElem?_eq_getElem hkl) (fun j hj hjk => HM.out j hj (by omega)))
    have hk8 : (k : Int) + 1 ≤ 9223372036854775807 := by omega
    have hkn : k < n := by omega
    by_cases hkq : k < q
    · have hmt : mayF l k l[k] = true := HM.out k hkl hkq
      rw [hmt] at HMA
      clear hmt hkl
      go_wp2_with (go_at_call 16; refine HMA.out.mono ?_; rintro r w4 ⟨hr, hb4⟩; subst hr)
      go_roundg (q - (k + 1))
      case measure => have := HG.out; omega
      case rel => exact ⟨k + 1, by go_num, by omega, rfl, HBE.out.trans (hb4.mono HBE.out.size)⟩
    · have hkk : k = q := by omega
      subst hkk
      have hmt : mayF l k l[k] = false := HBD.out _ (List.getElem?_eq_getElem hkl)
      rw [hmt] at HMA
      clear hmt hkl
      go_wp2_with (go_at_call 16; refine HMA.out.mono ?_; rintro r w4 ⟨hr, hb4⟩; subst hr)
      go_ret3
      exact ⟨rfl, HBE.out.trans (hb4.mono HBE.out.size)⟩

/-- A stamp is as large as what has been published at most. -/
def Stamps (b : Book) : Prop := ∀ t ∈ b.l, 0 ≤ t.stamp ∧ t.stamp ≤ b.pub
theorem goesF_stamp {t t' : TxP} {p d p' d' : Nat} {e : Ev} (h : goesF t p d e = some (t', p', d')) (h0 : 0 ≤ t.stamp ∧ t.stamp ≤ p) : 0 ≤ t'.stamp ∧ t'.stamp ≤ p' ∧ p ≤ p' := by
  unfold goesF at h
  repeat' split at h
  all_goals first
    | (cases h; done)
    | (simp only [Option.some.injEq, Prod.mk.injEq] at h; obtain ⟨rfl, rfl, rfl⟩ := h; simp only; omega)
theorem stamps_next {b b' : Book} {e : Ev} (h : Stamps b) (hn : nextF b e = some b') : Stamps b' := by
  unfold nextF at hn
  split at hn
  · cases hn
  split at hn
  · split at hn
    · cases hn
    · injection hn with hn
      subst hn
      intro t ht
      rcases List.mem_append.1 ht with ht | ht
      · exact h t ht
      · rw [List.mem_singleton] at ht; subst ht; exact ⟨Int.le_refl _, by show (0 : Int) ≤ b.pub; omega⟩
  split at hn
  · next hx =>
    have hmem := List.getElem_mem hx.2
    unfold nextT at hn
    split at hn
    · cases hn
    split at hn
    · split at hn
      · cases hn
      · injection hn with hn
        subst hn
        intro t ht
        rcases List.mem_or_eq_of_mem_set ht with ht | ht
        · exact h t ht
        · subst ht
          have := h _ hmem
          exact this
    split at hn
    · cases hg : goesF (b.l[e.tx.toNat]'hx.2) b.pub b.done e with
      | none => rw [hg] at hn; cases hn
      | some z =>
        obtain ⟨t', p', d'⟩ := z
        rw [hg] at hn
        injection hn with hn
        subst hn
        have hs := goesF_stamp hg (h _ hmem)
        intro t ht
        rcases List.mem_or_eq_of_mem_set ht with ht | ht
        · have := h t ht
          exact ⟨this.1, by show t.stamp ≤ (p' : Int); omega⟩
        · subst ht
          exact ⟨hs.1, hs.2.1⟩
    · cases hn
  · cases hn
theorem read_small : ∀ (l : List Ev) (b b' : Book) (i n : Nat), readF b i l = .ok b' → Small b n → Stamps b → Small b' (n + l.length) ∧ Stamps b'
  | [], b, b', i, n, h, hs, ht => by
    injection h with h
    subst h
    exact ⟨hs, ht⟩
  | e :: r, b, b', i, n, h, hs, ht => by
    unfold readF at h
    cases hn : nextF b e with
    | none => rw [hn] at h; cases h
    | some b1 =>
      rw [hn] at h
      have := read_small r b1 b' (i + 1) (n + 1) h (small_next hs hn) (stamps_next ht hn)
      rw [List.length_cons, show n + (r.length + 1) = n + 1 + r.length by omega]
      exact this
theorem read_small0 {l : List Ev} {b : Book} (h : readF book0 0 l = .ok b) : Small b l.length ∧ Stamps b := by
  have := read_small l book0 b 0 0 h ⟨Nat.le_refl _, Nat.le_refl _, Nat.le_refl _, fun _ h => absurd h (by simp [book0])⟩ (fun _ h => absurd h (by simp [book0]))
  simpa using this
end Go.Proofs.YtffjcojehiblnaaDoor
