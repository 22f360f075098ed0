/- The document's may, whatever the event. -/
import Derived.Test.YtffjcojehiblnaaGreatDoorPw4
import Derived.Test.YtffjcojehiblnaaGreatDoorPw5
import Derived.Test.YtffjcojehiblnaaGreatDoorPw6
import Derived.Test.YtffjcojehiblnaaGreatDoorPw7
namespace Go.Proofs.YtffjcojehiblnaaGreatDoor
open Go.RowKit Go.Joins Go.ChangeShapes Go.WideShapes Go.Deep
set_option linter.unusedVariables false
set_option linter.unusedSimpArgs false
set_option maxRecDepth 100000

theorem may_any (A : Option Addr) (n nc : Nat) (l : List Ev) (i : Nat) (w : World) (hl : l.length = n) (hn : n * 152 ≤ 140737488351232) (hR : Reads w w.heap.size 19 A n (evs l)) (hi : i < n) (e : Ev) (he : l[i]? = some e) (hm : ∀ j (hj : j < l.length), j < i → mayF l j l[j] = true) :
    Calls Tryz.prog 34 #[.slice A n nc, .int .i64 i] w fun r w' => r = .returned (.bool (mayF l i e)) ∧ Below w.heap.size w w' := by
  obtain ⟨b, _, I⟩ := read_take l i (by omega) hm
  unfold mayF
  by_cases c1 : e.at_ < 0
  · rw [if_pos (.inl c1)]
    exact may_p1 A n nc l i w hl hn hR hi e he c1
  by_cases ca : i = 0 ∨ 0 < i ∧ ¬ e.at_ < (evAt l ((i : Int) - 1)).at_
  case neg =>
    have h0 : 0 < i := by
      rcases Nat.eq_zero_or_pos i with h | h
      · exact absurd (.inl h) ca
      · exact h
    have hb : e.at_ < (evAt l ((i : Int) - 1)).at_ := by
      by_cases h : e.at_ < (evAt l ((i : Int) - 1)).at_
      · exact h
      · exact absurd (.inr ⟨h0, h⟩) ca
    rw [if_pos (.inr ⟨h0, hb⟩)]
    exact may_p2 A n nc l i w hl hn hR hi e he c1 h0 hb
  rw [if_neg (by
    rintro (h | ⟨h, h'⟩)
    · exact c1 h
    · rcases ca with ca | ⟨_, ca⟩
      · omega
      · exact ca h')]
  by_cases k7 : e.kind = 7
  · rw [if_pos k7]
    by_cases c2 : e.tx = (countF l i 7 (-1) : Int)
    · rw [decide_eq_true c2]
      exact may_open1 A n nc l i w hl hn hR hi e he c1 ca k7 c2
    · rw [decide_eq_false c2]
      exact may_open0 A n nc l i w hl hn hR hi e he c1 ca k7 c2
  rw [if_neg k7]
  by_cases t0 : e.tx < 0
  · rw [if_pos (.inl t0)]
    exact may_tx0 A n nc l i w hl hn hR hi e he c1 ca k7 t0
  by_cases t1 : (countF l i 7 (-1) : Int) ≤ e.tx
  · rw [if_pos (.inr t1)]
    exact may_tx1 A n nc l i w hl hn hR hi e he c1 ca k7 t0 t1
  rw [if_neg (by rintro (h | h); exact t0 h; exact t1 h)]
  have hnt : e.tx.toNat < b.l.length := by rw [I.len]; omega
  have T := I.each e.tx.toNat hnt
  have hcast : ((e.tx.toNat : Nat) : Int) = e.tx := by omega
  obtain ⟨o, ho, hoi, hol, _⟩ := T.op
  rw [hcast] at ho
  have hz : l[o]? = some l[o] := List.getElem?_eq_getElem hol
  have hpb := T.pb
  rw [hcast] at hpb
  rw [ho, evAt_of hol]
  by_cases ov : 0 < countF l i 6 e.tx + countF l i 5 e.tx
  · rw [if_pos (.inl ov)]
    exact may_over A n nc l i w hl hn hR hi e he c1 ca k7 t0 t1 o ho (by omega) _ hz (by omega)
  have ov' : ¬ 0 < (countF l i 6 e.tx : Int) + (countF l i 5 e.tx : Int) := by omega
  by_cases th : l[o].thread = e.thread
  case neg =>
    rw [if_pos (.inr th)]
    exact may_thread A n nc l i w hl hn hR hi e he c1 ca k7 t0 t1 o ho (by omega) _ hz ov' th
  rw [if_neg (by rintro (h | h); exact ov h; exact h th)]
  by_cases n1 : e.kind = 1
  · rw [if_pos n1]
    by_cases c : countF l i 1 e.tx = 0
    · rw [decide_eq_true c]
      exact may_begun1 A n nc l i w hl hn hR hi e he c1 ca k7 t0 t1 o ho (by omega) _ hz ov' th n1 (by omega)
    · rw [decide_eq_false c]
      exact may_begun0 A n nc l i w hl hn hR hi e he c1 ca k7 t0 t1 o ho (by omega) _ hz ov' th n1 (by omega)
  rw [if_neg n1]
  by_cases n2 : e.kind = 2
  · rw [if_pos (.inl n2)]
    by_cases c : countF l i 1 e.tx = 1
    case neg =>
      rw [decide_eq_false (fun h => c h.1)]
      exact may_read_a A n nc l i w hl hn hR hi e he c1 ca k7 t0 t1 o ho (by omega) _ hz ov' th n2 (by omega)
    by_cases q : countF l i 4 e.tx = 0
    case neg =>
      rw [decide_eq_false (fun h => q h.2.1)]
      exact may_read_b A n nc l i w hl hn hR hi e he c1 ca k7 t0 t1 o ho (by omega) _ hz ov' th n2 (by omega) (by omega)
    by_cases x : e.cell < 0
    · rw [decide_eq_false (fun h => by omega)]
      exact may_read_c A n nc l i w hl hn hR hi e he c1 ca k7 t0 t1 o ho (by omega) _ hz ov' th n2 (by omega) (by omega) x
    by_cases y : e.cell < 1024
    · rw [decide_eq_true ⟨c, q, by omega, y⟩]
      exact may_read_e A n nc l i w hl hn hR hi e he c1 ca k7 t0 t1 o ho (by omega) _ hz ov' th n2 (by omega) (by omega) x y
    · rw [decide_eq_false (fun h => by omega)]
      exact may_read_d A n nc l i w hl hn hR hi e he c1 ca k7 t0 t1 o ho (by omega) _ hz ov' th n2 (by omega) (by omega) x y
  by_cases n3 : e.kind = 3
  · rw [if_pos (.inr n3)]
    by_cases c : countF l i 1 e.tx = 1
    case neg =>
      rw [decide_eq_false (fun h => c h.1)]
      exact may_wrote_a A n nc l i w hl hn hR hi e he c1 ca k7 t0 t1 o ho (by omega) _ hz ov' th n3 (by omega)
    by_cases q : countF l i 4 e.tx = 0
    case neg =>
      rw [decide_eq_false (fun h => q h.2.1)]
      exact may_wrote_b A n nc l i w hl hn hR hi e he c1 ca k7 t0 t1 o ho (by omega) _ hz ov' th n3 (by omega) (by omega)
    by_cases x : e.cell < 0
    · rw [decide_eq_false (fun h => by omega)]
      exact may_wrote_c A n nc l i w hl hn hR hi e he c1 ca k7 t0 t1 o ho (by omega) _ hz ov' th n3 (by omega) (by omega) x
    by_cases y : e.cell < 1024
    · rw [decide_eq_true ⟨c, q, by omega, y⟩]
      exact may_wrote_e A n nc l i w hl hn hR hi e he c1 ca k7 t0 t1 o ho (by omega) _ hz ov' th n3 (by omega) (by omega) x y
    · rw [decide_eq_false (fun h => by omega)]
      exact may_wrote_d A n nc l i w hl hn hR hi e he c1 ca k7 t0 t1 o ho (by omega) _ hz ov' th n3 (by omega) (by omega) x y
  rw [if_neg (by rintro (h | h); exact n2 h; exact n3 h)]
  by_cases n4 : e.kind = 4
  · rw [if_pos n4]
    by_cases c : countF l i 1 e.tx = 1
    case neg =>
      rw [decide_eq_false (fun h => c h.1)]
      exact may_pub_a A n nc l i w hl hn hR hi e he c1 ca k7 t0 t1 o ho (by omega) _ hz ov' th n4 (by omega)
    by_cases q : countF l i 4 e.tx = 0
    case neg =>
      rw [decide_eq_false (fun h => q h.2.1)]
      exact may_pub_b A n nc l i w hl hn hR hi e he c1 ca k7 t0 t1 o ho (by omega) _ hz ov' th n4 (by omega) (by omega)
    by_cases x : e.stamp = (countF l i 4 (-1) : Int) + 1
    · rw [decide_eq_true ⟨c, q, x⟩]
      exact may_pub_d A n nc l i w hl hn hR hi e he c1 ca k7 t0 t1 o ho (by omega) _ hz ov' th n4 (by omega) (by omega) x
    · rw [decide_eq_false (fun h => x h.2.2)]
      exact may_pub_c A n nc l i w hl hn hR hi e he c1 ca k7 t0 t1 o ho (by omega) _ hz ov' th n4 (by omega) (by omega) x
  rw [if_neg n4]
  by_cases n5 : e.kind = 5
  · rw [if_pos n5]
    by_cases q : countF l i 4 e.tx = 0
    · rw [decide_eq_false (fun h => h.1 q)]
      exact may_done_a A n nc l i w hl hn hR hi e he c1 ca k7 t0 t1 o ho (by omega) _ hz ov' th n5 (by omega)
    have hst : (b.l[e.tx.toNat]).stamp ≠ 0 := fun h => q (hpb.1 h)
    obtain ⟨_, _, o4, hf4, ho4, _⟩ := hpb.2 hst
    have ho4i : o4 < n := by omega
    have hz4 : l[o4]? = some l[o4] := List.getElem?_eq_getElem ho4
    rw [hf4, evAt_of ho4]
    by_cases x : e.stamp = l[o4].stamp
    case neg =>
      rw [decide_eq_false (fun h => x h.2.1)]
      exact may_done_b A n nc l i w hl hn hR hi e he c1 ca k7 t0 t1 o ho (by omega) _ hz ov' th n5 (by omega) o4 hf4 ho4i _ hz4 x
    by_cases y : e.stamp = (countF l i 5 (-1) : Int) + 1
    · rw [decide_eq_true ⟨q, x, y⟩]
      exact may_done_d A n nc l i w hl hn hR hi e he c1 ca k7 t0 t1 o ho (by omega) _ hz ov' th n5 (by omega) o4 hf4 ho4i _ hz4 x y
    · rw [decide_eq_false (fun h => y h.2.2)]
      exact may_done_c A n nc l i w hl hn hR hi e he c1 ca k7 t0 t1 o ho (by omega) _ hz ov' th n5 (by omega) o4 hf4 ho4i _ hz4 x y
  rw [if_neg n5]
  by_cases n6 : e.kind = 6
  · rw [if_pos n6]
    by_cases c : countF l i 1 e.tx = 1
    case neg =>
      rw [decide_eq_false (fun h => c h.1)]
      exact may_end_a A n nc l i w hl hn hR hi e he c1 ca k7 t0 t1 o ho (by omega) _ hz ov' th n6 (by omega)
    by_cases q : countF l i 4 e.tx = 0
    · rw [decide_eq_true ⟨c, q⟩]
      exact may_end_c A n nc l i w hl hn hR hi e he c1 ca k7 t0 t1 o ho (by omega) _ hz ov' th n6 (by omega) (by omega)
    · rw [decide_eq_false (fun h => q h.2)]
      exact may_end_b A n nc l i w hl hn hR hi e he c1 ca k7 t0 t1 o ho (by omega) _ hz ov' th n6 (by omega) (by omega)
  rw [if_neg n6]
  exact may_other A n nc l i w hl hn hR hi e he c1 ca k7 t0 t1 o ho (by omega) _ hz ov' th n1 n2 n3 n4 n5 n6
end Go.Proofs.YtffjcojehiblnaaGreatDoor

/- The document's Txs: a list that is no history. -/
namespace Go.Proofs.YtffjcojehiblnaaGreatDoor
open Go.RowKit Go.Joins Go.ChangeShapes Go.WideShapes Go.Deep
set_option linter.unusedVariables false
set_option linter.unusedSimpArgs false
set_option maxRecDepth 100000

set_option maxHeartbeats 400000 in
theorem rtxs_bad (A : Option Addr) (n nc : Nat) (l : List Ev) (q : Nat) (w : World) (hl : l.length = n) (hn : n * 152 ≤ 140737488351232) (hR : Reads w w.heap.size 19 A n (evs l)) (hq : q < n) (hm : ∀ j (hj : j < l.length), j < q → mayF l j l[j] = true) (hb : ∀ e, l[q]? = some e → mayF l q e = false) :
    Calls Tryz.prog 19 #[.slice A n nc] w fun r w' => r = .returned (.tuple #[.slice none 0 0, .int .i64 14, .int .i64 q]) ∧ Below w.heap.size w w' := by
  have hn8 : n ≤ 925904528640 := by omega
  have HR := Lib.hid hR
  have HL := Lib.hid hl
  have HM := Lib.hid hm
  have HBD := Lib.hid hb
  have HN := Lib.hid hn
  clear hR hn hl hm hb
  go_enter Tryz.func19, Tryz.ntmps19
  go_wp2_with fail
  go_loopg [5] q (fun gk i wr => ∃ k : Nat, i = .int .i64 k ∧ k ≤ q ∧ gk = q - k ∧ Below w.heap.size w wr)
  case atStart => exact ⟨0, rfl, Nat.zero_le _, rfl, Below.refl _ _⟩
  case round =>
    obtain ⟨k, rfl, hk, hgk, hbel⟩ := hrel
    have HG := Lib.hid hgk
    have HBE := Lib.hid hbel
    clear hgk hbel
    have hkl : k < l.length := by rw [HL.out]; omega
    have HMA := Lib.hid (may_any A n nc l k wr HL.out HN.out ((HR.out.below HBE.out).more HBE.out.size) (by omega) l[k] (List.getElem?_eq_getElem hkl) (fun j hj hjk => HM.out j hj (by omega)))
    have hk8 : (k : Int) + 1 ≤ 9223372036854775807 := by omega
    have hkn : k < n := by omega
    by_cases hkq : k < q
    · have hmt : mayF l k l[k] = true := HM.out k hkl hkq
      rw [hmt] at HMA
      clear hmt hkl
      go_wp2_with (go_at_call 34; refine HMA.out.mono ?_; rintro r w4 ⟨hr, hb4⟩; subst hr)
      go_roundg (q - (k + 1))
      case measure => have := HG.out; omega
      case rel => exact ⟨k + 1, by go_num, by omega, rfl, HBE.out.trans (hb4.mono HBE.out.size)⟩
    · have hkk : k = q := by omega
      subst hkk
      have hmt : mayF l k l[k] = false := HBD.out _ (List.getElem?_eq_getElem hkl)
      rw [hmt] at HMA
      clear hmt hkl
      go_wp2_with (go_at_call 34; refine HMA.out.mono ?_; rintro r w4 ⟨hr, hb4⟩; subst hr)
      go_ret3
      exact ⟨rfl, HBE.out.trans (hb4.mono HBE.out.size)⟩

/-- A stamp is as large as what has been published at most. -/
def Stamps (b : Book) : Prop := ∀ t ∈ b.l, 0 ≤ t.stamp ∧ t.stamp ≤ b.pub
theorem goesF_stamp {t t' : TxP} {p d p' d' : Nat} {e : Ev} (h : goesF t p d e = some (t', p', d')) (h0 : 0 ≤ t.stamp ∧ t.stamp ≤ p) : 0 ≤ t'.stamp ∧ t'.stamp ≤ p' ∧ p ≤ p' := by
  unfold goesF at h
  repeat' split at h
  all_goals first
    | (cases h; done)
    | (simp only [Option.some.injEq, Prod.mk.injEq] at h; obtain ⟨rfl, rfl, rfl⟩ := h; simp only; omega)
theorem stamps_next {b b' : Book} {e : Ev} (h : Stamps b) (hn : nextF b e = some b') : Stamps b' := by
  unfold nextF at hn
  split at hn
  · cases hn
  split at hn
  · split at hn
    · cases hn
    · injection hn with hn
      subst hn
      intro t ht
      rcases List.mem_append.1 ht with ht | ht
      · exact h t ht
      · rw [List.mem_singleton] at ht; subst ht; exact ⟨Int.le_refl _, by show (0 : Int) ≤ b.pub; omega⟩
  split at hn
  · next hx =>
    have hmem := List.getElem_mem hx.2
    unfold nextT at hn
    split at hn
    · cases hn
    split at hn
    · split at hn
      · cases hn
      · injection hn with hn
        subst hn
        intro t ht
        rcases List.mem_or_eq_of_mem_set ht with ht | ht
        · exact h t ht
        · subst ht
          have := h _ hmem
          exact this
    split at hn
    · cases hg : goesF (b.l[e.tx.toNat]'hx.2) b.pub b.done e with
      | none => rw [hg] at hn; cases hn
      | some z =>
        obtain ⟨t', p', d'⟩ := z
        rw [hg] at hn
        injection hn with hn
        subst hn
        have hs := goesF_stamp hg (h _ hmem)
        intro t ht
        rcases List.mem_or_eq_of_mem_set ht with ht | ht
        · have := h t ht
          exact ⟨this.1, by show t.stamp ≤ (p' : Int); omega⟩
        · subst ht
          exact ⟨hs.1, hs.2.1⟩
    · cases hn
  · cases hn
theorem read_small : ∀ (l : List Ev) (b b' : Book) (i n : Nat), readF b i l = .ok b' → Small b n → Stamps b → Small b' (n + l.length) ∧ Stamps b'
  | [], b, b', i, n, h, hs, ht => by
    injection h with h
    subst h
    exact ⟨hs, ht⟩
  | e :: r, b, b', i, n, h, hs, ht => by
    unfold readF at h
    cases hn : nextF b e with
    | none => rw [hn] at h; cases h
    | some b1 =>
      rw [hn] at h
      have := read_small r b1 b' (i + 1) (n + 1) h (small_next hs hn) (stamps_next ht hn)
      rw [List.length_cons, show n + (r.length + 1) = n + 1 + r.length by omega]
      exact this
theorem read_small0 {l : List Ev} {b : Book} (h : readF book0 0 l = .ok b) : Small b l.length ∧ Stamps b := by
  have := read_small l book0 b 0 0 h ⟨Nat.le_refl _, Nat.le_refl _, Nat.le_refl _, fun _ h => absurd h (by simp [book0])⟩ (fun _ h => absurd h (by simp [book0]))
  simpa using this
end Go.Proofs.YtffjcojehiblnaaGreatDoor

/- The document's Txs: a history's transactions. -/
namespace Go.Proofs.YtffjcojehiblnaaGreatDoor
open Go.RowKit Go.Joins Go.ChangeShapes Go.WideShapes Go.Deep
set_option linter.unusedVariables false
set_option linter.unusedSimpArgs false
set_option maxRecDepth 100000

/-- A transaction as the document makes it up. -/
theorem blk_range {w : World} {g : Nat} {t : TypeId} {xs : List Value} (h : Blk w g t xs.toArray) : w.rangeAt g 0 xs := fun j v hv => by
  rw [Nat.zero_add, h.cell j]
  simpa using hv
def sumCs (th at_ : Int) (s : Sum) : Array Value := #[.int .i64 th, .int .i64 at_, .int .i64 s.ended, .int .i64 s.stamp, .int .i64 s.seen, .int .i64 s.err]
theorem ev_any {w : World} {B bb off n i : Nat} {l : List Ev} {e : Ev} (h : Reads w B 19 (some ⟨bb, off, none⟩) n (evs l)) (hl : l.length = n) (he : l[i]? = some e) (j : Nat) (hj : j < 19) (v : Value) (hv : e.cells[j]? = some v) : w.cell? ⟨bb, off + i * 19 + j, none⟩ = some v := ev_cell_of h hl he j hj hv
theorem ev_any0 {w : World} {B bb off n i : Nat} {l : List Ev} {e : Ev} (h : Reads w B 19 (some ⟨bb, off, none⟩) n (evs l)) (hl : l.length = n) (he : l[i]? = some e) (v : Value) (hv : e.cells[0]? = some v) : w.cell? ⟨bb, off + i * 19, none⟩ = some v := ev_cell_of h hl he 0 (by decide) hv

set_option maxHeartbeats 2000000 in
theorem rtxs_good (A : Option Addr) (n nc : Nat) (l : List Ev) (b : Book) (w : World) (hl : l.length = n) (hn : n * 152 ≤ 140737488351232) (hR : Reads w w.heap.size 19 A n (evs l)) (hm : ∀ j (hj : j < l.length), mayF l j l[j] = true) (hrd : readF book0 0 l = .ok b) (I : HInv l l.length b) (hln : b.l.length = countF l l.length 7 (-1)) (hz : ∀ k (hk : k < b.l.length), (b.l[k]).z = refTx l k) :
    Calls Tryz.prog 19 #[.slice A n nc] w fun r w' => ∃ ov, r = .returned (.tuple #[ov, .int .i64 0, .int .i64 0]) ∧ w'.ownsRow w.heap.size 50 6 ov b.l.length (txzs (b.l.map TxP.z)) ∧ Below w.heap.size w w' := by
  have hn8 : n ≤ 925904528640 := by omega
  obtain ⟨hsm, hst⟩ := read_small0 hrd
  obtain ⟨m, hmm⟩ : ∃ m, m = b.l.length := ⟨_, rfl⟩
  have hmn : m ≤ n := by have := hsm.l; omega
  have hcm : (countF l n 7 (-1) : Int) = m := by rw [hmm, hln, hl]
  obtain ⟨i0, hi0, hz0, hz1, hz2⟩ := info_parts info_txz
  have HR := Lib.hid hR
  have HL := Lib.hid hl
  have HM := Lib.hid hm
  have HN := Lib.hid hn
  have HI := Lib.hid I
  have HZ := Lib.hid hz
  have HMM := Lib.hid hmm
  have HCM := Lib.hid hcm
  have HST := Lib.hid hst
  have HSM := Lib.hid hsm
  clear hR hn hl hm hrd I hln hz hcm hst hsm hmm
  go_enter Tryz.func19, Tryz.ntmps19
  go_wp2_with fail
  go_loopg [5] n (fun gk i wr => ∃ k : Nat, i = .int .i64 k ∧ k ≤ n ∧ gk = n - k ∧ Below w.heap.size w wr)
  case atStart => exact ⟨0, rfl, Nat.zero_le _, rfl, Below.refl _ _⟩
  case round =>
    obtain ⟨k, rfl, hk, hgk, hbel⟩ := hrel
    have HG := Lib.hid hgk
    have HBE := Lib.hid hbel
    clear hgk hbel
    by_cases hkn : k < n
    · have hkl : k < l.length := by rw [HL.out]; omega
      have HMA := Lib.hid (may_any A n nc l k wr HL.out HN.out ((HR.out.below HBE.out).more HBE.out.size) (by omega) l[k] (List.getElem?_eq_getElem hkl) (fun j hj hjk => HM.out j hj))
      have hk8 : (k : Int) + 1 ≤ 9223372036854775807 := by omega
      have hmt : mayF l k l[k] = true := HM.out k hkl
      rw [hmt] at HMA
      clear hmt hkl
      go_wp2_with (go_at_call 34; refine HMA.out.mono ?_; rintro r w4 ⟨hr, hb4⟩; subst hr)
      go_roundg (n - (k + 1))
      case measure => have := HG.out; omega
      case rel => exact ⟨k + 1, by go_num, by omega, rfl, HBE.out.trans (hb4.mono HBE.out.size)⟩
    · have hkk : n = k := by omega
      subst hkk
      have HRW := Lib.hid ((HR.out.below HBE.out))
      go_wp2_with (go_at_call 35; refine (count_any A n nc l n _ _ w.heap.size _ HL.out HN.out HRW.out (Nat.le_refl _)).mono ?_; rintro r w4 ⟨hr, hw⟩; rw [HCM.out] at hr; subst hr; subst hw)
      have HRX := Lib.hid (HRW.out)
      clear HRW
      go_loopg [7, 9] m (fun gk ov i wr => ∃ k : Nat, i = .int .i64 k ∧ k ≤ m ∧ gk = m - k ∧ wr.ownsRow w.heap.size 50 6 ov k (txzs ((b.l.take k).map TxP.z)) ∧ Below w.heap.size w4 wr)
      case atStart => exact ⟨0, rfl, Nat.zero_le _, rfl, World.ownsRow_nil _ _ _ _, Below.refl _ _⟩
      case round =>
        obtain ⟨k, rfl, hk, hgk, hown, hb5⟩ := hrel
        have HG2 := Lib.hid hgk
        have HO := Lib.hid hown
        have HB5 := Lib.hid hb5
        clear hgk hown hb5
        by_cases hkm : k < m
        · have hkb : k < b.l.length := by rw [← HMM.out]; exact hkm
          obtain ⟨o, ho, _, hol, _⟩ := (HI.out.each k hkb).op
          have hon : o < n := by rw [← HL.out]; exact hol
          obtain ⟨bb, off, rfl, hbb, _⟩ := reads_flat HRX.out (by omega) (by decide)
          have HR5 := Lib.hid (HRX.out.below HB5.out)
          have hzo : l[o]? = some l[o] := List.getElem?_eq_getElem hol
          obtain ⟨th, hth⟩ : ∃ z, z = l[o].thread := ⟨_, rfl⟩
          obtain ⟨at_, hat⟩ : ∃ z, z = l[o].at_ := ⟨_, rfl⟩
          have d1 : ∀ W, Below wr.heap.size wr W → W.cell? ⟨bb, off + o * 19 + 1, none⟩ = some (.int .i64 th) := fun W hW => (hW.cell (p := ⟨bb, off + o * 19 + 1, none⟩) (Nat.lt_of_lt_of_le hbb (Nat.le_trans HBE.out.size HB5.out.size))).trans (hth ▸ ev_any HR5.out HL.out hzo 1 (by decide) _ rfl)
          have d0 : ∀ W, Below wr.heap.size wr W → W.cell? ⟨bb, off + o * 19, none⟩ = some (.int .i64 at_) := fun W hW => (hW.cell (p := ⟨bb, off + o * 19, none⟩) (Nat.lt_of_lt_of_le hbb (Nat.le_trans HBE.out.size HB5.out.size))).trans (hat ▸ ev_any0 HR5.out HL.out hzo _ rfl)
          have D1 := Lib.hid d1
          have D0 := Lib.hid d0
          have d1 := D1.out wr (Below.refl _ _)
          have d0 := D0.out wr (Below.refl _ _)
          have d1a : ∀ ob, (wr.alloc ob).cell? ⟨bb, off + o * 19 + 1, none⟩ = some (.int .i64 th) := fun ob => D1.out _ (Below.alloc (Below.refl _ _) (Nat.le_refl _) ob)
          have d0a : ∀ ob, (wr.alloc ob).cell? ⟨bb, off + o * 19, none⟩ = some (.int .i64 at_) := fun ob => D0.out _ (Below.alloc (Below.refl _ _) (Nat.le_refl _) ob)
          have HTH := Lib.hid hth
          have HAT := Lib.hid hat
          have HFO := Lib.hid ho
          have HOL : Hid (∃ h : o < l.length, l[o].thread = th ∧ l[o].at_ = at_) := Lib.hid ⟨hol, hth.symm, hat.symm⟩
          clear hzo hth hat ho
          go_wp2_with (go_at_call 36; refine (first_any _ n nc l _ _ w.heap.size _ HL.out HN.out HR5.out).mono ?_; rintro r w9 ⟨hq, hw⟩; rw [HFO.out] at hq; subst hq; subst hw)
          have HR5a : Hid (∀ W, Below w9.heap.size w9 W → Reads W w.heap.size 19 (some ⟨bb, off, none⟩) n (evs l)) := Lib.hid fun W hW => HR5.out.below (hW.mono (Nat.le_trans HBE.out.size HB5.out.size))
          obtain ⟨s0, hs0⟩ : ∃ z : Nat, z = countF l o 4 (-1) := ⟨_, rfl⟩
          have HS0 := Lib.hid hs0
          clear hs0
          go_region
          go_wp2_with (go_at_call 35; refine (count_any _ n nc l o _ _ w.heap.size _ HL.out HN.out (HR5a.out _ (by repeat (first | with_reducible exact Below.refl _ _ | with_reducible refine Below.drew ?_ | with_reducible refine below_drewN ?_ _ | ((with_reducible refine Below.alloc ?_ ?_ _); (rotate_left; focus (first | with_reducible exact Nat.le_refl _ | omega | (simp; done) | (simp; omega) | (simp [World.setCell]; done) | (simp [World.setCell]; omega)))) | ((with_reducible refine Below.setCell ?_ ?_ _); (rotate_left; focus (first | with_reducible exact Nat.le_refl _ | omega | (simp; done) | (simp; omega) | (simp [World.setCell]; done) | (simp [World.setCell]; omega))))))) (by omega)).mono ?_; rintro r wc ⟨hq, hw⟩; rw [← HS0.out] at hq; subst hq; subst hw)
          have hsum0 : sumF l 0 k s0 = ⟨s0, 0, -1, 0, false⟩ := by simp [sumF]
          have HSU := Lib.hid hsum0
          clear hsum0 d1 d0 d1a d0a
          go_loopg [12, 13] n (fun gk met i wi => ∃ j : Nat, i = .int .i64 j ∧ j ≤ n ∧ gk = n - j ∧ met = .bool (sumF l j k s0).met ∧ Blk wi w9.heap.size 50 (sumCs th at_ (sumF l j k s0)) ∧ Below w9.heap.size w9 wi)
          case atStart =>
            refine ⟨0, rfl, Nat.zero_le _, rfl, by rw [HSU.out], ?_, by repeat (first | with_reducible exact Below.refl _ _ | with_reducible refine Below.drew ?_ | with_reducible refine below_drewN ?_ _ | ((with_reducible refine Below.alloc ?_ ?_ _); (rotate_left; focus (first | with_reducible exact Nat.le_refl _ | omega | (simp; done) | (simp; omega) | (simp [World.setCell]; done) | (simp [World.setCell]; omega)))) | ((with_reducible refine Below.setCell ?_ ?_ _); (rotate_left; focus (first | with_reducible exact Nat.le_refl _ | omega | (simp; done) | (simp; omega) | (simp [World.setCell]; done) | (simp [World.setCell]; omega)))))⟩
            rw [HSU.out]
            exact Blk.drew (Blk.new w9 _ _)
          case round =>
            obtain ⟨j, rfl, hj, hgj, rfl, hT, hbi⟩ := hrel
            have HG3 := Lib.hid hgj
            have HT := Lib.hid hT
            have HBI := Lib.hid hbi
            clear hgj hT hbi
            by_cases hjn : j < n
            · have hjl : j < l.length := by rw [HL.out]; exact hjn
              have HSS := Lib.hid (sumF_succ l j k s0 hjl)
              obtain ⟨S, hS⟩ : ∃ S, S = sumF l j k s0 := ⟨_, rfl⟩
              rw [← hS] at HT HSS
              rw [← hS]
              clear hS
              obtain ⟨e, he⟩ : ∃ e, e = l[j] := ⟨_, rfl⟩
              have hje : l[j]? = some e := by rw [he]; exact List.getElem?_eq_getElem hjl
              rw [← he] at HSS
              have hRw := HR5a.out wr HBI.out
              have e0 := ev_any0 hRw HL.out hje _ rfl
              have e2 := ev_any hRw HL.out hje 2 (by decide) _ rfl
              have e3 := ev_any hRw HL.out hje 3 (by decide) _ rfl
              have e8 := ev_any hRw HL.out hje 8 (by decide) _ rfl
              have e9 := ev_any hRw HL.out hje 9 (by decide) _ rfl
              have e18 := ev_any hRw HL.out hje 18 (by decide) _ rfl
              clear he hje hRw
              obtain ⟨se, st, en, er, mt⟩ := S
              have t2 : wr.cell? ⟨w9.heap.size, 2, none⟩ = some (.int .i64 en) := (HT.out.cell 2).trans rfl
              have t3 : wr.cell? ⟨w9.heap.size, 3, none⟩ = some (.int .i64 st) := (HT.out.cell 3).trans rfl
              have t4 : wr.cell? ⟨w9.heap.size, 4, none⟩ = some (.int .i64 se) := (HT.out.cell 4).trans rfl
              have t5 : wr.cell? ⟨w9.heap.size, 5, none⟩ = some (.int .i64 er) := (HT.out.cell 5).trans rfl
              have ft : ∀ q, wr.frozen? ⟨w9.heap.size, q, none⟩ = false := HT.out.frozen
              have hbT : bb ≠ w9.heap.size := Nat.ne_of_lt (Nat.lt_of_lt_of_le hbb (Nat.le_trans HBE.out.size HB5.out.size))
              have hTb : w9.heap.size ≠ bb := Ne.symm hbT
              have hj8 : (j : Int) + 1 ≤ 9223372036854775807 := by omega
              clear hjl
              by_cases c1 : e.tx ≠ (k : Int)
              · have d1 : (e.tx != (k : Int)) = true := by simp [c1]
                have HSN : Hid (sumF l (j + 1) k s0 = ⟨se, st, en, er, mt⟩) := Lib.hid (by rw [HSS.out]; unfold stepS; rw [if_pos c1])
                go_wp2_with fail
                go_roundg (n - (j + 1))
                case measure => have := HG3.out; omega
                case rel => exact ⟨j + 1, by go_num, by omega, rfl, by rw [HSN.out], by rw [HSN.out]; exact HT.out, by first | exact HBI.out | exact below_drewN HBI.out _⟩
              · have htx : e.tx = (k : Int) := by omega
                have e2' := e2
                rw [htx] at e2'
                clear e2
                by_cases kk : e.kind = 1
                · cases mt with
                  | false =>
                    rw [kk] at e3
                    have HSN : Hid (sumF l (j + 1) k s0 = ⟨e.seen, st, en, er, true⟩) := Lib.hid (by rw [HSS.out]; unfold stepS; rw [if_neg (not_not_intro htx), if_pos (.inl kk)]; simp)
                    go_wp2_with fail
                    go_quiet (fail)
                    go_wp2_with fail
                    go_roundg (n - (j + 1))
                    case measure => have := HG3.out; omega
                    case rel => exact ⟨j + 1, by go_num, by omega, rfl, by rw [HSN.out], by rw [HSN.out]; exact (HT.out.set_ 4 _), by first | exact Below.setCell HBI.out (Nat.le_refl _) _ | exact Below.setCell (below_drewN HBI.out _) (Nat.le_refl _) _⟩
                  | true =>
                    by_cases cs : se < e.seen
                    · have d4 : decide (se < e.seen) = true := by simp [cs]
                      rw [kk] at e3
                      have HSN : Hid (sumF l (j + 1) k s0 = ⟨e.seen, st, en, er, true⟩) := Lib.hid (by rw [HSS.out]; unfold stepS; rw [if_neg (not_not_intro htx), if_pos (.inl kk)]; simp [cs])
                      go_wp2_with fail
                      go_quiet (fail)
                      go_wp2_with fail
                      go_roundg (n - (j + 1))
                      case measure => have := HG3.out; omega
                      case rel => exact ⟨j + 1, by go_num, by omega, rfl, by rw [HSN.out], by rw [HSN.out]; exact (HT.out.set_ 4 _), by first | exact Below.setCell HBI.out (Nat.le_refl _) _ | exact Below.setCell (below_drewN HBI.out _) (Nat.le_refl _) _⟩
                    · have d4 : decide (se < e.seen) = false := by simp; omega
                      rw [kk] at e3
                      have HSN : Hid (sumF l (j + 1) k s0 = ⟨se, st, en, er, true⟩) := Lib.hid (by rw [HSS.out]; unfold stepS; rw [if_neg (not_not_intro htx), if_pos (.inl kk)]; simp [cs])
                      go_wp2_with fail
                      go_quiet (fail)
                      go_wp2_with fail
                      go_roundg (n - (j + 1))
                      case measure => have := HG3.out; omega
                      case rel => exact ⟨j + 1, by go_num, by omega, rfl, by rw [HSN.out], by rw [HSN.out]; exact HT.out, by first | exact HBI.out | exact below_drewN HBI.out _⟩
                by_cases k1 : e.kind = 2
                · have kk := k1
                  cases mt with
                  | false =>
                    rw [kk] at e3
                    have HSN : Hid (sumF l (j + 1) k s0 = ⟨e.seen, st, en, er, true⟩) := Lib.hid (by rw [HSS.out]; unfold stepS; rw [if_neg (not_not_intro htx), if_pos (.inr kk)]; simp)
                    go_wp2_with fail
                    go_quiet (fail)
                    go_wp2_with fail
                    go_roundg (n - (j + 1))
                    case measure => have := HG3.out; omega
                    case rel => exact ⟨j + 1, by go_num, by omega, rfl, by rw [HSN.out], by rw [HSN.out]; exact (HT.out.set_ 4 _), by first | exact Below.setCell HBI.out (Nat.le_refl _) _ | exact Below.setCell (below_drewN HBI.out _) (Nat.le_refl _) _⟩
                  | true =>
                    by_cases cs : se < e.seen
                    · have d4 : decide (se < e.seen) = true := by simp [cs]
                      rw [kk] at e3
                      have HSN : Hid (sumF l (j + 1) k s0 = ⟨e.seen, st, en, er, true⟩) := Lib.hid (by rw [HSS.out]; unfold stepS; rw [if_neg (not_not_intro htx), if_pos (.inr kk)]; simp [cs])
                      go_wp2_with fail
                      go_quiet (fail)
                      go_wp2_with fail
                      go_roundg (n - (j + 1))
                      case measure => have := HG3.out; omega
                      case rel => exact ⟨j + 1, by go_num, by omega, rfl, by rw [HSN.out], by rw [HSN.out]; exact (HT.out.set_ 4 _), by first | exact Below.setCell HBI.out (Nat.le_refl _) _ | exact Below.setCell (below_drewN HBI.out _) (Nat.le_refl _) _⟩
                    · have d4 : decide (se < e.seen) = false := by simp; omega
                      rw [kk] at e3
                      have HSN : Hid (sumF l (j + 1) k s0 = ⟨se, st, en, er, true⟩) := Lib.hid (by rw [HSS.out]; unfold stepS; rw [if_neg (not_not_intro htx), if_pos (.inr kk)]; simp [cs])
                      go_wp2_with fail
                      go_quiet (fail)
                      go_wp2_with fail
                      go_roundg (n - (j + 1))
                      case measure => have := HG3.out; omega
                      case rel => exact ⟨j + 1, by go_num, by omega, rfl, by rw [HSN.out], by rw [HSN.out]; exact HT.out, by first | exact HBI.out | exact below_drewN HBI.out _⟩
                by_cases k4 : e.kind = 4
                · rw [k4] at e3
                  have HSN : Hid (sumF l (j + 1) k s0 = ⟨se, e.stamp, e.at_, er, mt⟩) := Lib.hid (by rw [HSS.out]; unfold stepS; rw [if_neg (not_not_intro htx), if_neg (by rintro (h | h); exact kk h; exact k1 h)]; rw [if_pos k4])
                  go_wp2_with fail
                  go_roundg (n - (j + 1))
                  case measure => have := HG3.out; omega
                  case rel => exact ⟨j + 1, by go_num, by omega, rfl, by rw [HSN.out], by rw [HSN.out]; exact ((HT.out.set_ 3 _).set_ 2 _), by exact Below.setCell (Below.setCell HBI.out (Nat.le_refl _) _) (Nat.le_refl _) _⟩
                by_cases k6 : e.kind = 6
                · rw [k6] at e3
                  have HSN : Hid (sumF l (j + 1) k s0 = ⟨se, st, e.at_, e.err, mt⟩) := Lib.hid (by rw [HSS.out]; unfold stepS; rw [if_neg (not_not_intro htx), if_neg (by rintro (h | h); exact kk h; exact k1 h)]; rw [if_neg k4, if_pos k6])
                  go_wp2_with fail
                  go_roundg (n - (j + 1))
                  case measure => have := HG3.out; omega
                  case rel => exact ⟨j + 1, by go_num, by omega, rfl, by rw [HSN.out], by rw [HSN.out]; exact ((HT.out.set_ 2 _).set_ 5 _), by exact Below.setCell (Below.setCell HBI.out (Nat.le_refl _) _) (Nat.le_refl _) _⟩
                have n1 : (e.kind == 1) = false := by simp [kk]
                have n2 : (e.kind == 2) = false := by simp [k1]
                have n4 : (e.kind == 4) = false := by simp [k4]
                have n6 : (e.kind == 6) = false := by simp [k6]
                have HSN : Hid (sumF l (j + 1) k s0 = ⟨se, st, en, er, mt⟩) := Lib.hid (by rw [HSS.out]; unfold stepS; rw [if_neg (not_not_intro htx), if_neg (by rintro (h | h); exact kk h; exact k1 h)]; rw [if_neg k4, if_neg k6])
                go_wp2_with fail
                go_roundg (n - (j + 1))
                case measure => have := HG3.out; omega
                case rel => exact ⟨j + 1, by go_num, by omega, rfl, by rw [HSN.out], by rw [HSN.out]; exact HT.out, by first | exact HBI.out | exact below_drewN HBI.out _⟩
            · have hjj : j = n := by omega
              subst hjj
              obtain ⟨z, hzz⟩ : ∃ z, z = refTx l k := ⟨_, rfl⟩
              have hbz : (b.l[k]).z = z := by rw [hzz]; exact HZ.out k hkb
              have hsb : z.stamp ≤ j := by
                have h1 := (HST.out _ (List.getElem_mem hkb)).2
                have h2 := HSM.out.pub
                have h3 := HL.out
                have h4 : (b.l[k]).stamp = z.stamp := by rw [← hbz]; rfl
                omega
              have href : z = ⟨th, at_, (sumF l j k s0).ended, (sumF l j k s0).stamp, if 0 < (sumF l j k s0).stamp then (sumF l j k s0).stamp - 1 else (sumF l j k s0).seen, (sumF l j k s0).err⟩ := by
                obtain ⟨hol, h1, h2⟩ := HOL.out
                rw [hzz]
                unfold refTx
                rw [HFO.out, evAt_of hol, Int.toNat_natCast, ← HS0.out, HL.out]
                simp only [h1, h2]
              obtain ⟨S, hS⟩ : ∃ S, S = sumF l j k s0 := ⟨_, rfl⟩
              rw [← hS] at HT href
              rw [← hS]
              clear hS
              obtain ⟨se, st, en, er, mt⟩ := S
              have t3 : wr.cell? ⟨w9.heap.size, 3, none⟩ = some (.int .i64 st) := (HT.out.cell 3).trans rfl
              have t4 : wr.cell? ⟨w9.heap.size, 4, none⟩ = some (.int .i64 se) := (HT.out.cell 4).trans rfl
              have ft : ∀ q, wr.frozen? ⟨w9.heap.size, q, none⟩ = false := HT.out.frozen
              have hst0 : z.stamp = st := by rw [href]
              rw [hst0] at hsb
              have HREF := Lib.hid href
              have HBZ := Lib.hid hbz
              clear href hbz hzz hst0
              have hw8 : w.heap.size ≤ w9.heap.size := Nat.le_trans HBE.out.size HB5.out.size
              by_cases cst : 0 < st
              · have d3 : decide (0 < st) = true := by simp [cst]
                go_upto_region 34 with fail
                refine wp_world fun W5 hW5 => ?_
                have HTT : Hid (Blk W5 w9.heap.size 50 z.cells.toArray) := Lib.hid (by rw [hW5, HREF.out]; simp only [cst, if_true]; exact HT.out.set_ 4 _)
                have HBW : Hid (Below w9.heap.size w9 W5) := Lib.hid (by rw [hW5]; exact Below.setCell HBI.out (Nat.le_refl _) _)
                clear hW5
                have hwW := HBW.out.size
                have HOW := Lib.hid (own_keep HO.out fun q hq => HBW.out.block q (HO.out.lt q hq).2)
                go_wp2_with (first
                  | (refine wpList_load_mid rfl 50 (.tmp 11) rfl w9.heap.size 0 rfl z.cells _ (blk_range HTT.out) Tryz.underlying50 rfl (by kernel_rfl) ?_)
                  | (refine wpList_build_txz z rfl (.tmp 128) rfl rfl ?_)
                  | (at_builtin; go_must (refine wpList_append_lies _ rfl (.tmp 127) (.tmp 129) 44 rfl w.heap.size 50 i0 _ 6 48 Tryz.underlying44 hi0 hz0 hz1 hz2 rfl (by decide) _ k _ rfl (HOW.out.alloc _) ⟨W5.heap.size, 0, none⟩ 1 1 z.cells rfl rfl (news_txz W5 z) (txz_one _) (by omega) (by unfold maxLen; omega) (by omega) (by simp; omega) (W5.heap.size + 1) (by simp) ?_; intro gg cap w2 hown2 hgrow hat hlt2)))
                have hgr : Below w.heap.size w4 w2 := ((HB5.out.trans (HBW.out.mono hw8)).trans (Below.alloc (Below.refl _ _) (by omega) _)).trans (below_grown (HOW.out.alloc _) hgrow (by simp; omega))
                have hrow : txzs ((b.l.take (k + 1)).map TxP.z) = txzs ((b.l.take k).map TxP.z) ++ z.cells := by
                  rw [List.take_succ_eq_append_getElem hkb, List.map_append, List.map_cons, List.map_nil, txzs_snoc, HBZ.out]
                rw [← hrow] at hown2
                clear hgrow hat
                have hk8 : (k : Int) + 1 ≤ 9223372036854775807 := by omega
                go_wp2_with fail
                go_roundg (m - (k + 1))
                case measure => have := HG2.out; omega
                case rel => exact ⟨k + 1, by go_num, by omega, rfl, hown2, hgr⟩
              · have d3 : decide (0 < st) = false := by simp; omega
                go_upto_region 34 with fail
                refine wp_world fun W5 hW5 => ?_
                have HTT : Hid (Blk W5 w9.heap.size 50 z.cells.toArray) := Lib.hid (by rw [hW5, HREF.out]; simp only [cst, if_false]; exact HT.out)
                have HBW : Hid (Below w9.heap.size w9 W5) := Lib.hid (by rw [hW5]; exact HBI.out)
                clear hW5
                have hwW := HBW.out.size
                have HOW := Lib.hid (own_keep HO.out fun q hq => HBW.out.block q (HO.out.lt q hq).2)
                go_wp2_with (first
                  | (refine wpList_load_mid rfl 50 (.tmp 11) rfl w9.heap.size 0 rfl z.cells _ (blk_range HTT.out) Tryz.underlying50 rfl (by kernel_rfl) ?_)
                  | (refine wpList_build_txz z rfl (.tmp 128) rfl rfl ?_)
                  | (at_builtin; go_must (refine wpList_append_lies _ rfl (.tmp 127) (.tmp 129) 44 rfl w.heap.size 50 i0 _ 6 48 Tryz.underlying44 hi0 hz0 hz1 hz2 rfl (by decide) _ k _ rfl (HOW.out.alloc _) ⟨W5.heap.size, 0, none⟩ 1 1 z.cells rfl rfl (news_txz W5 z) (txz_one _) (by omega) (by unfold maxLen; omega) (by omega) (by simp; omega) (W5.heap.size + 1) (by simp) ?_; intro gg cap w2 hown2 hgrow hat hlt2)))
                have hgr : Below w.heap.size w4 w2 := ((HB5.out.trans (HBW.out.mono hw8)).trans (Below.alloc (Below.refl _ _) (by omega) _)).trans (below_grown (HOW.out.alloc _) hgrow (by simp; omega))
                have hrow : txzs ((b.l.take (k + 1)).map TxP.z) = txzs ((b.l.take k).map TxP.z) ++ z.cells := by
                  rw [List.take_succ_eq_append_getElem hkb, List.map_append, List.map_cons, List.map_nil, txzs_snoc, HBZ.out]
                rw [← hrow] at hown2
                clear hgrow hat
                have hk8 : (k : Int) + 1 ≤ 9223372036854775807 := by omega
                go_wp2_with fail
                go_roundg (m - (k + 1))
                case measure => have := HG2.out; omega
                case rel => exact ⟨k + 1, by go_num, by omega, rfl, hown2, hgr⟩
        · have hkk : k = m := by omega
          subst hkk
          go_wp2_with fail
          go_ret3
          refine ⟨_, rfl, ?_, HBE.out.trans HB5.out⟩
          have := HO.out
          rw [List.take_of_length_le (by rw [HMM.out]; exact Nat.le_refl _)] at this
          rw [← HMM.out]
          exact this
end Go.Proofs.YtffjcojehiblnaaGreatDoor
