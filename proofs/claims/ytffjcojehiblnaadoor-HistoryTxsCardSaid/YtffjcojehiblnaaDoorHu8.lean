/- The document's may, whatever the event. -/
import Derived.Test.YtffjcojehiblnaaDoorHu4
import Derived.Test.YtffjcojehiblnaaDoorHu5
import Derived.Test.YtffjcojehiblnaaDoorHu6
import Derived.Test.YtffjcojehiblnaaDoorHu7
namespace Go.Proofs.YtffjcojehiblnaaDoor
open Go.RowKit Go.Joins Go.ChangeShapes Go.WideShapes Go.Deep
set_option linter.unusedVariables false
set_option linter.unusedSimpArgs false
set_option maxRecDepth 100000

theorem may_any (A : Option Addr) (n nc : Nat) (l : List Ev) (i : Nat) (w : World) (hl : l.length = n) (hn : n * 152 ≤ 140737488351232) (hR : Reads w w.heap.size 19 A n (evs l)) (hi : i < n) (e : Ev) (he : l[i]? = some e) (hm : ∀ j (hj : j < l.length), j < i → mayF l j l[j] = true) :
    Calls Tryd.prog 16 #[.slice A n nc, .int .i64 i] w fun r w' => r = .returned (.bool (mayF l i e)) ∧ Below w.heap.size w w' := by
  obtain ⟨b, _, I⟩ := read_take l i (by omega) hm
  unfold mayF
  by_cases c1 : e.at_ < 0
  · rw [if_pos (.inl c1)]
    exact may_p1 A n nc l i w hl hn hR hi e he c1
  by_cases ca : i = 0 ∨ 0 < i ∧ ¬ e.at_ < (evAt l ((i : Int) - 1)).at_
  case neg =>
    have h0 : 0 < i := by
      rcases Nat.eq_zero_or_pos i with h | h
      · exact absurd (.inl h) ca
      · exact h
    have hb : e.at_ < (evAt l ((i : Int) - 1)).at_ := by
      by_cases h : e.at_ < (evAt l ((i : Int) - 1)).at_
      · exact h
      · exact absurd (.inr ⟨h0, h⟩) ca
    rw [if_pos (.inr ⟨h0, hb⟩)]
    exact may_p2 A n nc l i w hl hn hR hi e he c1 h0 hb
  rw [if_neg (by
    rintro (h | ⟨h, h'⟩)
    · exact c1 h
    · rcases ca with ca | ⟨_, ca⟩
      · omega
      · exact ca h')]
  by_cases k7 : e.kind = 7
  · rw [if_pos k7]
    by_cases c2 : e.tx = (countF l i 7 (-1) : Int)
    · rw [decide_eq_true c2]
      exact may_open1 A n nc l i w hl hn hR hi e he c1 ca k7 c2
    · rw [decide_eq_false c2]
      exact may_open0 A n nc l i w hl hn hR hi e he c1 ca k7 c2
  rw [if_neg k7]
  by_cases t0 : e.tx < 0
  · rw [if_pos (.inl t0)]
    exact may_tx0 A n nc l i w hl hn hR hi e he c1 ca k7 t0
  by_cases t1 : (countF l i 7 (-1) : Int) ≤ e.tx
  · rw [if_pos (.inr t1)]
    exact may_tx1 A n nc l i w hl hn hR hi e he c1 ca k7 t0 t1
  rw [if_neg (by rintro (h | h); exact t0 h; exact t1 h)]
  have hnt : e.tx.toNat < b.l.length := by rw [I.len]; omega
  have T := I.each e.tx.toNat hnt
  have hcast : ((e.tx.toNat : Nat) : Int) = e.tx := by omega
  obtain ⟨o, ho, hoi, hol, _⟩ := T.op
  rw [hcast] at ho
  have hz : l[o]? = some l[o] := List.getElem?_eq_getElem hol
  have hpb := T.pb
  rw [hcast] at hpb
  rw [ho, evAt_of hol]
  by_cases ov : 0 < countF l i 6 e.tx + countF l i 5 e.tx
  · rw [if_pos (.inl ov)]
    exact may_over A n nc l i w hl hn hR hi e he c1 ca k7 t0 t1 o ho (by omega) _ hz (by omega)
  have ov' : ¬ 0 < (countF l i 6 e.tx : Int) + (countF l i 5 e.tx : Int) := by omega
  by_cases th : l[o].thread = e.thread
  case neg =>
    rw [if_pos (.inr th)]
    exact may_thread A n nc l i w hl hn hR hi e he c1 ca k7 t0 t1 o ho (by omega) _ hz ov' th
  rw [if_neg (by rintro (h | h); exact ov h; exact h th)]
  by_cases n1 : e.kind = 1
  · rw [if_pos n1]
    by_cases c : countF l i 1 e.tx = 0
    · rw [decide_eq_true c]
      exact may_begun1 A n nc l i w hl hn hR hi e he c1 ca k7 t0 t1 o ho (by omega) _ hz ov' th n1 (by omega)
    · rw [decide_eq_false c]
      exact may_begun0 A n nc l i w hl hn hR hi e he c1 ca k7 t0 t1 o ho (by omega) _ hz ov' th n1 (by omega)
  rw [if_neg n1]
  by_cases n2 : e.kind = 2
  · rw [if_pos (.inl n2)]
    by_cases c : countF l i 1 e.tx = 1
    case neg =>
      rw [decide_eq_false (fun h => c h.1)]
      exact may_read_a A n nc l i w hl hn hR hi e he c1 ca k7 t0 t1 o ho (by omega) _ hz ov' th n2 (by omega)
    by_cases q : countF l i 4 e.tx = 0
    case neg =>
      rw [decide_eq_false (fun h => q h.2.1)]
      exact may_read_b A n nc l i w hl hn hR hi e he c1 ca k7 t0 t1 o ho (by omega) _ hz ov' th n2 (by omega) (by omega)
    by_cases x : e.cell < 0
    · rw [decide_eq_false (fun h => by omega)]
      exact may_read_c A n nc l i w hl hn hR hi e he c1 ca k7 t0 t1 o ho (by omega) _ hz ov' th n2 (by omega) (by omega) x
    by_cases y : e.cell < 1024
    · rw [decide_eq_true ⟨c, q, by omega, y⟩]
      exact may_read_e A n nc l i w hl hn hR hi e he c1 ca k7 t0 t1 o ho (by omega) _ hz ov' th n2 (by omega) (by omega) x y
    · rw [decide_eq_false (fun h => by omega)]
      exact may_read_d A n nc l i w hl hn hR hi e he c1 ca k7 t0 t1 o ho (by omega) _ hz ov' th n2 (by omega) (by omega) x y
  by_cases n3 : e.kind = 3
  · rw [if_pos (.inr n3)]
    by_cases c : countF l i 1 e.tx = 1
    case neg =>
      rw [decide_eq_false (fun h => c h.1)]
      exact may_wrote_a A n nc l i w hl hn hR hi e he c1 ca k7 t0 t1 o ho (by omega) _ hz ov' th n3 (by omega)
    by_cases q : countF l i 4 e.tx = 0
    case neg =>
      rw [decide_eq_false (fun h => q h.2.1)]
      exact may_wrote_b A n nc l i w hl hn hR hi e he c1 ca k7 t0 t1 o ho (by omega) _ hz ov' th n3 (by omega) (by omega)
    by_cases x : e.cell < 0
    · rw [decide_eq_false (fun h => by omega)]
      exact may_wrote_c A n nc l i w hl hn hR hi e he c1 ca k7 t0 t1 o ho (by omega) _ hz ov' th n3 (by omega) (by omega) x
    by_cases y : e.cell < 1024
    · rw [decide_eq_true ⟨c, q, by omega, y⟩]
      exact may_wrote_e A n nc l i w hl hn hR hi e he c1 ca k7 t0 t1 o ho (by omega) _ hz ov' th n3 (by omega) (by omega) x y
    · rw [decide_eq_false (fun h => by omega)]
      exact may_wrote_d A n nc l i w hl hn hR hi e he c1 ca k7 t0 t1 o ho (by omega) _ hz ov' th n3 (by omega) (by omega) x y
  rw [if_neg (by rintro (h | h); exact n2 h; exact n3 h)]
  by_cases n4 : e.kind = 4
  · rw [if_pos n4]
    by_cases c : countF l i 1 e.tx = 1
    case neg =>
      rw [decide_eq_false (fun h => c h.1)]
      exact may_pub_a A n nc l i w hl hn hR hi e he c1 ca k7 t0 t1 o ho (by omega) _ hz ov' th n4 (by omega)
    by_cases q : countF l i 4 e.tx = 0
    case neg =>
      rw [decide_eq_false (fun h => q h.2.1)]
      exact may_pub_b A n nc l i w hl hn hR hi e he c1 ca k7 t0 t1 o ho (by omega) _ hz ov' th n4 (by omega) (by omega)
    by_cases x : e.stamp = (countF l i 4 (-1) : Int) + 1
    · rw [decide_eq_true ⟨c, q, x⟩]
      exact may_pub_d A n nc l i w hl hn hR hi e he c1 ca k7 t0 t1 o ho (by omega) _ hz ov' th n4 (by omega) (by omega) x
    · rw [decide_eq_false (fun h => x h.2.2)]
      exact may_pub_c A n nc l i w hl hn hR hi e he c1 ca k7 t0 t1 o ho (by omega) _ hz ov' th n4 (by omega) (by omega) x
  rw [if_neg n4]
  by_cases n5 : e.kind = 5
  · rw [if_pos n5]
    by_cases q : countF l i 4 e.tx = 0
    · rw [decide_eq_false (fun h => h.1 q)]
      exact may_done_a A n nc l i w hl hn hR hi e he c1 ca k7 t0 t1 o ho (by omega) _ hz ov' th n5 (by omega)
    have hst : (b.l[e.tx.toNat]).stamp ≠ 0 := fun h => q (hpb.1 h)
    obtain ⟨_, _, o4, hf4, ho4, _⟩ := hpb.2 hst
    have ho4i : o4 < n := by omega
    have hz4 : l[o4]? = some l[o4] := List.getElem?_eq_getElem ho4
    rw [hf4, evAt_of ho4]
    by_cases x : e.stamp = l[o4].stamp
    case neg =>
      rw [decide_eq_false (fun h => x h.2.1)]
      exact may_done_b A n nc l i w hl hn hR hi e he c1 ca k7 t0 t1 o ho (by omega) _ hz ov' th n5 (by omega) o4 hf4 ho4i _ hz4 x
    by_cases y : e.stamp = (countF l i 5 (-1) : Int) + 1
    · rw [decide_eq_true ⟨q, x, y⟩]
      exact may_done_d A n nc l i w hl hn hR hi e he c1 ca k7 t0 t1 o ho (by omega) _ hz ov' th n5 (by omega) o4 hf4 ho4i _ hz4 x y
    · rw [decide_eq_false (fun h => y h.2.2)]
      exact may_done_c A n nc l i w hl hn hR hi e he c1 ca k7 t0 t1 o ho (by omega) _ hz ov' th n5 (by omega) o4 hf4 ho4i _ hz4 x y
  rw [if_neg n5]
  by_cases n6 : e.kind = 6
  · rw [if_pos n6]
    by_cases c : countF l i 1 e.tx = 1
    case neg =>
      rw [decide_eq_false (fun h => c h.1)]
      exact may_end_a A n nc l i w hl hn hR hi e he c1 ca k7 t0 t1 o ho (by omega) _ hz ov' th n6 (by omega)
    by_cases q : countF l i 4 e.tx = 0
    · rw [decide_eq_true ⟨c, q⟩]
      exact may_end_c A n nc l i w hl hn hR hi e he c1 ca k7 t0 t1 o ho (by omega) _ hz ov' th n6 (by omega) (by omega)
    · rw [decide_eq_false (fun h => q h.2)]
      exact may_end_b A n nc l i w hl hn hR hi e he c1 ca k7 t0 t1 o ho (by omega) _ hz ov' th n6 (by omega) (by omega)
  rw [if_neg n6]
  exact may_other A n nc l i w hl hn hR hi e he c1 ca k7 t0 t1 o ho (by omega) _ hz ov' th n1 n2 n3 n4 n5 n6
end Go.Proofs.YtffjcojehiblnaaDoor
