/- What State.Call does. -/
import Derived.Test.YtpmpgnhbpneloaaQm
namespace Go.Proofs.Ytpmpgnhbpneloaa
open Go.RowKit Go.Joins Go.ChangeShapes Go.WideShapes Go.Deep
set_option linter.unusedVariables false
set_option maxRecDepth 100000

abbrev Row4 := Int × Int × Int × FuncId
def tab : List Row4 := [(1, 1, 2, 39), (1, 2, 1, 40), (2, 3, 1, 41), (2, 2, 0, 42), (2, 5, 0, 43),
  (3, 2, 1, 44), (3, 3, 2, 45), (3, 4, 1, 46), (3, 5, 0, 47),
  (4, 1, 1, 48), (4, 4, 1, 49), (4, 6, 1, 50), (4, 7, 0, 51), (4, 8, 1, 52), (4, 5, 0, 43)]
def rowC (r : Row4) : List Value := [.int .i64 r.1, .int .i64 r.2.1, .int .i64 r.2.2.1, .func (.func r.2.2.2) #[] #[]]

set_option maxHeartbeats 2000000 in
theorem calls_any (w : World) : Calls Try.prog 25 #[] w fun e w' => e = .returned (.slice (some ⟨w.heap.size, 0, none⟩) 15 15) ∧ w' = w.alloc (.cells (rows rowC tab).toArray 76) := by
  go_enter Try.func25, Try.ntmps25
  go_wp2
  go_ret
  exact ⟨rfl, by simp [rows, rowC, tab]⟩

theorem arity_tab (kind call : Int) (n : Nat) (h : ∀ r ∈ tab, ¬ (r.1 = kind ∧ r.2.1 = call ∧ r.2.2.1 = (n : Int))) : arityK kind call ≠ n := by
  have h0 : ¬ ((1 : Int) = kind ∧ (1 : Int) = call ∧ (2 : Int) = (n : Int)) := h (1, 1, 2, 39) (by simp [tab])
  have h1 : ¬ ((1 : Int) = kind ∧ (2 : Int) = call ∧ (1 : Int) = (n : Int)) := h (1, 2, 1, 40) (by simp [tab])
  have h2 : ¬ ((2 : Int) = kind ∧ (3 : Int) = call ∧ (1 : Int) = (n : Int)) := h (2, 3, 1, 41) (by simp [tab])
  have h3 : ¬ ((2 : Int) = kind ∧ (2 : Int) = call ∧ (0 : Int) = (n : Int)) := h (2, 2, 0, 42) (by simp [tab])
  have h4 : ¬ ((2 : Int) = kind ∧ (5 : Int) = call ∧ (0 : Int) = (n : Int)) := h (2, 5, 0, 43) (by simp [tab])
  have h5 : ¬ ((3 : Int) = kind ∧ (2 : Int) = call ∧ (1 : Int) = (n : Int)) := h (3, 2, 1, 44) (by simp [tab])
  have h6 : ¬ ((3 : Int) = kind ∧ (3 : Int) = call ∧ (2 : Int) = (n : Int)) := h (3, 3, 2, 45) (by simp [tab])
  have h7 : ¬ ((3 : Int) = kind ∧ (4 : Int) = call ∧ (1 : Int) = (n : Int)) := h (3, 4, 1, 46) (by simp [tab])
  have h8 : ¬ ((3 : Int) = kind ∧ (5 : Int) = call ∧ (0 : Int) = (n : Int)) := h (3, 5, 0, 47) (by simp [tab])
  have h9 : ¬ ((4 : Int) = kind ∧ (1 : Int) = call ∧ (1 : Int) = (n : Int)) := h (4, 1, 1, 48) (by simp [tab])
  have h10 : ¬ ((4 : Int) = kind ∧ (4 : Int) = call ∧ (1 : Int) = (n : Int)) := h (4, 4, 1, 49) (by simp [tab])
  have h11 : ¬ ((4 : Int) = kind ∧ (6 : Int) = call ∧ (1 : Int) = (n : Int)) := h (4, 6, 1, 50) (by simp [tab])
  have h12 : ¬ ((4 : Int) = kind ∧ (7 : Int) = call ∧ (0 : Int) = (n : Int)) := h (4, 7, 0, 51) (by simp [tab])
  have h13 : ¬ ((4 : Int) = kind ∧ (8 : Int) = call ∧ (1 : Int) = (n : Int)) := h (4, 8, 1, 52) (by simp [tab])
  have h14 : ¬ ((4 : Int) = kind ∧ (5 : Int) = call ∧ (0 : Int) = (n : Int)) := h (4, 5, 0, 43) (by simp [tab])
  clear h
  intro e
  have hn : (0 : Int) ≤ (n : Int) := by omega
  unfold arityK at e
  by_cases k1 : kind = 1
  · subst k1
    simp only [if_true] at e
    by_cases c1 : call = 1
    · rw [if_pos c1] at e
      exact h0 ⟨rfl, c1.symm, e⟩
    rw [if_neg c1] at e
    by_cases c2 : call = 2
    · rw [if_pos c2] at e
      exact h1 ⟨rfl, c2.symm, e⟩
    rw [if_neg c2] at e
    omega
  rw [if_neg k1] at e
  by_cases k2 : kind = 2
  · subst k2
    simp only [if_true, if_neg (show ¬ ((2 : Int) = 1) by decide)] at e
    by_cases c3 : call = 3
    · rw [if_pos c3] at e
      exact h2 ⟨rfl, c3.symm, e⟩
    rw [if_neg c3] at e
    by_cases c2 : call = 2
    · rw [if_pos c2] at e
      exact h3 ⟨rfl, c2.symm, e⟩
    rw [if_neg c2] at e
    by_cases c5 : call = 5
    · rw [if_pos c5] at e
      exact h4 ⟨rfl, c5.symm, e⟩
    rw [if_neg c5] at e
    omega
  rw [if_neg k2] at e
  by_cases k3 : kind = 3
  · subst k3
    simp only [if_true, if_neg (show ¬ ((3 : Int) = 1) by decide), if_neg (show ¬ ((3 : Int) = 2) by decide)] at e
    by_cases c2 : call = 2
    · rw [if_pos c2] at e
      exact h5 ⟨rfl, c2.symm, e⟩
    rw [if_neg c2] at e
    by_cases c3 : call = 3
    · rw [if_pos c3] at e
      exact h6 ⟨rfl, c3.symm, e⟩
    rw [if_neg c3] at e
    by_cases c4 : call = 4
    · rw [if_pos c4] at e
      exact h7 ⟨rfl, c4.symm, e⟩
    rw [if_neg c4] at e
    by_cases c5 : call = 5
    · rw [if_pos c5] at e
      exact h8 ⟨rfl, c5.symm, e⟩
    rw [if_neg c5] at e
    omega
  rw [if_neg k3] at e
  by_cases k4 : kind = 4
  · subst k4
    simp only [if_true, if_neg (show ¬ ((4 : Int) = 1) by decide), if_neg (show ¬ ((4 : Int) = 2) by decide), if_neg (show ¬ ((4 : Int) = 3) by decide)] at e
    by_cases c1 : call = 1
    · rw [if_pos c1] at e
      exact h9 ⟨rfl, c1.symm, e⟩
    rw [if_neg c1] at e
    by_cases c4 : call = 4
    · rw [if_pos c4] at e
      exact h10 ⟨rfl, c4.symm, e⟩
    rw [if_neg c4] at e
    by_cases c6 : call = 6
    · rw [if_pos c6] at e
      exact h11 ⟨rfl, c6.symm, e⟩
    rw [if_neg c6] at e
    by_cases c7 : call = 7
    · rw [if_pos c7] at e
      exact h12 ⟨rfl, c7.symm, e⟩
    rw [if_neg c7] at e
    by_cases c8 : call = 8
    · rw [if_pos c8] at e
      exact h13 ⟨rfl, c8.symm, e⟩
    rw [if_neg c8] at e
    by_cases c5 : call = 5
    · rw [if_pos c5] at e
      exact h14 ⟨rfl, c5.symm, e⟩
    rw [if_neg c5] at e
    omega
  rw [if_neg k4] at e
  omega
/-- A row of the table does what the plain law says. -/
theorem row_does {r : Row4} (hr : r ∈ tab) (x : TM) (T o base : Nat) (A : Option Addr) (ca : Nat) (args : List Int) (w : World) (h : Cel w base T (o + 2) (o + 3) x) (hm : w.cell? ⟨T, o + 1, none⟩ = some (.int .i64 x.t.most)) (hok : TOk x.t) (hA : Reads w w.heap.size 1 A args.length (ints args)) (hbase : base ≤ w.heap.size)
    (hsep : 0 < args.length → ∀ ad, A = some ad → x.vv.ownBlock ≠ some ad.block) (h1 : r.1 = x.t.kind) (h3 : r.2.2.1 = (args.length : Int)) :
    Calls Try.prog r.2.2.2 #[.pointer (some ⟨T, o, none⟩), .slice A args.length ca] w (MPost (callF x.t r.2.1 args) base T (o + 2) (o + 3) x w) ∧ arityK x.t.kind r.2.1 = args.length := by
  simp only [tab, List.mem_cons, List.not_mem_nil, or_false] at hr
  rcases hr with rfl | rfl | rfl | rfl | rfl | rfl | rfl | rfl | rfl | rfl | rfl | rfl | rfl | rfl | rfl
  all_goals
    simp only at h1 h3 ⊢
    have hal : args.length = _ := Int.ofNat.inj h3.symm
    refine ⟨?_, by rw [← h1, ← h3]; rfl⟩
    unfold callF
    simp only [← h1]
  · exact count_any x T o base A _ ca args w h hok hA hal hal (hsep (by omega))
  · exact counted_any x T o base A _ ca args w h hok hA hal hal
  · exact push_any x T o base A _ ca args w h hm hok hA hal hal hbase
  · exact pull_any x T o base _ w h hok
  · exact long_any x T o base _ w h
  · exact get_any x T o base A _ ca args w h hok h1.symm hA hal hal
  · exact put_any x T o base A _ ca args w h hm hok h1.symm hA hal hal hbase
  · exact del_any x T o base A _ ca args w h hok h1.symm hA hal hal
  · exact wide_any x T o base _ w h
  · exact add_any x T o base A _ ca args w h hm hok h1.symm hA hal hal hbase
  · exact cut_any x T o base A _ ca args w h hok h1.symm hA hal hal
  · exact has_any x T o base A _ ca args w h hok h1.symm hA hal hal
  · exact least_any x T o base _ w h
  · exact next_any x T o base A _ ca args w h hok h1.symm hA hal hal
  · exact long_any x T o base _ w h
theorem row_enter {r : Row4} (hr : r ∈ tab) (args : Array Value) (w : World) : (callFunc r.2.2.2 args).run Try.prog w = .ok (.enter r.2.2.2 args) w := by
  simp only [tab, List.mem_cons, List.not_mem_nil, or_false] at hr
  rcases hr with rfl | rfl | rfl | rfl | rfl | rfl | rfl | rfl | rfl | rfl | rfl | rfl | rfl | rfl | rfl
  all_goals (simp; done)
end Go.Proofs.Ytpmpgnhbpneloaa
