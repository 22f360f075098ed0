/- The library's Insert, whole, at int64. -/
import Derived.Test.YtpmpgnhbpneloaaQc
namespace Go.Proofs.Ytpmpgnhbpneloaa
open Go.RowKit Go.Joins Go.ChangeShapes Go.WideShapes Go.Deep
set_option linter.unusedVariables false
set_option maxRecDepth 100000

set_option maxHeartbeats 1000000 in
theorem insert_endV (base n c vb : Nat) (A : Option Addr) (xs news : List Value) (w : World) (hn16 : n ≤ 1000) (hown : w.ownsRow base 2 1 (.slice A n c) n xs) (hbase : base ≤ w.heap.size) (hv : Blk w vb 2 news.toArray) (hnl : news.length = 1) (h1v : ∀ v ∈ news, v.oneCell' = true) :
    Calls Try.prog 70 #[.slice A n c, .int .i64 n, .slice (some ⟨vb, 0, none⟩) 1 1] w fun e w' => ∃ v', e = .returned v' ∧ w'.ownsRow base 2 1 v' (n + 1) (xs ++ news) ∧ w.grownBy w' (Value.slice A n c).ownBlock ∧
      (v'.ownBlock = (Value.slice A n c).ownBlock ∨ v'.ownBlock = some w.heap.size) := by
  obtain ⟨i0, hi0, hz0, hz1, hz2⟩ := info_parts info_insV
  have hR : Reads w w.heap.size 1 (some ⟨vb, 0, none⟩) 1 news := ⟨by rw [hnl], fun _ => ⟨_, rfl, hv.lt, by simpa using hv.at0 0⟩⟩
  have hmx : n + 1 ≤ maxLen := by unfold maxLen; omega
  have hmb : (n + 1) * 8 ≤ 140737488355328 := by omega
  have HO := hown
  rcases hown.2 with ⟨he, h0⟩ | ⟨g, cap, cur, he, hb, hh, hnc, hm, hs, ht⟩
  · injection he with e1 e2 e3
    subst e1 e2 e3
    clear hown
    go_enter Try.func70, Try.ntmps70
    go_wp2_with (at_builtin; refine wpList_append_any _ rfl _ _ 34 rfl base 2 i0 _ 1 8 Try.underlying34 hi0 hz0 hz1 hz2 rfl (by decide) _ _ _ rfl HO w.heap.size (some ⟨vb, 0, none⟩) 1 1 news rfl hR h1v hmx hmb hbase ?_; intro v' w1 hown1 hgrow hd)
    go_ret
    exact ⟨_, rfl, hown1, hgrow, hd⟩
  · injection he with e1 e2 e3
    subst e1 e3
    clear hown hh hs ht hb
    unfold maxLen at hm
    by_cases hcn : c = n
    all_goals
      go_enter Try.func70, Try.ntmps70
      go_wp2_with (at_builtin; refine wpList_append_any _ rfl _ _ 34 rfl base 2 i0 _ 1 8 Try.underlying34 hi0 hz0 hz1 hz2 rfl (by decide) _ _ _ rfl HO w.heap.size (some ⟨vb, 0, none⟩) 1 1 news rfl hR h1v hmx hmb hbase ?_; intro v' w1 hown1 hgrow hd)
      go_ret
      exact ⟨_, rfl, hown1, hgrow, hd⟩

def InsPostV (base : Nat) (v : Value) (n : Nat) (ys : List Value) (w : World) : Ending → World → Prop := fun e w' =>
  ∃ v', e = .returned v' ∧ w'.ownsRow base 2 1 v' (n + 1) ys ∧ w.grownBy w' v.ownBlock ∧ (v'.ownBlock = v.ownBlock ∨ v'.ownBlock = some w.heap.size)

theorem insert_anyV (base n i c vb : Nat) (A : Option Addr) (xs news : List Value) (w : World) (hn16 : n ≤ 1000) (hi : i ≤ n) (hown : w.ownsRow base 2 1 (.slice A n c) n xs) (hbase : base ≤ w.heap.size) (hv : Blk w vb 2 news.toArray) (hnl : news.length = 1) (h1v : ∀ v ∈ news, v.oneCell' = true)
    (h1 : ∀ v ∈ xs, v.oneCell' = true) (hvb : (Value.slice A n c).ownBlock ≠ some vb) :
    Calls Try.prog 70 #[.slice A n c, .int .i64 i, .slice (some ⟨vb, 0, none⟩) 1 1] w (InsPostV base (.slice A n c) n (xs.take (i * 1) ++ news ++ xs.drop (i * 1)) w) := by
  have hxl := hown.1
  by_cases hin : i = n
  · subst hin
    refine (insert_endV base i c vb A xs news w hn16 hown hbase hv hnl h1v).mono ?_
    rintro e w' ⟨v', rfl, h2, h3, h4⟩
    rw [List.take_of_length_le (by omega), List.drop_eq_nil_of_le (by omega), List.append_nil]
    exact ⟨v', rfl, h2, h3, h4⟩
  · rcases hown.2 with ⟨he, h0⟩ | ⟨g, cap, cur, he, hb, hh, hnc, hm, hs, ht⟩
    · omega
    · injection he with e1 e2 e3
      subst e1 e3
      have hgvb : vb ≠ g := fun e => hvb (by rw [e]; rfl)
      have hyl : (xs.take (i * 1) ++ news ++ xs.drop (i * 1)).length = (n + 1) * 1 := by simp [hnl, hxl]; omega
      by_cases hroom : n + 1 ≤ c
      · refine (insert_shiftV g n c i vb cur xs news w hn16 (by omega) hroom hm hgvb hh hs ht h1 hv hnl h1v).mono ?_
        rintro e w' ⟨rfl, cur', rfl, hc1, hc2⟩
        refine ⟨_, rfl, ⟨hyl, .inr ⟨g, c, cur', rfl, hb, ?_, hroom, hm, hc1, hc2⟩⟩, ?_, .inl rfl⟩
        · exact Blk.row (Blk.row (Blk.drew hh))
        · exact ⟨rfl, rfl, rfl, by simp [setRow_size], fun k hk hn => by
            have hkg : k ≠ g := fun e => hn (by rw [e]; rfl)
            rw [setRow_other _ _ _ _ hkg, setRow_other _ _ _ _ hkg]
            rfl⟩
      · refine (insert_growV g n c i vb cur xs news w hn16 (by omega) (by omega) hnc hgvb hh hs ht h1 hv hnl h1v).mono ?_
        rintro e w' ⟨G, cur', rfl, hG1, hG2, hc0, hc1, hc2, hg⟩
        refine ⟨_, rfl, ⟨hyl, .inr ⟨w.heap.size, G, cur', rfl, hbase, hc0, hG1, hG2, hc1, hc2⟩⟩, ?_, .inr rfl⟩
        exact ⟨hg.os, hg.tape, hg.output, hg.size, fun k hk hn => hg.block k hk (by simp)⟩
end Go.Proofs.Ytpmpgnhbpneloaa
