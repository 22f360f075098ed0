/- ordered at two transactions, from what slices.Sorted answers. -/
import Derived.Test.YtffjcojehiblnaaDoorHk6
namespace Go.Proofs.YtffjcojehiblnaaDoor
open Go.RowKit Go.Joins Go.ChangeShapes Go.WideShapes Go.Deep
set_option linter.unusedVariables false
set_option linter.unusedSimpArgs false
set_option maxRecDepth 100000

/-- What slices.Sorted answers over slices.Values of a list of 0 and 1. -/
def SortOK (og oc : Nat) (w : World) : Prop := ∀ W, Below w.heap.size w W → Calls Tryd.prog 38 #[.func (.func 52) #[] #[.pointer (some ⟨W.heap.size, 0, none⟩)]] (W.alloc (.cells #[.slice (some ⟨og, 0, none⟩) 2 oc] 37)) fun r w' =>
  ∃ g c, r = .returned (.slice (some ⟨g, 0, none⟩) 2 c) ∧ w'.cell? ⟨g, 0, none⟩ = some (.int .i64 0) ∧ w'.cell? ⟨g, 1, none⟩ = some (.int .i64 1) ∧ Below W.heap.size W w'
theorem values_any (og oc : Nat) (W : World) : Calls Tryd.prog 39 #[.slice (some ⟨og, 0, none⟩) 2 oc] W fun r w' => r = .returned (.func (.func 52) #[] #[.pointer (some ⟨W.heap.size, 0, none⟩)]) ∧ w' = W.alloc (.cells #[.slice (some ⟨og, 0, none⟩) 2 oc] 37) := by
  go_enter Tryd.func39, Tryd.ntmps39
  go_wp2
  go_ret
  exact ⟨rfl, rfl⟩
set_option maxHeartbeats 1000000 in
theorem ordered_two (A : Option Addr) (n nc og oc : Nat) (l : List Ev) (p : Addr) (b : Book) (t0 t1 : TxP) (w : World) (hl : l.length = n) (hn : n * 152 ≤ 140737488351232) (hR : Reads w w.heap.size 19 A n (evs l)) (hE : LaidAt w p) (hrd : readF book0 0 l = .ok b) (hb : b.l = [t0, t1]) (hso : SortOK og oc w) :
    Calls Tryd.prog 22 #[.slice A n nc, .slice (some ⟨og, 0, none⟩) 2 oc] w (OrdPost w b) := by
  have HRD := Lib.hid ((read_any A n nc l p w hl hn hR hE.ev (by have := hE.lt; omega)))
  have HSO := Lib.hid hso
  clear hl hn hR hE hso
  go_enter Tryd.func22, Tryd.ntmps22
  go_upto_region 4 with (go_at_call 13; refine HRD.out.mono ?_; rintro r w1 hq; unfold ReadPost at hq; rw [hrd] at hq; obtain ⟨lv, s, ll, hq, hBk, hb1⟩ := hq; subst hq)
  have hll : ll.length = 2 := by rw [← hBk.len, hb]; rfl
  obtain ⟨rb, cc, hlv, _, hrb⟩ := hBk.row.form (by omega)
  rw [hll] at hlv
  subst hlv
  have HS := Lib.hid (HSO.out w1 hb1)
  have HB := Lib.hid hb1
  have HK := Lib.hid hBk
  clear hBk hb1 hb hrd HRD HSO hll hrb
  go_wp2_with (first
    | (go_at_call 39; refine (values_any og oc _).mono ?_; rintro r w2 ⟨hq, hw⟩; subst hq; subst hw)
    | (go_at_call 38; refine HS.out.mono ?_; rintro r w2 ⟨g, c, hq, s0, s1, hb2⟩; subst hq))
  refine wp_loop_rounds 3 ?_
  rw [rounds_succ]
  go_wp2_with fail
  rw [rounds_succ]
  go_wp2_with fail
  rw [rounds_succ]
  go_wp2_with fail
  go_ret2
  exact ⟨_, s, ll, rfl, HK.out.below hb2 (Nat.le_refl _), HB.out.trans (hb2.mono HB.out.size)⟩
end Go.Proofs.YtffjcojehiblnaaDoor
