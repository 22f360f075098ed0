/- What the document's Next does, whole. -/
import Derived.Test.YtjggcidaolnmbaaDrp
namespace Go.Proofs.Ytjggcidaolnmbaa
open Go.RowKit Go.Joins Go.ChangeShapes Go.WideShapes Go.Deep
set_option linter.unusedVariables false
set_option maxRecDepth 100000

theorem puts_any (base most : Int) (k v : Int) (args' left : List Int) (writes : Int) (A L : Option Addr) (n nc ln lc : Nat) (w : World) (b0 : 0 ≤ base) (b1 : base ≤ 1024) (m0 : 0 ≤ most) (m1 : most ≤ 16) (hln : ln ≤ 17592186044416)
    (hA : Reads w w.heap.size 1 A n (ints (k :: v :: args'))) (hL : Reads w w.heap.size 1 L ln (ints left)) (fd fr ce : Int) (rd : Nat) (q1 : -1 ≤ fd) (q2 : fd < most) (q3 : -1 ≤ fr) (q4 : fr < most) :
    Calls Try.prog 47 #[.int .i64 base, .int .i64 most, .slice A n nc, .agg #[.int .i64 fd, .int .i64 fr, .int .i64 rd, .bool true, .int .i64 ce], .slice L ln lc, .int .i64 writes] w (RPost (putsF base most (k :: v :: args') ⟨fd, fr, rd, true, ce⟩ left writes) w) := by
  by_cases hf : 0 ≤ fd
  · by_cases hw : writes = 0
    · exact puts_f0 base most k v args' left writes A L n nc ln lc w b0 b1 m0 m1 hln hA hL fd fr ce rd q1 q2 q3 q4 hf hw
    · exact puts_f1 base most k v args' left writes A L n nc ln lc w b0 b1 m0 m1 hln hA hL fd fr ce rd q1 q2 q3 q4 hf hw
  · have hf' : fd < 0 := by omega
    cases left with
    | nil => exact puts_n base most k v args' writes A L n nc ln lc w b0 b1 m0 m1 hln hA hL fd fr ce rd q1 q2 q3 q4 hf'
    | cons c left' =>
      by_cases hc : most ≤ c
      · exact puts_full1 base most k v c args' left' writes A L n nc ln lc w b0 b1 m0 m1 hln hA hL fd fr ce rd q1 q2 q3 q4 hf' hc
      · by_cases hfr : fr < 0
        · exact puts_full2 base most k v c args' left' writes A L n nc ln lc w b0 b1 m0 m1 hln hA hL fd fr ce rd q1 q2 q3 q4 hf' hc hfr
        · have hfr' : 0 ≤ fr := by omega
          by_cases h0 : writes = 0
          · subst h0
            exact puts_w0 base most k v c args' left' A L n nc ln lc w b0 b1 m0 m1 hln hA hL fd fr ce rd q1 q2 q3 q4 hf' hc hfr'
          · by_cases h1 : writes = 1
            · subst h1
              exact puts_w1 base most k v c args' left' A L n nc ln lc w b0 b1 m0 m1 hln hA hL fd fr ce rd q1 q2 q3 q4 hf' hc hfr'
            · by_cases h2 : writes = 2
              · subst h2
                exact puts_w2 base most k v c args' left' A L n nc ln lc w b0 b1 m0 m1 hln hA hL fd fr ce rd q1 q2 q3 q4 hf' hc hfr'
              · by_cases h3 : writes = 3
                · subst h3
                  exact puts_w3 base most k v c args' left' A L n nc ln lc w b0 b1 m0 m1 hln hA hL fd fr ce rd q1 q2 q3 q4 hf' hc hfr'
                · exact puts_w4 base most k v c args' left' writes A L n nc ln lc w b0 b1 m0 m1 hln hA hL fd fr ce rd q1 q2 q3 q4 hf' hc hfr' h0 h1 h2 h3

theorem Reads.cut1 {w : World} {B n k : Nat} {A : Option Addr} {xs : List Value} (h : Reads w B 1 A n xs) (hk : k ≤ n) : Reads w B 1 (Option.map (fun x => x.add k) A) (n - k) (xs.drop k) := by
  have := h.cut (k := k) (cap := n + k + 1) hk (by omega)
  rw [if_neg (by omega), Nat.mul_one] at this
  exact this
theorem Reads.cut0 {w : World} {B n k : Nat} {A : Option Addr} {xs : List Value} (h : Reads w B 1 A n xs) (hk : k = n) : Reads w B 1 A (n - k) (xs.drop k) :=
  ⟨by rw [List.length_drop, h.1]; omega, fun hn => absurd hn (by omega)⟩
theorem ints_drop (l : List Int) (k : Nat) : (ints l).drop k = ints (l.drop k) := by simp [ints, List.map_drop]

theorem rNext_put (base most call : Int) (k v : Int) (args'' read : List Int) (writes : Int) (A R : Option Addr) (n nc rn rc : Nat) (w : World) (hrn : rn ≤ 17592186044416) (hrc : rn ≤ rc) (b0 : 0 ≤ base) (b1 : base ≤ 1024) (m0 : 0 ≤ most) (m1 : most ≤ 16)
    (args' : List Int) (hargs : args' = v :: args'') (hA : Reads w w.heap.size 1 A n (ints (k :: args'))) (hR : Reads w w.heap.size 1 R rn (ints read)) (fd fr ce : Int) (rd : Nat) (hx : lookF k most read = ⟨fd, fr, rd, true, ce⟩) (h3 : call = 3) :
    Calls Try.prog 33 #[.int .i64 base, .int .i64 most, .int .i64 call, .slice A n nc, .slice R rn rc, .int .i64 writes] w (RPost (refNext base most call (k :: args') read writes) w) := by
  have HR0 : Hid (refNext base most call (k :: args') read writes = putsF base most (k :: args') ⟨fd, fr, rd, true, ce⟩ (read.drop rd) writes) := by
    show refNext base most call (k :: args') read writes = _
    simp [refNext, h3, a0, hx]
  have e5 : (call == 5) = false := by simp [h3]
  have e3 : (call == 3) = true := by simp [h3]
  have HA := Lib.hid hargs
  clear h3 hargs
  have hnp : 0 < n := by have := hA.1; simp [ints] at this; omega
  have hbd := findL_bd (key := k) m1 most.toNat 0 (-1) 0 read (by omega) (by omega) (by omega) (by omega)
  change -1 ≤ (lookF k most read).found ∧ (lookF k most read).found < most ∧ -1 ≤ (lookF k most read).free ∧ (lookF k most read).free < most ∧ 0 ≤ (lookF k most read).cell ∧ (lookF k most read).cell ≤ 3 * most ∧ (lookF k most read).reads ≤ 0 + read.length at hbd
  rw [hx] at hbd
  simp only at hbd
  obtain ⟨q1, q2, q3, q4, q5, q6, q7⟩ := hbd
  have hrl : read.length = rn := by have := hR.1; simpa [ints] using this
  rw [hrl] at q7
  have q8 : rd ≤ rn := by omega
  have HRL := Lib.hid hrl
  have HX := Lib.hid hx
  obtain ⟨ab, ao, rfl, hab, hac⟩ := hA.flat hnp
  have d0 : w.cell? ⟨ab, ao, none⟩ = some (.int .i64 k) := hac 0 _ rfl
  clear hac hx hrl q7
  go_enter Try.func33, Try.ntmps33
  go_wp2_with fail
  refine (find_any k most read R rn rc _ hrn m0 m1 (by exact (hR.alloc (Nat.le_refl _) _).more (by simp))).mono ?_
  rintro e w1 ⟨fd', fr', ce', rd', ov', hlk, rfl, hb1⟩
  rw [HX.out] at hlk
  injection hlk with e1 e2 e3 e4 e5
  subst e1 e2 e3 e4 e5
  have hn0' : Blk w1 w.heap.size 37 #[.int .i64 0, .int .i64 0, .int .i64 0, .int .i64 0] := (Blk.new w _ _).below hb1 (by simp)
  have hbel0' : Below w.heap.size w w1 := ((Below.refl _ _).alloc (Nat.le_refl _) _).trans (hb1.mono (B' := w.heap.size) (by simp))
  have hlt1 : w.heap.size < w1.heap.size := hn0'.lt
  have hn0 := hn0'.alloc (.cells #[.int .i64 fd, .int .i64 fr, .int .i64 rd, .bool true, .int .i64 ce] 78)
  have hbel0 := hbel0'.alloc hbel0'.size (.cells #[.int .i64 fd, .int .i64 fr, .int .i64 rd, .bool true, .int .i64 ce] 78)
  have hR1 : Reads w1 w.heap.size 1 R rn (ints read) := hR.below hbel0'
  have hA1 : Reads w1 w.heap.size 1 (some ⟨ab, ao, none⟩) n (ints (k :: args')) := hA.below hbel0'
  clear hn0' hbel0' hb1 d0
  go_wp2_with fail
  · have hrr : rd = rn := by omega
    have hL : Reads (w1.alloc (.cells #[.int .i64 fd, .int .i64 fr, .int .i64 rd, .bool true, .int .i64 ce] 78)) (w1.alloc (.cells #[.int .i64 fd, .int .i64 fr, .int .i64 rd, .bool true, .int .i64 ce] 78)).heap.size 1 R (rn - rd) (ints (read.drop rd)) := by
      rw [← ints_drop]
      exact ((hR1.alloc (by omega) _).more (by simp; omega)).cut0 hrr
    refine (puts_any base most k v args'' (read.drop rd) writes (some ⟨ab, ao, none⟩) R n nc (rn - rd) 0 _ b0 b1 m0 m1 (by omega) (by rw [← HA.out]; exact (hA1.alloc (by omega) _).more (by simp; omega)) hL fd fr ce rd q1 q2 q3 q4).mono ?_
    rintro e w2 ⟨kd, kc, kv, ko, hp, rfl, hb2⟩
    have HP := Lib.hid hp
    clear hp
    have hn := Blk.below (by first | exact hn0 | exact Blk.drew hn0) hb2 (by simp <;> omega)
    have n0 : w2.cell? ⟨w.heap.size, 0, none⟩ = some (.int .i64 0) := (hn.cell 0).trans rfl
    have n1 : w2.cell? ⟨w.heap.size, 1, none⟩ = some (.int .i64 0) := (hn.cell 1).trans rfl
    have n2 : w2.cell? ⟨w.heap.size, 2, none⟩ = some (.int .i64 0) := (hn.cell 2).trans rfl
    have n3 : w2.cell? ⟨w.heap.size, 3, none⟩ = some (.int .i64 0) := (hn.cell 3).trans rfl
    have f0 : w2.frozen? ⟨w.heap.size, 0, none⟩ = false := hn.frozen 0
    have f1 : w2.frozen? ⟨w.heap.size, 1, none⟩ = false := hn.frozen 1
    have f2 : w2.frozen? ⟨w.heap.size, 2, none⟩ = false := hn.frozen 2
    have f3 : w2.frozen? ⟨w.heap.size, 3, none⟩ = false := hn.frozen 3
    have hbel2 := hbel0.trans (hb2.mono (B' := w.heap.size) (by simp <;> omega))
    go_wp2
    refine bodyPost_ret (v := .agg #[.int .i64 kd, .int .i64 kc, .int .i64 kv, .int .i64 ko]) (by simp [results, Try.results33, go_sem, n0, n1, n2, n3]) rfl ?_
    exact ⟨_, _, _, _, by rw [HR0.out, HA.out]; exact HP.out, rfl, by repeat (first | with_reducible exact hbel2 | with_reducible refine Below.drew ?_ | with_reducible refine below_drewN ?_ _ | ((with_reducible refine Below.alloc ?_ ?_ _); (rotate_left; focus (first | with_reducible exact Nat.le_refl _ | omega | (simp; done) | (simp; omega) | (simp [World.setCell]; done) | (simp [World.setCell]; omega)))) | ((with_reducible refine Below.setCell ?_ ?_ _); (rotate_left; focus (first | with_reducible exact Nat.le_refl _ | omega | (simp; done) | (simp; omega) | (simp [World.setCell]; done) | (simp [World.setCell]; omega)))))⟩
  · have hL : Reads (w1.alloc (.cells #[.int .i64 fd, .int .i64 fr, .int .i64 rd, .bool true, .int .i64 ce] 78)) (w1.alloc (.cells #[.int .i64 fd, .int .i64 fr, .int .i64 rd, .bool true, .int .i64 ce] 78)).heap.size 1 (Option.map (fun x => x.add rd) R) (rn - rd) (ints (read.drop rd)) := by
      rw [← ints_drop]
      exact ((hR1.alloc (by omega) _).more (by simp; omega)).cut1 q8
    refine (puts_any base most k v args'' (read.drop rd) writes (some ⟨ab, ao, none⟩) (Option.map (fun x => x.add rd) R) n nc (rn - rd) (rc - rd) _ b0 b1 m0 m1 (by omega) (by rw [← HA.out]; exact (hA1.alloc (by omega) _).more (by simp; omega)) hL fd fr ce rd q1 q2 q3 q4).mono ?_
    rintro e w2 ⟨kd, kc, kv, ko, hp, rfl, hb2⟩
    have HP := Lib.hid hp
    clear hp
    have hn := Blk.below (by first | exact hn0 | exact Blk.drew hn0) hb2 (by simp <;> omega)
    have n0 : w2.cell? ⟨w.heap.size, 0, none⟩ = some (.int .i64 0) := (hn.cell 0).trans rfl
    have n1 : w2.cell? ⟨w.heap.size, 1, none⟩ = some (.int .i64 0) := (hn.cell 1).trans rfl
    have n2 : w2.cell? ⟨w.heap.size, 2, none⟩ = some (.int .i64 0) := (hn.cell 2).trans rfl
    have n3 : w2.cell? ⟨w.heap.size, 3, none⟩ = some (.int .i64 0) := (hn.cell 3).trans rfl
    have f0 : w2.frozen? ⟨w.heap.size, 0, none⟩ = false := hn.frozen 0
    have f1 : w2.frozen? ⟨w.heap.size, 1, none⟩ = false := hn.frozen 1
    have f2 : w2.frozen? ⟨w.heap.size, 2, none⟩ = false := hn.frozen 2
    have f3 : w2.frozen? ⟨w.heap.size, 3, none⟩ = false := hn.frozen 3
    have hbel2 := hbel0.trans (hb2.mono (B' := w.heap.size) (by simp <;> omega))
    go_wp2
    refine bodyPost_ret (v := .agg #[.int .i64 kd, .int .i64 kc, .int .i64 kv, .int .i64 ko]) (by simp [results, Try.results33, go_sem, n0, n1, n2, n3]) rfl ?_
    exact ⟨_, _, _, _, by rw [HR0.out, HA.out]; exact HP.out, rfl, by repeat (first | with_reducible exact hbel2 | with_reducible refine Below.drew ?_ | with_reducible refine below_drewN ?_ _ | ((with_reducible refine Below.alloc ?_ ?_ _); (rotate_left; focus (first | with_reducible exact Nat.le_refl _ | omega | (simp; done) | (simp; omega) | (simp [World.setCell]; done) | (simp [World.setCell]; omega)))) | ((with_reducible refine Below.setCell ?_ ?_ _); (rotate_left; focus (first | with_reducible exact Nat.le_refl _ | omega | (simp; done) | (simp; omega) | (simp [World.setCell]; done) | (simp [World.setCell]; omega)))))⟩

/-- THE DOCUMENT's Next, of a call that may be. -/
theorem rNext_any (base most call : Int) (args read : List Int) (writes : Int) (A R : Option Addr) (n nc rn rc : Nat) (w : World) (hrn : rn ≤ 17592186044416) (hrc : rn ≤ rc) (hok : callOk base most call args)
    (hA : Reads w w.heap.size 1 A n (ints args)) (hR : Reads w w.heap.size 1 R rn (ints read)) :
    Calls Try.prog 33 #[.int .i64 base, .int .i64 most, .int .i64 call, .slice A n nc, .slice R rn rc, .int .i64 writes] w (RPost (refNext base most call args read writes) w) := by
  obtain ⟨b0, b1, m0, m1, har⟩ := hok
  have hrl : read.length = rn := by have := hR.1; simpa [ints] using this
  by_cases h5 : call = 5
  · subst h5
    exact rNext_len base most args read writes A R n nc rn rc w hrn hR
  · have hne : args ≠ [] := by
      rintro rfl
      unfold arityI at har
      simp only [List.length_nil] at har
      split at har
      · omega
      · split at har
        · omega
        · first | omega | (split at har <;> omega)
    obtain ⟨k, args', rfl⟩ := List.exists_cons_of_ne_nil hne
    obtain ⟨fd, fr, rd, ov, ce, hx⟩ : ∃ fd fr rd ov ce, lookF k most read = ⟨fd, fr, rd, ov, ce⟩ := ⟨_, _, _, _, _, rfl⟩
    cases ov with
    | false => exact rNext_more base most call k args' read writes A R n nc rn rc w hrn hrc b0 b1 m0 m1 hA hR fd fr ce rd false hx h5 rfl
    | true =>
      by_cases h3 : call = 3
      · have : ∃ v args'', args' = v :: args'' := by
          cases args' with
          | nil => simp [arityI, h3] at har
          | cons v l => exact ⟨v, l, rfl⟩
        obtain ⟨v, args'', hargs⟩ := this
        exact rNext_put base most call k v args'' read writes A R n nc rn rc w hrn hrc b0 b1 m0 m1 args' hargs hA hR fd fr ce rd hx h3
      · by_cases hf : fd < 0
        · exact rNext_none base most call k args' read writes A R n nc rn rc w hrn hrc b0 b1 m0 m1 hA hR fd fr ce rd hx h5 h3 hf
        · have hf' : 0 ≤ fd := by omega
          by_cases h2 : call = 2
          · by_cases hle : rn ≤ rd
            · exact rNext_get0 base most call k args' read writes A R n nc rn rc w hrn hrc b0 b1 m0 m1 hA hR fd fr ce rd hx h2 hf' hle
            · exact rNext_get1 base most call k args' read writes A R n nc rn rc w hrn hrc b0 b1 m0 m1 hA hR fd fr ce rd hx h2 hf' _ (by omega) rfl
          · have h4 : call = 4 := by
              unfold arityI at har
              rw [if_neg h3, if_neg h5] at har
              by_cases hh : call = 2 ∨ call = 4
              · omega
              · rw [if_neg hh] at har
                simp at har
                omega
            by_cases hw : writes = 0
            · exact rNext_del0 base most call k args' read writes A R n nc rn rc w hrn hrc b0 b1 m0 m1 hA hR fd fr ce rd hx h4 hf' hw
            · by_cases hle : rn ≤ rd
              · exact rNext_del1 base most call k args' read writes A R n nc rn rc w hrn hrc b0 b1 m0 m1 hA hR fd fr ce rd hx h4 hf' hw hle
              · by_cases hw1 : writes = 1
                · exact rNext_del2 base most call k args' read writes A R n nc rn rc w hrn hrc b0 b1 m0 m1 hA hR fd fr ce rd hx h4 hf' hw1 _ (by omega) rfl
                · exact rNext_del3 base most call k args' read writes A R n nc rn rc w hrn hrc b0 b1 m0 m1 hA hR fd fr ce rd hx h4 hf' hw hw1 _ (by omega) rfl

theorem wants_any (base most call : Int) (args read : List Int) (writes : Int) (last : Want) (A R : Option Addr) (n nc rn rc : Nat) (w : World) (hrn : rn ≤ 17592186044416) (hrc : rn ≤ rc) (hok : callOk base most call args)
    (hA : Reads w w.heap.size 1 A n (ints args)) (hR : Reads w w.heap.size 1 R rn (ints read)) :
    Calls Try.prog 20 #[.int .i64 base, .int .i64 most, .int .i64 call, .slice A n nc, .slice R rn rc, .int .i64 writes, .agg #[.int .i64 last.kind, .int .i64 last.cell, .int .i64 last.value, .int .i64 last.code]] w
      (RPost (wantsF base most call args read writes last) w) := by
  by_cases h6 : last.kind = 6
  · have e6 : (last.kind == 6) = true := by simp [h6]
    have HR : Hid (wantsF base most call args read writes last = ⟨last.kind, last.cell, last.value, last.code⟩) := by
      show wantsF base most call args read writes last = _
      simp [wantsF, h6]
      cases last
      simp_all
    clear h6
    go_enter Try.func20, Try.ntmps20
    go_wp2
    refine bodyPost_ret (v := .agg #[.int .i64 last.kind, .int .i64 last.cell, .int .i64 last.value, .int .i64 last.code]) (by simp [results, Try.results20, go_sem]) rfl ?_
    exact ⟨_, _, _, _, HR.out, rfl, by repeat (first | with_reducible exact Below.refl _ _ | with_reducible refine Below.drew ?_ | with_reducible refine below_drewN ?_ _ | ((with_reducible refine Below.alloc ?_ ?_ _); (rotate_left; focus (first | with_reducible exact Nat.le_refl _ | omega | (simp; done) | (simp; omega) | (simp [World.setCell]; done) | (simp [World.setCell]; omega)))) | ((with_reducible refine Below.setCell ?_ ?_ _); (rotate_left; focus (first | with_reducible exact Nat.le_refl _ | omega | (simp; done) | (simp; omega) | (simp [World.setCell]; done) | (simp [World.setCell]; omega)))))⟩
  · have e6 : (last.kind == 6) = false := by simp [h6]
    have HR0 : Hid (wantsF base most call args read writes last = refNext base most call args read writes) := by
      show wantsF base most call args read writes last = _
      simp [wantsF, h6]
    clear h6
    have HOK := Lib.hid hok
    clear hok
    have hn0 : Blk ((w.alloc (.cells #[.int .i64 last.kind, .int .i64 last.cell, .int .i64 last.value, .int .i64 last.code] 37)).alloc (.cells #[.int .i64 0, .int .i64 0, .int .i64 0, .int .i64 0] 37)) (w.heap.size + 1) 37 #[.int .i64 0, .int .i64 0, .int .i64 0, .int .i64 0] := Blk.new' (by simp)
    have hbel0 : Below w.heap.size w ((w.alloc (.cells #[.int .i64 last.kind, .int .i64 last.cell, .int .i64 last.value, .int .i64 last.code] 37)).alloc (.cells #[.int .i64 0, .int .i64 0, .int .i64 0, .int .i64 0] 37)) := by repeat (first | with_reducible exact Below.refl _ _ | with_reducible refine Below.drew ?_ | with_reducible refine below_drewN ?_ _ | ((with_reducible refine Below.alloc ?_ ?_ _); (rotate_left; focus (first | with_reducible exact Nat.le_refl _ | omega | (simp; done) | (simp; omega) | (simp [World.setCell]; done) | (simp [World.setCell]; omega)))) | ((with_reducible refine Below.setCell ?_ ?_ _); (rotate_left; focus (first | with_reducible exact Nat.le_refl _ | omega | (simp; done) | (simp; omega) | (simp [World.setCell]; done) | (simp [World.setCell]; omega)))))
    go_enter Try.func20, Try.ntmps20
    go_wp2_with fail
    refine (rNext_any base most call args read writes A R n nc rn rc _ hrn hrc HOK.out (by exact ((hA.alloc (Nat.le_refl _) _).alloc (by simp) _).more (by simp; omega)) (by exact ((hR.alloc (Nat.le_refl _) _).alloc (by simp) _).more (by simp; omega))).mono ?_
    rintro e w2 ⟨kd, kc, kv, ko, hp, rfl, hb2⟩
    have HP := Lib.hid hp
    clear hp
    have hn := Blk.below (by first | exact hn0 | exact Blk.drew hn0) hb2 (by simp <;> omega)
    have n0 : w2.cell? ⟨w.heap.size + 1, 0, none⟩ = some (.int .i64 0) := (hn.cell 0).trans rfl
    have n1 : w2.cell? ⟨w.heap.size + 1, 1, none⟩ = some (.int .i64 0) := (hn.cell 1).trans rfl
    have n2 : w2.cell? ⟨w.heap.size + 1, 2, none⟩ = some (.int .i64 0) := (hn.cell 2).trans rfl
    have n3 : w2.cell? ⟨w.heap.size + 1, 3, none⟩ = some (.int .i64 0) := (hn.cell 3).trans rfl
    have f0 : w2.frozen? ⟨w.heap.size + 1, 0, none⟩ = false := hn.frozen 0
    have f1 : w2.frozen? ⟨w.heap.size + 1, 1, none⟩ = false := hn.frozen 1
    have f2 : w2.frozen? ⟨w.heap.size + 1, 2, none⟩ = false := hn.frozen 2
    have f3 : w2.frozen? ⟨w.heap.size + 1, 3, none⟩ = false := hn.frozen 3
    have hbel2 := hbel0.trans (hb2.mono (B' := w.heap.size) (by simp <;> omega))
    go_wp2
    refine bodyPost_ret (v := .agg #[.int .i64 kd, .int .i64 kc, .int .i64 kv, .int .i64 ko]) (by simp [results, Try.results20, go_sem, n0, n1, n2, n3]) rfl ?_
    exact ⟨_, _, _, _, by rw [HR0.out]; exact HP.out, rfl, by repeat (first | with_reducible exact hbel2 | with_reducible refine Below.drew ?_ | with_reducible refine below_drewN ?_ _ | ((with_reducible refine Below.alloc ?_ ?_ _); (rotate_left; focus (first | with_reducible exact Nat.le_refl _ | omega | (simp; done) | (simp; omega) | (simp [World.setCell]; done) | (simp [World.setCell]; omega)))) | ((with_reducible refine Below.setCell ?_ ?_ _); (rotate_left; focus (first | with_reducible exact Nat.le_refl _ | omega | (simp; done) | (simp; omega) | (simp [World.setCell]; done) | (simp [World.setCell]; omega)))))⟩
end Go.Proofs.Ytjggcidaolnmbaa
