/- Where a script's text is wrong: a place within it; plain. -/
import Derived.Test.YtiheggkkgbfndaaGreatDoorK24
import Derived.Test.YtiheggkkgbfndaaGreatDoorK13
import Derived.Test.YtiheggkkgbfndaaGreatDoorK16
import Derived.Test.YtiheggkkgbfndaaGreatDoorK23
import Derived.Test.YtiheggkkgbfndaaGreatDoorK15
namespace Go.Proofs.YtiheggkkgbfndaaGreatDoor
open Go Go.Lib
set_option linter.unusedVariables false
set_option linter.unusedSimpArgs false
theorem tok_in {t : List UInt8} : ∀ l ∈ lineToks t, ∀ x ∈ l, x.pos + x.s.length ≤ t.length := by
 intro l hl x hx
 obtain ⟨j, hj⟩ := List.getElem?_of_mem hl
 rw [lineToks_split] at hj
 have hj' : j < (splitF 10 t).length := by
  have := (List.getElem?_eq_some_iff.1 hj).1
  exact Nat.lt_of_lt_of_le this (toksFrom_len _ _)
 rw [toksFrom_get _ 0 j hj'] at hj
 injection hj with hj
 rw [Nat.zero_add] at hj
 have s1 := (split_place j t hj').1
 have hp := (lineTok_place _ _ x (hj ▸ hx)).2
 omega
def NameIn (B : Nat) (r : RSt) : Prop := ∀ x ∈ r.ins, x.name.pos ≤ B
theorem endL_names {B : Nat} {r r' : RSt} {t nm : Tok} {c : Nat} {o : Int} {rest : List Tok} (hr : NameIn B r) (hn : nm.pos ≤ B) (h : endL r t c o nm rest = .ok r') : NameIn B r' := by
 unfold endL at h
 split at h
 ·cases h
 ·split at h
  ·cases h
  ·injection h with h
   subst h
   intro x hx
   rcases List.mem_append.1 hx with hx | hx
   ·exact hr x hx
   ·obtain rfl := List.mem_singleton.1 hx
    exact hn
theorem insL_names {B : Nat} {r r' : RSt} {t : Tok} {rest : List Tok} (hr : NameIn B r) (hl : ∀ x ∈ rest, x.pos ≤ B) (h : insL r t rest = .ok r') : NameIn B r' := by
 unfold insL at h
 split at h
 ·cases h
 ·split at h
  ·split at h
   ·cases h
   ·rename_i c _ u rest'
    split at h
    ·cases h
    ·rename_i o nm ho
     refine endL_names hr ?_ h
     unfold oprL at ho
     split at ho
     ·split at ho
      ·injection ho with ho
       injection ho with _ ho
       subst ho
       exact Nat.zero_le _
      ·cases ho
     ·split at ho
      ·injection ho with ho
       injection ho with _ ho
       subst ho
       exact hl u (by simp)
      ·cases ho
  ·exact endL_names hr (Nat.zero_le _) h
theorem lineL_names {B : Nat} {r r' : RSt} {l : List Tok} (hr : NameIn B r) (hl : ∀ x ∈ l, x.pos ≤ B) (h : lineL r l = .ok r') : NameIn B r' := by
 unfold lineL at h
 split at h
 ·injection h with h
  subst h
  exact hr
 ·rename_i t rest
  split at h
  ·split at h
   ·cases h
   ·split at h
    ·cases h
    ·split at h
     ·injection h with h
      subst h
      exact hr
     ·rename_i u rest'
      exact insL_names (show NameIn B ⟨r.labels ++ [(t.s.dropLast, r.size)], r.ins⟩ from hr) (fun x hx => hl x (by simp [hx])) h
  ·exact insL_names hr (fun x hx => hl x (by simp [hx])) h
theorem linesL_names {B : Nat} : ∀ {ls : List (List Tok)} {r r' : RSt}, NameIn B r → (∀ l ∈ ls, ∀ x ∈ l, x.pos ≤ B) → linesL r ls = .ok r' → NameIn B r'
 | [], r, r', hr, _, h => by
  injection h with h
  subst h
  exact hr
 | l :: ls, r, r', hr, hl, h => by
  unfold linesL at h
  cases hx : lineL r l with
  | error e => rw [hx] at h; cases h
  | ok q =>
   rw [hx] at h
   exact linesL_names (lineL_names hr (hl l (by simp)) hx) (fun y hy => hl y (List.mem_cons_of_mem _ hy)) h
theorem resL_names {B : Nat} {ls : List (List UInt8 × Nat)} : ∀ {l : List Ins} {z : Nat × Nat}, (∀ x ∈ l, x.name.pos ≤ B) → resL ls l = .error z → z.2 ≤ B
 | [], z, _, h => by cases h
 | x :: l, z, hB, h => by
  unfold resL at h
  cases hx : resOne ls x with
  | error e =>
   rw [hx] at h
   injection h with h
   subst h
   unfold resOne at hx
   split at hx
   ·cases hx
   ·split at hx
    ·injection hx with hx
     subst hx
     exact hB x (by simp)
    ·cases hx
  | ok o =>
   rw [hx] at h
   simp only at h
   cases hl : resL ls l with
   | error e =>
    rw [hl] at h
    injection h with h
    subst h
    exact resL_names (fun y hy => hB y (List.mem_cons_of_mem _ hy)) hl
   | ok L => rw [hl] at h; cases h
theorem parseF_place {t : List UInt8} {y : Nat × Nat} (h : parseF t = .error y) : y.2 ≤ t.length := by
 unfold parseF at h
 cases hr : linesL ⟨[], []⟩ (lineToks t) with
 | error e =>
  rw [hr] at h
  injection h with h
  subst h
  obtain ⟨j, l, r, h1, _, h3⟩ := linesL_where hr
  obtain ⟨x, hx, hp⟩ := lineL_place h3
  have := tok_in l (List.mem_of_getElem? h1) x hx
  rcases hp with hp | hp <;> omega
 | ok r =>
  rw [hr] at h
  refine resL_names (linesL_names ?_ ?_ hr) h
  ·intro x hx
   cases hx
  ·intro l hl x hx
   have := tok_in l hl x hx
   omega
theorem bodyL_text : ∀ {f : Nat} {t b r : List UInt8}, bodyL f t = some (b, r) → b.length + r.length < t.length
 | 0, t, b, r, h => by cases h
 | f + 1, t, b, r, h => by
  unfold bodyL at h
  cases hn : nextL t with
  | none => rw [hn] at h; cases h
  | some x =>
   obtain ⟨l, r'⟩ := x
   rw [hn] at h
   simp only at h
   have h1 := (nextL_len hn).1
   have h2 : t.length = l.length + (r'.length + 1) := by rw [h1, List.length_append, List.length_cons]
   split at h
   ·injection h with h
    injection h with h0 h
    subst h h0
    simp only [List.length_nil]
    omega
   ·cases hb : bodyL f r' with
    | none => rw [hb] at h; cases h
    | some y =>
     obtain ⟨b', r''⟩ := y
     rw [hb] at h
     simp only [Option.map_some, Option.some.injEq, Prod.mk.injEq] at h
     have := bodyL_text hb
     rw [← h.2, ← h.1, List.length_append, List.length_cons]
     omega
theorem goesL_err : ∀ {f pos part : Nat} {x : SSt} {t : List UInt8} {y : Nat × Nat}, goesL f pos part x t = .error y → y.1 ≠ 0 ∧ y.2 ≤ pos + t.length
 | 0, pos, part, x, t, y, h => by cases h
 | f + 1, pos, part, x, t, y, h => by
  unfold goesL at h
  split at h
  ·cases h
  ·cases hn : nextL t with
   | none =>
    rw [hn] at h
    injection h with h
    subst h
    exact ⟨by simp, by simp⟩
   | some z =>
    obtain ⟨l, r⟩ := z
    rw [hn] at h
    simp only at h
    have h1 := (nextL_len hn).1
    have h2 : t.length = l.length + (r.length + 1) := by rw [h1, List.length_append, List.length_cons]
    split at h
    ·injection h with h
     subst h
     exact ⟨by simp, by simp⟩
    ·split at h
     ·split at h
      ·injection h with h
       subst h
       exact ⟨by simp, by simp⟩
      ·cases hb : bodyL (r.length + 1) r with
       | none =>
        rw [hb] at h
        injection h with h
        subst h
        exact ⟨by simp, by simp⟩
       | some z =>
        obtain ⟨b, r'⟩ := z
        rw [hb] at h
        simp only at h
        have h3 := bodyL_text hb
        cases hL : parseF b with
        | error e =>
         rw [hL] at h
         injection h with h
         subst h
         have e1 := parseF_err hL
         have e2 := parseF_place hL
         exact ⟨e1, by show pos + l.length + 1 + e.2 ≤ pos + t.length; omega⟩
        | ok L =>
         rw [hL] at h
         simp only at h
         obtain ⟨g1, g2⟩ := goesL_err h
         exact ⟨g1, by omega⟩
     ·cases hp : plainL x l (splitF 32 l) with
      | error e =>
       rw [hp] at h
       injection h with h
       subst h
       exact ⟨plainL_err hp, by simp⟩
      | ok x' =>
       rw [hp] at h
       simp only at h
       obtain ⟨g1, g2⟩ := goesL_err h
       exact ⟨g1, by omega⟩
theorem parseS_err {t : List UInt8} {y : Nat × Nat} (h : parseS t = .error y) : y.1 ≠ 0 ∧ y.2 ≤ t.length := by
 unfold parseS at h
 split at h
 ·injection h with h
  subst h
  exact ⟨by simp, by show 65535 ≤ t.length; omega⟩
 ·cases hn : nextL t with
  | none =>
   rw [hn] at h
   injection h with h
   subst h
   exact ⟨by simp, Nat.zero_le _⟩
  | some z =>
   obtain ⟨l, r⟩ := z
   rw [hn] at h
   simp only at h
   have h1 := (nextL_len hn).1
   have h2 : t.length = l.length + (r.length + 1) := by rw [h1, List.length_append, List.length_cons]
   cases hc : configL l with
   | none =>
    rw [hc] at h
    injection h with h
    subst h
    exact ⟨by simp, Nat.zero_le _⟩
   | some c =>
    rw [hc] at h
    simp only at h
    cases hr : goesL (r.length + 1) (l.length + 1) 1 ⟨⟨c, [], [], []⟩, [], 0⟩ r with
    | error e =>
     rw [hr] at h
     injection h with h
     subst h
     obtain ⟨g1, g2⟩ := goesL_err hr
     exact ⟨g1, by omega⟩
    | ok y =>
     rw [hr] at h
     simp only at h
     split at h
     ·cases h
     ·injection h with h
      subst h
      exact ⟨by simp, Nat.zero_le _⟩
end Go.Proofs.YtiheggkkgbfndaaGreatDoor
namespace Go.Proofs.YtiheggkkgbfndaaGreatDoor
open Go.RowKit Go.Joins Go.ChangeShapes Go.WideShapes Go.Deep
set_option linter.unusedVariables false
set_option linter.unusedSimpArgs false
set_option maxRecDepth 100000
def progR (x : SSt) (s : ByteArray) (at_ from_ : Nat) : Except (Nat × Nat) (SSt × Nat) :=
 if x.set.progs.length = 16 then .error (2, at_) else match bodyG (s.data.toList.drop from_) with
  | none => .error (9, s.size)
  | some (b, r) => match parseF b with
   | .error e => .error (e.1, from_ + e.2)
   | .ok L => .ok ({ x with set := { x.set with progs := x.set.progs ++ [bytesOf L] } }, s.size - r.length)
theorem ext_snoc (s : ByteArray) (n i : Nat) (hn : n ≤ i) (hi : i < s.size) (h : s.get! i = 10) : (s.extract n (i + 1)).data.toList = (s.extract n i).data.toList ++ [10] := by
 rw [ext_list, ext_list, take_snoc _ i 10 (by rw [get_list s i hi, h]), List.drop_append, List.length_take, Array.length_toList]
 congr 1
 rw [show n - min i s.data.size = 0 by have : s.data.size = s.size := rfl; omega]
 rfl
theorem ext_app (s : ByteArray) (a n i : Nat) (ha : a ≤ n) (hn : n ≤ i) (hi : i ≤ s.size) : (s.extract a n).data.toList ++ (s.extract n i).data.toList = (s.extract a i).data.toList := by
 rw [ext_list, ext_list, ext_list]
 have h1 : (s.data.toList.take i) = (s.data.toList.take n) ++ (s.data.toList.take i).drop n := by
  conv => lhs; rw [← List.take_append_drop n (s.data.toList.take i)]
  rw [List.take_take, Nat.min_eq_left hn]
 conv => rhs; rw [h1]
 rw [List.drop_append, List.length_take, Array.length_toList, show a - min n s.data.size = 0 by have : s.data.size = s.size := rfl; omega]
 rfl
def EndsAt (s : ByteArray) (n i : Nat) : Prop := n ≤ i ∧ i < s.size ∧ s.get! i = 10 ∧ ∀ j, n ≤ j → j < i → s.get! j ≠ 10
def NoEnd (s : ByteArray) (n : Nat) : Prop := ∀ j, n ≤ j → j < s.size → s.get! j ≠ 10
theorem EndsAt.det {s : ByteArray} {n i i' : Nat} (h : EndsAt s n i) (h' : EndsAt s n i') : i = i' := by
 rcases Nat.lt_trichotomy i i' with h1 | h1 | h1
 ·exact absurd h.2.2.1 (h'.2.2.2 i h.1 h1)
 ·exact h1
 ·exact absurd h'.2.2.1 (h.2.2.2 i' h'.1 h1)
theorem ends_or (s : ByteArray) (n : Nat) : (∃ i, EndsAt s n i) ∨ NoEnd s n := by
 by_cases h : ∃ k, n + k < s.size ∧ s.get! (n + k) = 10
 ·left
  obtain ⟨k, hk⟩ := h
  have key : ∀ (m k : Nat), k ≤ m → n + k < s.size ∧ s.get! (n + k) = 10 → ∃ i, EndsAt s n i := by
   intro m
   induction m using Nat.strongRecOn with
   | ind m ih =>
    intro k hkm hk
    by_cases h2 : ∃ j, j < k ∧ s.get! (n + j) = 10
    ·obtain ⟨j, hj, hj2⟩ := h2
     exact ih j (by omega) j (Nat.le_refl _) ⟨by omega, hj2⟩
    ·exact ⟨n + k, by omega, hk.1, hk.2, fun j h3 h4 h5 => h2 ⟨j - n, by omega, by rw [show n + (j - n) = j by omega]; exact h5⟩⟩
  exact key k k (Nat.le_refl _) hk
 ·right
  intro j h1 h2 h3
  exact h ⟨j - n, by omega, by rw [show n + (j - n) = j by omega]; exact h3⟩
theorem line_hit {s : ByteArray} (hs : s.size ≤ 65535) {n i : Nat} (h : EndsAt s n i) (p a : Nat) (c : Cfg) (rv pv tv lv : Value) (k e pl : Nat) (w : World) (hb : Blk w p 56 (RdV s a n c rv pv tv lv k e pl)) :
  Calls Tryz.prog 42 #[.pointer (some ⟨p, 0, none⟩)] w fun r w' => r = .returned (.tuple #[.string (s.extract n i), .bool true]) ∧ Frm w w' (fun q => q = p) ∧ Blk w' p 56 (RdV s n (i + 1) c rv pv tv lv k e pl) :=
 (line_any s hs p a n c rv pv tv lv k e pl w hb (Nat.le_of_lt (Nat.lt_of_le_of_lt h.1 h.2.1))).mono fun r w' hh => by
  rcases hh.2 with ⟨i', h1, h2, h3, h4, h5, h6⟩ | ⟨h1, _⟩
  ·obtain rfl := h.det ⟨h1, h2, h3, h4⟩
   exact ⟨h5, hh.1, h6⟩
  ·exact absurd h.2.2.1 (h1 i h.1 h.2.1)
theorem line_miss {s : ByteArray} (hs : s.size ≤ 65535) {n : Nat} (hn : n ≤ s.size) (h : NoEnd s n) (p a : Nat) (c : Cfg) (rv pv tv lv : Value) (k e pl : Nat) (w : World) (hb : Blk w p 56 (RdV s a n c rv pv tv lv k e pl)) :
  Calls Tryz.prog 42 #[.pointer (some ⟨p, 0, none⟩)] w fun r w' => r = .returned (.tuple #[.string ⟨#[]⟩, .bool false]) ∧ Frm w w' (fun q => q = p) ∧ Blk w' p 56 (RdV s n n c rv pv tv lv k e pl) :=
 (line_any s hs p a n c rv pv tv lv k e pl w hb hn).mono fun r w' hh => by
  rcases hh.2 with ⟨i', h1, h2, h3, h4, h5, h6⟩ | ⟨_, h1, h2⟩
  ·exact absurd h3 (h i' h1 h2)
  ·exact ⟨h1, hh.1, h2⟩
def Body (s : ByteArray) (f n : Nat) : Prop := bodyG (s.data.toList.drop f) = (bodyG (s.data.toList.drop n)).map fun x => ((s.extract f n).data.toList ++ x.1, x.2)
theorem Body.start (s : ByteArray) (n : Nat) : Body s n n := by
 unfold Body
 have e : (s.extract n n).data.toList = [] := by
  rw [ext_list]
  exact List.eq_nil_of_length_eq_zero (by rw [List.length_drop, List.length_take]; omega)
 rw [e]
 cases bodyG (s.data.toList.drop n) <;> rfl
theorem Body.next {s : ByteArray} {f n i : Nat} (h : Body s f n) (hf : f ≤ n) (hni : n ≤ i) (hi : i < s.size) (h10 : s.get! i = 10) (hb : ∀ j, n ≤ j → j < i → s.get! j ≠ 10) (hl : (s.extract n i).data.toList ≠ wEnd) : Body s f (i + 1) := by
 unfold Body at h ⊢
 rw [h, bodyG_line (nextL_of s n i hni hi h10 hb) hl]
 have e1 : (s.extract f (i + 1)).data.toList = (s.extract f n).data.toList ++ ((s.extract n i).data.toList ++ [10]) := by
  rw [← ext_snoc s n i hni hi h10, ext_app s f n (i + 1) hf (by omega) (by omega)]
 rw [e1]
 cases bodyG (s.data.toList.drop (i + 1)) with
 | none => rfl
 | some x => simp
theorem Body.done {s : ByteArray} {f n i : Nat} (h : Body s f n) (hni : n ≤ i) (hi : i < s.size) (h10 : s.get! i = 10) (hb : ∀ j, n ≤ j → j < i → s.get! j ≠ 10) (hl : (s.extract n i).data.toList = wEnd) : bodyG (s.data.toList.drop f) = some ((s.extract f n).data.toList, s.data.toList.drop (i + 1)) := by
 unfold Body at h
 rw [h, bodyG_end (by rw [nextL_of s n i hni hi h10 hb, hl])]
 simp
theorem Body.none_ {s : ByteArray} {f n : Nat} (h : Body s f n) (hb : ∀ j, n ≤ j → j < s.size → s.get! j ≠ 10) : bodyG (s.data.toList.drop f) = none := by
 unfold Body at h
 rw [h, bodyG_none (nextL_no s n hb)]
 rfl
theorem progR_none {x : SSt} {s : ByteArray} {at_ f : Nat} (h : x.set.progs.length ≠ 16) (hb : bodyG (s.data.toList.drop f) = none) : progR x s at_ f = .error (9, s.size) := by
 unfold progR
 rw [if_neg h, hb]
theorem progR_bad {x : SSt} {s : ByteArray} {at_ f : Nat} {b r : List UInt8} {y : Nat × Nat} (h : x.set.progs.length ≠ 16) (hb : bodyG (s.data.toList.drop f) = some (b, r)) (hp : parseF b = .error y) : progR x s at_ f = .error (y.1, f + y.2) := by
 unfold progR
 rw [if_neg h, hb]
 simp only
 rw [hp]
theorem progR_ok {x : SSt} {s : ByteArray} {at_ f : Nat} {b r : List UInt8} {L : List AOp} (h : x.set.progs.length ≠ 16) (hb : bodyG (s.data.toList.drop f) = some (b, r)) (hp : parseF b = .ok L) : progR x s at_ f = .ok ({ x with set := { x.set with progs := x.set.progs ++ [bytesOf L] } }, s.size - r.length) := by
 unfold progR
 rw [if_neg h, hb]
 simp only
 rw [hp]
def PResP (B : Nat) (w : World) (p : Nat) (s : ByteArray) (a : Nat) : Except (Nat × Nat) (SSt × Nat) → Prop
 | .ok (x, n) => ∃ a', PGood B w p s a' n x
 | .error y => PBad w p y.1 y.2
def PPostP (B p : Nat) (s : ByteArray) (a : Nat) (R : Except (Nat × Nat) (SSt × Nat)) (w : World) (e : Ending) (w' : World) : Prop := e = .returned (.tuple #[]) ∧ Below B w w' ∧ PResP B w' p s a R
set_option maxHeartbeats 4000000 in
theorem pprogram_any {C : Nat} (B p a f : Nat) (s : ByteArray) (hs : s.size ≤ 65535) (hf : f ≤ s.size) (x : SSt) (w : World) (hE : EnvP C w) (hCB : C ≤ B) (hG : PGood B w p s a f x) (hBw : B ≤ w.heap.size) (hBp : B ≤ p) (hpl : x.set.progs.length ≤ 16) :
  Calls Tryz.prog 79 #[.pointer (some ⟨p, 0, none⟩)] w (PPostP B p s a (progR x s a f) w) := by
 obtain ⟨rv, pv, tv, lv, T, L, hb, hS⟩ := hG
 obtain ⟨Rp, cp, rfl, _, _⟩ := own_shapes hS.progs
 have x10 : w.cell? ⟨p, 10, none⟩ = some (.slice Rp x.set.progs.length cp) := (hb.cell 10).trans rfl
 have x1 : w.cell? ⟨p, 1, none⟩ = some (.int .i64 a) := (hb.cell 1).trans rfl
 have x2 : w.cell? ⟨p, 2, none⟩ = some (.int .i64 f) := (hb.cell 2).trans rfl
 have hql := hb.lt
 have HB := Lib.hid hb
 have HS := Lib.hid hS
 clear hS hb
 by_cases h16 : x.set.progs.length = 16
 ·have q1 : ((x.set.progs.length : Int) == 16) = true := by simp; omega
  have HR : Hid (progR x s a f = .error (2, a)) := Lib.hid (by unfold progR; rw [if_pos h16])
  have HF := Lib.hid (fails_any s p a f x.set.cfg rv (.slice Rp x.set.progs.length cp) tv lv x.steps 0 2 a w HB.out)
  clear h16
  go_enter Tryz.func79, Tryz.ntmps79
  go_wp2_with (go_at_call 17; refine HF.out.mono ?_; rintro e w2 ⟨rfl, hF, hB⟩)
  go_end0
  rw [HR.out]
  exact ⟨rfl, below_of_frm hF hBw hBp, _, _, _, _, _, _, _, _, _, hB⟩
 ·have q1 : ((x.set.progs.length : Int) == 16) = false := by simp; omega
  have HN16 := Lib.hid h16
  have HEN : Hid (∀ W, Below B w W → EnvP C W) := Lib.hid fun W hW => hE.below (hW.mono hCB)
  clear h16 hE
  go_enter Tryz.func79, Tryz.ntmps79
  go_upto_region 3 with fail
  go_loopg [3, 4] (s.size - f) (fun gk _ _ W => ∃ n a' : Nat, f ≤ n ∧ n ≤ s.size ∧ gk + n = s.size ∧ Hid (Body s f n) ∧ Blk W p 56 (RdV s a' n x.set.cfg rv (.slice Rp x.set.progs.length cp) tv lv x.steps 0 0) ∧ SetAt B W x rv (.slice Rp x.set.progs.length cp) tv lv T L ∧ Below B w W ∧ B ≤ W.heap.size)
  case atStart => exact ⟨f, a, Nat.le_refl _, hf, by omega, Lib.hid (Body.start s f), HB.out, HS.out, Below.refl _ _, hBw⟩
  case round =>
   obtain ⟨n, a', hfn, hns, hgk, HBD, hbk, hSt, hbw, hBr⟩ := hrel
   have HG := Lib.hid hgk
   have HBW := Lib.hid hbw
   have HST := Lib.hid hSt
   have HBK := Lib.hid hbk
   clear hgk hbw hSt x10 x1 x2 hql
   rcases ends_or s n with ⟨i, he⟩ | hno
   ·have HLN := Lib.hid (line_hit hs he p a' x.set.cfg rv (.slice Rp x.set.progs.length cp) tv lv x.steps 0 0 wr hbk)
    have HE := Lib.hid he
    have hi := he.2.1
    have hni := he.1
    obtain ⟨l, hl⟩ : ∃ l, l = s.extract n i := ⟨_, rfl⟩
    rw [← hl] at HLN
    have HLL := Lib.hid hl
    clear he hl hbk
    go_upto_region 4 with (go_at_call 42; refine HLN.out.mono ?_; rintro e w1 ⟨rfl, hF1, hB1⟩; have HF1 := Lib.hid hF1; have HB1 := Lib.hid hB1; clear hF1 hB1)
    have HS1 := Lib.hid (HST.out.frm HBK.out oth_rd HF1.out)
    have HBW1 : Hid (Below B w w1) := Lib.hid (HBW.out.trans (below_of_frm HF1.out hBr hBp))
    have hB1s : B ≤ w1.heap.size := Nat.le_trans hBr HF1.out.size
    by_cases hend : l.data.toList = [101, 110, 100]
    ·have q2 : (l.toList == [101, 110, 100]) = true := str_yes hend
     have HDN : Hid (bodyG (s.data.toList.drop f) = some ((s.extract f n).data.toList, s.data.toList.drop (i + 1))) := Lib.hid (HBD.out.done HE.out.1 HE.out.2.1 HE.out.2.2.1 HE.out.2.2.2 (by rw [← HLL.out]; exact hend))
     clear hend
     obtain ⟨t, ht⟩ : ∃ t, t = s.extract f n := ⟨_, rfl⟩
     have htz : t.size ≤ 67108864 := by rw [ht, ByteArray.size_extract]; omega
     rw [← ht] at HDN
     have hrun : ∀ W, (Instr.sliceAt 9 (.string s) (some (.int .i64 f)) (some (.int .i64 n)) none).run Tryz.prog W = .ok (.string t) W := by
      intro W
      rw [ht]
      simp [go_sem, hfn, hns]
     have htl : t.data.toList.length ≤ 65535 := by
      have h1 : t.data.toList.length = t.size := Array.length_toList
      rw [h1, ht, ByteArray.size_extract]; omega
     have x0 : w1.cell? ⟨p, 0, none⟩ = some (.string s) := (HB1.out.cell 0).trans rfl
     have x1 : w1.cell? ⟨p, 1, none⟩ = some (.int .i64 n) := (HB1.out.cell 1).trans rfl
     have hpl1 := HB1.out.lt
     have HP := Lib.hid (fun (W : World) (hW : Below w1.heap.size w1 W) => parse_at ((HEN.out w1 HBW1.out).below (hW.mono (Nat.le_trans hCB hB1s))) t htz)
     clear ht htz
     go_upto_region 7 with fail
     cases hpf : parseF t.data.toList with
     | error y =>
      have hpl2 := parseF_place hpf
      have hy0 := parseF_err hpf
      have HR : Hid (progR x s a f = .error (y.1, f + y.2)) := Lib.hid (progR_bad HN16.out HDN.out hpf)
      rw [hpf] at HP
      have q3 : (((y.1 : Nat) : Int) != 0) = true := by simp; omega
      have zz : IntKind.i64.wrap ((f : Int) + (y.2 : Int)) = (f : Int) + (y.2 : Int) := by rw [IntKind.wrap_i64]; omega
      have HP' : Hid (∀ W, Below w1.heap.size w1 W → Calls Tryz.prog 110 #[.string t] W fun e w' => e = .returned (.tuple #[.string ⟨#[]⟩, .int .i64 y.1, .int .i64 y.2]) ∧ Below W.heap.size W w') := Lib.hid HP.out
      clear hpf hpl2 hy0 HP
      go_cut [5, 6, 7] from 41 to 55 (fun v5 v6 v7 wc => v5 = .string ⟨#[]⟩ ∧ v6 = .int .i64 y.1 ∧ v7 = .int .i64 y.2 ∧ Below w1.heap.size w1 wc)
      case first =>
       go_region_with (go_at_call 110; refine (HP'.out _ (by first | exact (Below.refl _ _).drew | exact Below.refl _ _)).mono ?_; rintro e w2 ⟨rfl, hb2⟩)
       all_goals (go_wp2_with fail)
       all_goals go_meet
       all_goals exact ⟨rfl, rfl, rfl, (by first | exact ((Below.refl _ w1).drew).trans hb2 | exact hb2)⟩
      case rest =>
       obtain ⟨rfl, rfl, rfl, hb2'⟩ := hcut
       obtain ⟨w2, rfl⟩ : ∃ w', w' = wc := ⟨_, rfl⟩
       have HB2 := Lib.hid (HB1.out.below hb2' hpl1)
       have HW2 : Hid (Below B w w2) := Lib.hid (HBW1.out.trans (hb2'.mono hB1s))
       have hB2s : B ≤ w2.heap.size := Nat.le_trans hB1s hb2'.size
       have HFX := fails_any s p n (i + 1) x.set.cfg rv (.slice Rp x.set.progs.length cp) tv lv x.steps 0 y.1 (f + y.2) w2 HB2.out
       simp only [Int.natCast_add] at HFX
       have HF := Lib.hid HFX
       clear hb2' HFX
       go_wp2_with (go_at_call 17; refine HF.out.mono ?_; rintro e w3 ⟨rfl, hF, hB⟩)
       go_end0
       rw [HR.out]
       exact ⟨rfl, HW2.out.trans (below_of_frm hF hB2s hBp), _, _, _, _, _, _, _, _, _, hB⟩
     | ok L2 =>
      have HR : Hid (progR x s a f = .ok ({ x with set := { x.set with progs := x.set.progs ++ [bytesOf L2] } }, i + 1)) := Lib.hid (by
       rw [progR_ok HN16.out HDN.out hpf, List.length_drop, Array.length_toList]
       have : s.data.size = s.size := rfl
       rw [show s.size - (s.data.size - (i + 1)) = i + 1 by omega])
      rw [hpf] at HP
      obtain ⟨o, ho⟩ : ∃ o : ByteArray, o = ⟨(bytesOf L2).toArray⟩ := ⟨_, rfl⟩
      have HP' : Hid (∀ W, Below w1.heap.size w1 W → Calls Tryz.prog 110 #[.string t] W fun e w' => e = .returned (.tuple #[.string o, .int .i64 0, .int .i64 0]) ∧ Below W.heap.size W w') := Lib.hid (by rw [ho]; exact HP.out)
      have HO := Lib.hid ho
      clear hpf HP ho
      go_cut [5, 6, 7] from 41 to 55 (fun v5 v6 v7 wc => v5 = .string o ∧ v6 = .int .i64 0 ∧ v7 = .int .i64 0 ∧ Below w1.heap.size w1 wc)
      case first =>
       go_region_with (go_at_call 110; refine (HP'.out _ (by first | exact (Below.refl _ _).drew | exact Below.refl _ _)).mono ?_; rintro e w2 ⟨rfl, hb2⟩)
       all_goals (go_wp2_with fail)
       all_goals go_meet
       all_goals exact ⟨rfl, rfl, rfl, (by first | exact ((Below.refl _ w1).drew).trans hb2 | exact hb2)⟩
      case rest =>
       obtain ⟨rfl, rfl, rfl, hb2'⟩ := hcut
       obtain ⟨wf, rfl⟩ : ∃ w', w' = wc := ⟨_, rfl⟩
       have HBL := Lib.hid (HB1.out.below hb2' hpl1)
       have HS2 := Lib.hid (HS1.out.below hb2')
       have HW2 : Hid (Below B w wf) := Lib.hid (HBW1.out.trans (hb2'.mono hB1s))
       have hBf : B ≤ wf.heap.size := Nat.le_trans hB1s hb2'.size
       have x10' : wf.cell? ⟨p, 10, none⟩ = some (.slice Rp x.set.progs.length cp) := (HBL.out.cell 10).trans rfl
       have hqf := HBL.out.lt
       obtain ⟨i0, hi', hz0, hz1, hz2⟩ := info_parts info_str
       have hc3 : x.set.progs.length + 1 ≤ maxLen := by unfold maxLen; omega
       have hc4 : (x.set.progs.length + 1) * 16 ≤ 140737488355328 := by omega
       have HA : Hid (Below wf.heap.size wf (wf.alloc (.cells #[.string o] 9))) := Lib.hid ((Below.refl _ _).alloc (Nat.le_refl _) _)
       have hc2 : ∀ u ∈ ([.string o] : List Value), u.oneCell' = true := by intro u hu; simp at hu; subst hu; rfl
       have hc5 : B ≤ (wf.alloc (.cells #[.string o] 9)).heap.size := by simp; omega
       clear hb2'
       go_wp2_with (at_builtin; go_must (refine wpList_append_lies _ rfl _ _ 26 rfl B 9 i0 (.string ⟨#[]⟩) 1 16 Tryz.underlying26 (by assumption) hz0 hz1 hz2 rfl (by decide) (.slice Rp x.set.progs.length cp) x.set.progs.length (rows stC x.set.progs) rfl (HS2.out.progs.alloc _) ⟨wf.heap.size, 0, none⟩ 1 1 [.string o] rfl rfl (World.news_of_block (cs := #[.string o]) (t := 9) (fr := (0, 0)) (by simpa using heap_alloc_new wf (.cells #[.string o] 9))) hc2 (by omega) hc3 hc4 hc5 (wf.heap.size + 1) (by simp) ?_; intro gg c' w2 hown2 hg2 hat hlt2; have hR3 := blk_past HBL.out (HS2.out.progs) oth_rd.b HA.out hg2; have m6 : w2.cell? ⟨p, 10, none⟩ = some (.slice Rp x.set.progs.length cp) := (hR3.cell 10).trans rfl; have f6 : w2.frozen? ⟨p, 10, none⟩ = false := hR3.frozen 10; have hl3 := hR3.lt))
       go_end0
       rw [HR.out]
       obtain ⟨k1, k2, k3⟩ := HS2.out.put_program HBL.out oth_rd hBf hBp HA.out hg2 (bytesOf L2) (by rw [HO.out] at hown2; exact hown2) 10
       exact ⟨rfl, HW2.out.trans k3, n, _, _, _, _, _, _, k1, k2⟩
    ·have q2 : (l.toList == [101, 110, 100]) = false := str_no hend
     have HNX : Hid (Body s f (i + 1)) := Lib.hid (HBD.out.next hfn HE.out.1 HE.out.2.1 HE.out.2.2.1 HE.out.2.2.2 (by rw [← HLL.out]; exact hend))
     clear hend
     go_wp2
     go_roundg (s.size - (i + 1))
     case measure => have := HG.out; omega
     case rel => exact ⟨i + 1, n, by omega, by omega, by omega, HNX.out, HB1.out, HS1.out, HBW1.out, hB1s⟩
   ·have HLN := Lib.hid (line_miss hs hns hno p a' x.set.cfg rv (.slice Rp x.set.progs.length cp) tv lv x.steps 0 0 wr hbk)
    have HR : Hid (progR x s a f = .error (9, s.size)) := Lib.hid (progR_none HN16.out (HBD.out.none_ hno))
    clear hno hbk
    go_upto_region 4 with (go_at_call 42; refine HLN.out.mono ?_; rintro e w1 ⟨rfl, hF1, hB1⟩; have HF1 := Lib.hid hF1; have HB1 := Lib.hid hB1; clear hF1 hB1)
    have x0 : w1.cell? ⟨p, 0, none⟩ = some (.string s) := (HB1.out.cell 0).trans rfl
    have hpl1 := HB1.out.lt
    have HF := Lib.hid (fails_any s p n n x.set.cfg rv (.slice Rp x.set.progs.length cp) tv lv x.steps 0 9 s.size w1 HB1.out)
    have HBW1 : Hid (Below B w w1) := Lib.hid (HBW.out.trans (below_of_frm HF1.out hBr hBp))
    have hB1s : B ≤ w1.heap.size := Nat.le_trans hBr HF1.out.size
    go_wp2_with (go_at_call 17; refine HF.out.mono ?_; rintro e w2 ⟨rfl, hF, hB⟩)
    go_end0
    rw [HR.out]
    exact ⟨rfl, HBW1.out.trans (below_of_frm hF hB1s hBp), _, _, _, _, _, _, _, _, _, hB⟩
end Go.Proofs.YtiheggkkgbfndaaGreatDoor
