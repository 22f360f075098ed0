/- Where a script's text is wrong: a place within it; plain. -/
import Derived.Test.YtiheggkkgbfndaaGreatDoorJ30
import Derived.Test.YtiheggkkgbfndaaGreatDoorJ16
import Derived.Test.YtiheggkkgbfndaaGreatDoorJ20
import Derived.Test.YtiheggkkgbfndaaGreatDoorJ28
import Derived.Test.YtiheggkkgbfndaaGreatDoorJ18
namespace Go.Proofs.YtiheggkkgbfndaaGreatDoor
open Go Go.Lib
set_option linter.unusedVariables false
set_option linter.unusedSimpArgs false
theorem tok_in {t : List UInt8} : ∀ l ∈ lineToks t, ∀ x ∈ l, x.pos + x.s.length ≤ t.length := by
 intro l hl x hx
 obtain ⟨j, hj⟩ := List.getElem?_of_mem hl
 rw [lineToks_split] at hj
 have hj' : j < (splitF 10 t).length := by
  have := (List.getElem?_eq_some_iff.1 hj).1
  exact Nat.lt_of_lt_of_le this (toksFrom_len _ _)
 rw [toksFrom_get _ 0 j hj'] at hj
 injection hj with hj
 rw [Nat.zero_add] at hj
 have s1 := (split_place j t hj').1
 have hp := (lineTok_place _ _ x (hj ▸ hx)).2
 omega
def NameIn (B : Nat) (r : RSt) : Prop := ∀ x ∈ r.ins, x.name.pos ≤ B
theorem endL_names {B : Nat} {r r' : RSt} {t nm : Tok} {c : Nat} {o : Int} {rest : List Tok} (hr : NameIn B r) (hn : nm.pos ≤ B) (h : endL r t c o nm rest = .ok r') : NameIn B r' := by
 unfold endL at h
 split at h
 ·cases h
 ·split at h
  ·cases h
  ·injection h with h
   subst h
   intro x hx
   rcases List.mem_append.1 hx with hx | hx
   ·exact hr x hx
   ·obtain rfl := List.mem_singleton.1 hx
    exact hn
theorem insL_names {B : Nat} {r r' : RSt} {t : Tok} {rest : List Tok} (hr : NameIn B r) (hl : ∀ x ∈ rest, x.pos ≤ B) (h : insL r t rest = .ok r') : NameIn B r' := by
 unfold insL at h
 split at h
 ·cases h
 ·split at h
  ·split at h
   ·cases h
   ·rename_i c _ u rest'
    split at h
    ·cases h
    ·rename_i o nm ho
     refine endL_names hr ?_ h
     unfold oprL at ho
     split at ho
     ·split at ho
      ·injection ho with ho
       injection ho with _ ho
       subst ho
       exact Nat.zero_le _
      ·cases ho
     ·split at ho
      ·injection ho with ho
       injection ho with _ ho
       subst ho
       exact hl u (by simp)
      ·cases ho
  ·exact endL_names hr (Nat.zero_le _) h
theorem lineL_names {B : Nat} {r r' : RSt} {l : List Tok} (hr : NameIn B r) (hl : ∀ x ∈ l, x.pos ≤ B) (h : lineL r l = .ok r') : NameIn B r' := by
 unfold lineL at h
 split at h
 ·injection h with h
  subst h
  exact hr
 ·rename_i t rest
  split at h
  ·split at h
   ·cases h
   ·split at h
    ·cases h
    ·split at h
     ·injection h with h
      subst h
      exact hr
     ·rename_i u rest'
      exact insL_names (show NameIn B ⟨r.labels ++ [(t.s.dropLast, r.size)], r.ins⟩ from hr) (fun x hx => hl x (by simp [hx])) h
  ·exact insL_names hr (fun x hx => hl x (by simp [hx])) h
theorem linesL_names {B : Nat} : ∀ {ls : List (List Tok)} {r r' : RSt}, NameIn B r → (∀ l ∈ ls, ∀ x ∈ l, x.pos ≤ B) → linesL r ls = .ok r' → NameIn B r'
 | [], r, r', hr, _, h => by
  injection h with h
  subst h
  exact hr
 | l :: ls, r, r', hr, hl, h => by
  unfold linesL at h
  cases hx : lineL r l with
  | error e => rw [hx] at h; cases h
  | ok q =>
   rw [hx] at h
   exact linesL_names (lineL_names hr (hl l (by simp)) hx) (fun y hy => hl y (List.mem_cons_of_mem _ hy)) h
theorem resL_names {B : Nat} {ls : List (List UInt8 × Nat)} : ∀ {l : List Ins} {z : Nat × Nat}, (∀ x ∈ l, x.name.pos ≤ B) → resL ls l = .error z → z.2 ≤ B
 | [], z, _, h => by cases h
 | x :: l, z, hB, h => by
  unfold resL at h
  cases hx : resOne ls x with
  | error e =>
   rw [hx] at h
   injection h with h
   subst h
   unfold resOne at hx
   split at hx
   ·cases hx
   ·split at hx
    ·injection hx with hx
     subst hx
     exact hB x (by simp)
    ·cases hx
  | ok o =>
   rw [hx] at h
   simp only at h
   cases hl : resL ls l with
   | error e =>
    rw [hl] at h
    injection h with h
    subst h
    exact resL_names (fun y hy => hB y (List.mem_cons_of_mem _ hy)) hl
   | ok L => rw [hl] at h; cases h
theorem parseF_place {t : List UInt8} {y : Nat × Nat} (h : parseF t = .error y) : y.2 ≤ t.length := by
 unfold parseF at h
 cases hr : linesL ⟨[], []⟩ (lineToks t) with
 | error e =>
  rw [hr] at h
  injection h with h
  subst h
  obtain ⟨j, l, r, h1, _, h3⟩ := linesL_where hr
  obtain ⟨x, hx, hp⟩ := lineL_place h3
  have := tok_in l (List.mem_of_getElem? h1) x hx
  rcases hp with hp | hp <;> omega
 | ok r =>
  rw [hr] at h
  refine resL_names (linesL_names ?_ ?_ hr) h
  ·intro x hx
   cases hx
  ·intro l hl x hx
   have := tok_in l hl x hx
   omega
theorem bodyL_text : ∀ {f : Nat} {t b r : List UInt8}, bodyL f t = some (b, r) → b.length + r.length < t.length
 | 0, t, b, r, h => by cases h
 | f + 1, t, b, r, h => by
  unfold bodyL at h
  cases hn : nextL t with
  | none => rw [hn] at h; cases h
  | some x =>
   obtain ⟨l, r'⟩ := x
   rw [hn] at h
   simp only at h
   have h1 := (nextL_len hn).1
   have h2 : t.length = l.length + (r'.length + 1) := by rw [h1, List.length_append, List.length_cons]
   split at h
   ·injection h with h
    injection h with h0 h
    subst h h0
    simp only [List.length_nil]
    omega
   ·cases hb : bodyL f r' with
    | none => rw [hb] at h; cases h
    | some y =>
     obtain ⟨b', r''⟩ := y
     rw [hb] at h
     simp only [Option.map_some, Option.some.injEq, Prod.mk.injEq] at h
     have := bodyL_text hb
     rw [← h.2, ← h.1, List.length_append, List.length_cons]
     omega
theorem goesL_err : ∀ {f pos part : Nat} {x : SSt} {t : List UInt8} {y : Nat × Nat}, goesL f pos part x t = .error y → y.1 ≠ 0 ∧ y.2 ≤ pos + t.length
 | 0, pos, part, x, t, y, h => by cases h
 | f + 1, pos, part, x, t, y, h => by
  unfold goesL at h
  split at h
  ·cases h
  ·cases hn : nextL t with
   | none =>
    rw [hn] at h
    injection h with h
    subst h
    exact ⟨by simp, by simp⟩
   | some z =>
    obtain ⟨l, r⟩ := z
    rw [hn] at h
    simp only at h
    have h1 := (nextL_len hn).1
    have h2 : t.length = l.length + (r.length + 1) := by rw [h1, List.length_append, List.length_cons]
    split at h
    ·injection h with h
     subst h
     exact ⟨by simp, by simp⟩
    ·split at h
     ·split at h
      ·injection h with h
       subst h
       exact ⟨by simp, by simp⟩
      ·cases hb : bodyL (r.length + 1) r with
       | none =>
        rw [hb] at h
        injection h with h
        subst h
        exact ⟨by simp, by simp⟩
       | some z =>
        obtain ⟨b, r'⟩ := z
        rw [hb] at h
        simp only at h
        have h3 := bodyL_text hb
        cases hL : parseF b with
        | error e =>
         rw [hL] at h
         injection h with h
         subst h
         have e1 := parseF_err hL
         have e2 := parseF_place hL
         exact ⟨e1, by show pos + l.length + 1 + e.2 ≤ pos + t.length; omega⟩
        | ok L =>
         rw [hL] at h
         simp only at h
         obtain ⟨g1, g2⟩ := goesL_err h
         exact ⟨g1, by omega⟩
     ·cases hp : plainL x l (splitF 32 l) with
      | error e =>
       rw [hp] at h
       injection h with h
       subst h
       exact ⟨plainL_err hp, by simp⟩
      | ok x' =>
       rw [hp] at h
       simp only at h
       obtain ⟨g1, g2⟩ := goesL_err h
       exact ⟨g1, by omega⟩
theorem parseS_err {t : List UInt8} {y : Nat × Nat} (h : parseS t = .error y) : y.1 ≠ 0 ∧ y.2 ≤ t.length := by
 unfold parseS at h
 split at h
 ·injection h with h
  subst h
  exact ⟨by simp, by show 65535 ≤ t.length; omega⟩
 ·cases hn : nextL t with
  | none =>
   rw [hn] at h
   injection h with h
   subst h
   exact ⟨by simp, Nat.zero_le _⟩
  | some z =>
   obtain ⟨l, r⟩ := z
   rw [hn] at h
   simp only at h
   have h1 := (nextL_len hn).1
   have h2 : t.length = l.length + (r.length + 1) := by rw [h1, List.length_append, List.length_cons]
   cases hc : configL l with
   | none =>
    rw [hc] at h
    injection h with h
    subst h
    exact ⟨by simp, Nat.zero_le _⟩
   | some c =>
    rw [hc] at h
    simp only at h
    cases hr : goesL (r.length + 1) (l.length + 1) 1 ⟨⟨c, [], [], []⟩, [], 0⟩ r with
    | error e =>
     rw [hr] at h
     injection h with h
     subst h
     obtain ⟨g1, g2⟩ := goesL_err hr
     exact ⟨g1, by omega⟩
    | ok y =>
     rw [hr] at h
     simp only at h
     split at h
     ·cases h
     ·injection h with h
      subst h
      exact ⟨by simp, Nat.zero_le _⟩
end Go.Proofs.YtiheggkkgbfndaaGreatDoor
namespace Go.Proofs.YtiheggkkgbfndaaGreatDoor
open Go.RowKit Go.Joins Go.ChangeShapes Go.WideShapes Go.Deep
set_option linter.unusedVariables false
set_option linter.unusedSimpArgs false
set_option maxRecDepth 100000
def progR (x : SSt) (s : ByteArray) (at_ from_ : Nat) : Except (Nat × Nat) (SSt × Nat) :=
 if x.set.progs.length = 16 then .error (2, at_) else match bodyG (s.data.toList.drop from_) with
  | none => .error (9, s.size)
  | some (b, r) => match parseF b with
   | .error e => .error (e.1, from_ + e.2)
   | .ok L => .ok ({ x with set := { x.set with progs := x.set.progs ++ [bytesOf L] } }, s.size - r.length)
def DResP (B : Nat) (w : World) (q part : Nat) (r : Int) : Except (Nat × Nat) (SSt × Nat) → Prop
 | .ok (x, n) => r = (n : Int) ∧ DGood B w q part x
 | .error y => DBad w q y.1 y.2
def DPostP (B q part : Nat) (R : Except (Nat × Nat) (SSt × Nat)) (w : World) (e : Ending) (w' : World) : Prop := Below B w w' ∧ ∃ r : Int, e = .returned (.int .i64 r) ∧ DResP B w' q part r R
theorem ext_snoc (s : ByteArray) (n i : Nat) (hn : n ≤ i) (hi : i < s.size) (h : s.get! i = 10) : (s.extract n (i + 1)).data.toList = (s.extract n i).data.toList ++ [10] := by
 rw [ext_list, ext_list, take_snoc _ i 10 (by rw [get_list s i hi, h]), List.drop_append, List.length_take, Array.length_toList]
 congr 1
 rw [show n - min i s.data.size = 0 by have : s.data.size = s.size := rfl; omega]
 rfl
theorem ext_app (s : ByteArray) (a n i : Nat) (ha : a ≤ n) (hn : n ≤ i) (hi : i ≤ s.size) : (s.extract a n).data.toList ++ (s.extract n i).data.toList = (s.extract a i).data.toList := by
 rw [ext_list, ext_list, ext_list]
 have h1 : (s.data.toList.take i) = (s.data.toList.take n) ++ (s.data.toList.take i).drop n := by
  conv => lhs; rw [← List.take_append_drop n (s.data.toList.take i)]
  rw [List.take_take, Nat.min_eq_left hn]
 conv => rhs; rw [h1]
 rw [List.drop_append, List.length_take, Array.length_toList, show a - min n s.data.size = 0 by have : s.data.size = s.size := rfl; omega]
 rfl
def EndsAt (s : ByteArray) (n i : Nat) : Prop := n ≤ i ∧ i < s.size ∧ s.get! i = 10 ∧ ∀ j, n ≤ j → j < i → s.get! j ≠ 10
def NoEnd (s : ByteArray) (n : Nat) : Prop := ∀ j, n ≤ j → j < s.size → s.get! j ≠ 10
theorem EndsAt.det {s : ByteArray} {n i i' : Nat} (h : EndsAt s n i) (h' : EndsAt s n i') : i = i' := by
 rcases Nat.lt_trichotomy i i' with h1 | h1 | h1
 ·exact absurd h.2.2.1 (h'.2.2.2 i h.1 h1)
 ·exact h1
 ·exact absurd h'.2.2.1 (h.2.2.2 i' h'.1 h1)
theorem ends_or (s : ByteArray) (n : Nat) : (∃ i, EndsAt s n i) ∨ NoEnd s n := by
 by_cases h : ∃ k, n + k < s.size ∧ s.get! (n + k) = 10
 ·left
  obtain ⟨k, hk⟩ := h
  have key : ∀ (m k : Nat), k ≤ m → n + k < s.size ∧ s.get! (n + k) = 10 → ∃ i, EndsAt s n i := by
   intro m
   induction m using Nat.strongRecOn with
   | ind m ih =>
    intro k hkm hk
    by_cases h2 : ∃ j, j < k ∧ s.get! (n + j) = 10
    ·obtain ⟨j, hj, hj2⟩ := h2
     exact ih j (by omega) j (Nat.le_refl _) ⟨by omega, hj2⟩
    ·exact ⟨n + k, by omega, hk.1, hk.2, fun j h3 h4 h5 => h2 ⟨j - n, by omega, by rw [show n + (j - n) = j by omega]; exact h5⟩⟩
  exact key k k (Nat.le_refl _) hk
 ·right
  intro j h1 h2 h3
  exact h ⟨j - n, by omega, by rw [show n + (j - n) = j by omega]; exact h3⟩
theorem rline_hit {s : ByteArray} (hs : s.size ≤ 65535) {n i : Nat} (h : EndsAt s n i) (w : World) : Calls Tryz.prog 20 #[.string s, .int .i64 n] w fun e w' => w = w' ∧ e = .returned (.tuple #[.string (s.extract n i), .int .i64 ((i : Int) + 1)]) :=
 (rline_any s hs n (Nat.le_of_lt (Nat.lt_of_le_of_lt h.1 h.2.1)) w).mono fun e w' hh => ⟨hh.1, by
  rcases hh.2 with ⟨i', h1, h2, h3, h4, h5⟩ | ⟨h1, _⟩
  ·obtain rfl := h.det ⟨h1, h2, h3, h4⟩
   exact h5
  ·exact absurd h.2.2.1 (h1 i h.1 h.2.1)⟩
theorem rline_miss {s : ByteArray} (hs : s.size ≤ 65535) {n : Nat} (hn : n ≤ s.size) (h : NoEnd s n) (w : World) : Calls Tryz.prog 20 #[.string s, .int .i64 n] w fun e w' => w = w' ∧ e = .returned (.tuple #[.string ⟨#[]⟩, .int .i64 (-1)]) :=
 (rline_any s hs n hn w).mono fun e w' hh => ⟨hh.1, by
  rcases hh.2 with ⟨i', h1, h2, h3, h4, h5⟩ | ⟨_, h1⟩
  ·exact absurd h3 (h i' h1 h2)
  ·exact h1⟩
theorem line_hit {s : ByteArray} (hs : s.size ≤ 65535) {n i : Nat} (h : EndsAt s n i) (p a : Nat) (c : Cfg) (rv pv tv lv : Value) (k e pl : Nat) (w : World) (hb : Blk w p 56 (RdV s a n c rv pv tv lv k e pl)) :
  Calls Tryz.prog 42 #[.pointer (some ⟨p, 0, none⟩)] w fun r w' => r = .returned (.tuple #[.string (s.extract n i), .bool true]) ∧ Frm w w' (fun q => q = p) ∧ Blk w' p 56 (RdV s n (i + 1) c rv pv tv lv k e pl) :=
 (line_any s hs p a n c rv pv tv lv k e pl w hb (Nat.le_of_lt (Nat.lt_of_le_of_lt h.1 h.2.1))).mono fun r w' hh => by
  rcases hh.2 with ⟨i', h1, h2, h3, h4, h5, h6⟩ | ⟨h1, _⟩
  ·obtain rfl := h.det ⟨h1, h2, h3, h4⟩
   exact ⟨h5, hh.1, h6⟩
  ·exact absurd h.2.2.1 (h1 i h.1 h.2.1)
theorem line_miss {s : ByteArray} (hs : s.size ≤ 65535) {n : Nat} (hn : n ≤ s.size) (h : NoEnd s n) (p a : Nat) (c : Cfg) (rv pv tv lv : Value) (k e pl : Nat) (w : World) (hb : Blk w p 56 (RdV s a n c rv pv tv lv k e pl)) :
  Calls Tryz.prog 42 #[.pointer (some ⟨p, 0, none⟩)] w fun r w' => r = .returned (.tuple #[.string ⟨#[]⟩, .bool false]) ∧ Frm w w' (fun q => q = p) ∧ Blk w' p 56 (RdV s n n c rv pv tv lv k e pl) :=
 (line_any s hs p a n c rv pv tv lv k e pl w hb hn).mono fun r w' hh => by
  rcases hh.2 with ⟨i', h1, h2, h3, h4, h5, h6⟩ | ⟨_, h1, h2⟩
  ·exact absurd h3 (h i' h1 h2)
  ·exact ⟨h1, hh.1, h2⟩
def Body (s : ByteArray) (f n : Nat) : Prop := bodyG (s.data.toList.drop f) = (bodyG (s.data.toList.drop n)).map fun x => ((s.extract f n).data.toList ++ x.1, x.2)
theorem Body.start (s : ByteArray) (n : Nat) : Body s n n := by
 unfold Body
 have e : (s.extract n n).data.toList = [] := by
  rw [ext_list]
  exact List.eq_nil_of_length_eq_zero (by rw [List.length_drop, List.length_take]; omega)
 rw [e]
 cases bodyG (s.data.toList.drop n) <;> rfl
theorem Body.next {s : ByteArray} {f n i : Nat} (h : Body s f n) (hf : f ≤ n) (hni : n ≤ i) (hi : i < s.size) (h10 : s.get! i = 10) (hb : ∀ j, n ≤ j → j < i → s.get! j ≠ 10) (hl : (s.extract n i).data.toList ≠ wEnd) : Body s f (i + 1) := by
 unfold Body at h ⊢
 rw [h, bodyG_line (nextL_of s n i hni hi h10 hb) hl]
 have e1 : (s.extract f (i + 1)).data.toList = (s.extract f n).data.toList ++ ((s.extract n i).data.toList ++ [10]) := by
  rw [← ext_snoc s n i hni hi h10, ext_app s f n (i + 1) hf (by omega) (by omega)]
 rw [e1]
 cases bodyG (s.data.toList.drop (i + 1)) with
 | none => rfl
 | some x => simp
theorem Body.done {s : ByteArray} {f n i : Nat} (h : Body s f n) (hni : n ≤ i) (hi : i < s.size) (h10 : s.get! i = 10) (hb : ∀ j, n ≤ j → j < i → s.get! j ≠ 10) (hl : (s.extract n i).data.toList = wEnd) : bodyG (s.data.toList.drop f) = some ((s.extract f n).data.toList, s.data.toList.drop (i + 1)) := by
 unfold Body at h
 rw [h, bodyG_end (by rw [nextL_of s n i hni hi h10 hb, hl])]
 simp
theorem Body.none_ {s : ByteArray} {f n : Nat} (h : Body s f n) (hb : ∀ j, n ≤ j → j < s.size → s.get! j ≠ 10) : bodyG (s.data.toList.drop f) = none := by
 unfold Body at h
 rw [h, bodyG_none (nextL_no s n hb)]
 rfl
theorem progR_none {x : SSt} {s : ByteArray} {at_ f : Nat} (h : x.set.progs.length ≠ 16) (hb : bodyG (s.data.toList.drop f) = none) : progR x s at_ f = .error (9, s.size) := by
 unfold progR
 rw [if_neg h, hb]
theorem progR_bad {x : SSt} {s : ByteArray} {at_ f : Nat} {b r : List UInt8} {y : Nat × Nat} (h : x.set.progs.length ≠ 16) (hb : bodyG (s.data.toList.drop f) = some (b, r)) (hp : parseF b = .error y) : progR x s at_ f = .error (y.1, f + y.2) := by
 unfold progR
 rw [if_neg h, hb]
 simp only
 rw [hp]
theorem progR_ok {x : SSt} {s : ByteArray} {at_ f : Nat} {b r : List UInt8} {L : List AOp} (h : x.set.progs.length ≠ 16) (hb : bodyG (s.data.toList.drop f) = some (b, r)) (hp : parseF b = .ok L) : progR x s at_ f = .ok ({ x with set := { x.set with progs := x.set.progs ++ [bytesOf L] } }, s.size - r.length) := by
 unfold progR
 rw [if_neg h, hb]
 simp only
 rw [hp]
set_option maxHeartbeats 4000000 in
theorem rprogram_any (B q part at_ f : Nat) (s : ByteArray) (hs : s.size ≤ 65535) (hf : f ≤ s.size) (x : SSt) (w : World) (hG : DGood B w q part x) (hBw : B ≤ w.heap.size) (hBq : B ≤ q) (hpl : x.set.progs.length ≤ 16) :
  Calls Tryz.prog 55 #[.pointer (some ⟨q, 0, none⟩), .string s, .int .i64 at_, .int .i64 f] w (DPostP B q part (progR x s at_ f) w) := by
 obtain ⟨rv, pv, tv, lv, T, L, hb, hS⟩ := hG
 obtain ⟨Rp, cp, rfl, _, _⟩ := own_shapes hS.progs
 have x7 : w.cell? ⟨q, 7, none⟩ = some (.slice Rp x.set.progs.length cp) := (hb.cell 7).trans rfl
 have hql := hb.lt
 have HB := Lib.hid hb
 have HS := Lib.hid hS
 have HFB : Hid (∀ (y z : Nat) (W : World), Below w.heap.size w W → Calls Tryz.prog 56 #[.pointer (some ⟨q, 0, none⟩), .int .i64 y, .int .i64 z] W fun r w' => r = .returned (.tuple #[]) ∧ (Below B w w' ∧ Frm W w' (fun z => z = q)) ∧ Blk w' q 61 (StV x.set.cfg rv (.slice Rp x.set.progs.length cp) tv lv y z part x.steps)) := Lib.hid fun y z W hW => (rfails_any q x.set.cfg rv _ _ lv 0 0 part x.steps y z W (HB.out.below hW hql)).mono fun r w' ⟨h1, h2, h3⟩ => ⟨h1, ⟨(hW.mono hBw).trans (below_of_frm h2 (Nat.le_trans hBw hW.size) hBq), h2⟩, h3⟩
 clear hb hS
 by_cases h16 : x.set.progs.length = 16
 ·have q1 : ((x.set.progs.length : Int) == 16) = true := by simp; omega
  have HR : Hid (progR x s at_ f = .error (2, at_)) := Lib.hid (by unfold progR; rw [if_pos h16])
  clear h16
  go_enter Tryz.func55, Tryz.ntmps55
  go_wp2_with (go_at_call 56; refine (HFB.out 2 at_ _ (Below.refl _ _)).mono ?_; rintro e w2 ⟨rfl, hF, hB⟩)
  go_ret
  rw [HR.out]
  exact ⟨hF.1, _, rfl, _, _, _, _, _, _, _, hB⟩
 ·have q1 : ((x.set.progs.length : Int) == 16) = false := by simp; omega
  have HN16 := Lib.hid h16
  clear h16
  obtain ⟨p0, hp0⟩ : ∃ p0, p0 = x.set.progs.length := ⟨_, rfl⟩
  go_enter Tryz.func55, Tryz.ntmps55
  go_upto_region 5 with fail
  go_loopg [9, 10, 11] (s.size - f) (fun gk tv' _ _ W => ∃ n : Nat, tv' = .int .i64 n ∧ f ≤ n ∧ n ≤ s.size ∧ gk + n = s.size ∧ Hid (Body s f n) ∧ W = w)
  case atStart => exact ⟨f, rfl, Nat.le_refl _, hf, by omega, Lib.hid (Body.start s f), rfl⟩
  case round =>
   obtain ⟨n, rfl, hfn, hns, hgk, HBD, rfl⟩ := hrel
   obtain ⟨w, rfl⟩ : ∃ w0, w0 = wr := ⟨_, rfl⟩
   have HG := Lib.hid hgk
   clear hgk
   rcases ends_or s n with ⟨i, he⟩ | hno
   ·have HLN := Lib.hid (rline_hit hs he w)
    have HE := Lib.hid he
    have hi := he.2.1
    have hni := he.1
    have z0 : decide ((i : Int) + 1 < 0) = false := decide_eq_false (by omega)
    obtain ⟨l, hl⟩ : ∃ l, l = s.extract n i := ⟨_, rfl⟩
    rw [← hl] at HLN
    have HLL := Lib.hid hl
    clear he hl
    by_cases hend : l.data.toList = [101, 110, 100]
    ·have q2 : (l.toList == [101, 110, 100]) = true := str_yes hend
     have HDN : Hid (bodyG (s.data.toList.drop f) = some ((s.extract f n).data.toList, s.data.toList.drop (i + 1))) := Lib.hid (HBD.out.done HE.out.1 HE.out.2.1 HE.out.2.2.1 HE.out.2.2.2 (by rw [← HLL.out]; exact hend))
     obtain ⟨t, ht⟩ : ∃ t, t = s.extract f n := ⟨_, rfl⟩
     have htz : t.size ≤ 67108864 := by rw [ht, ByteArray.size_extract]; omega
     have HP := Lib.hid (rparse_at t htz w)
     rw [← ht] at HDN
     have hrun : ∀ W, (Instr.sliceAt 9 (.string s) (some (.int .i64 f)) (some (.int .i64 n)) none).run Tryz.prog W = .ok (.string t) W := by
      intro W
      rw [ht]
      simp [go_sem, hfn, hns]
     clear hend
     obtain ⟨i0, hi', hz0, hz1, hz2⟩ := info_parts info_str
     have hc3 : x.set.progs.length + 1 ≤ maxLen := by unfold maxLen; omega
     have hc4 : (x.set.progs.length + 1) * 16 ≤ 140737488355328 := by omega
     have htl : t.data.toList.length ≤ 65535 := by
      have h1 : t.data.toList.length = t.size := Array.length_toList
      rw [h1, ht, ByteArray.size_extract]; omega
     clear ht htz
     cases hpf : parseF t.data.toList with
     | error y =>
      have hpl2 := parseF_place hpf
      have hy0 := parseF_err hpf
      have HR : Hid (progR x s at_ f = .error (y.1, f + y.2)) := Lib.hid (progR_bad HN16.out HDN.out hpf)
      rw [hpf] at HP
      have q3 : (((y.1 : Nat) : Int) != 0) = true := by simp; omega
      have zz : IntKind.i64.wrap ((f : Int) + (y.2 : Int)) = (f : Int) + (y.2 : Int) := by rw [IntKind.wrap_i64]; omega
      have HP' : Hid (Calls Tryz.prog 87 #[.string t] w fun e w' => e = .returned (.tuple #[.string ⟨#[]⟩, .int .i64 y.1, .int .i64 y.2]) ∧ Below w.heap.size w w') := Lib.hid HP.out
      have HFX := Lib.hid (HFB.out y.1 (f + y.2))
      simp only [Int.natCast_add] at HFX
      clear hpf hpl2 hy0 HP HFB
      go_upto_region 13 with (first | (go_at_call 20; refine HLN.out.mono ?_; rintro e w1 ⟨rfl, rfl⟩) | (go_at_call 87; refine HP'.out.mono ?_; rintro e w1 ⟨rfl, hb1⟩) | (go_at_call 56; refine (HFX.out _ hb1).mono ?_; rintro e wf ⟨rfl, hF, hB⟩))
      have HS2 := Lib.hid ((HS.out.below hb1).frm (HB.out.below hb1 hql) oth_st hF.2)
      have HBL := Lib.hid hB
      have HFF := Lib.hid hF.1
      have hBf : B ≤ wf.heap.size := Nat.le_trans hBw (Nat.le_trans hb1.size hF.2.size)
      have x7' : wf.cell? ⟨q, 7, none⟩ = some (.slice Rp x.set.progs.length cp) := (hB.cell 7).trans rfl
      have hqf := hB.lt
      have HA : Hid (Below wf.heap.size wf (wf.alloc (.cells #[.string ⟨#[]⟩] 9))) := Lib.hid ((Below.refl _ _).alloc (Nat.le_refl _) _)
      have hc2 : ∀ u ∈ ([.string ⟨#[]⟩] : List Value), u.oneCell' = true := by intro u hu; simp at hu; subst hu; rfl
      have hc5 : B ≤ (wf.alloc (.cells #[.string ⟨#[]⟩] 9)).heap.size := by simp; omega
      clear hb1 hF hB
      go_wp2_with (at_builtin; go_must (refine wpList_append_lies _ rfl _ _ 26 rfl B 9 i0 (.string ⟨#[]⟩) 1 16 Tryz.underlying26 (by assumption) hz0 hz1 hz2 rfl (by decide) (.slice Rp x.set.progs.length cp) x.set.progs.length (rows stC x.set.progs) rfl (HS2.out.progs.alloc _) ⟨wf.heap.size, 0, none⟩ 1 1 [.string ⟨#[]⟩] rfl rfl (World.news_of_block (cs := #[.string ⟨#[]⟩]) (t := 9) (fr := (0, 0)) (by simpa using heap_alloc_new wf (.cells #[.string ⟨#[]⟩] 9))) hc2 (by omega) hc3 hc4 hc5 (wf.heap.size + 1) (by simp) ?_; intro gg c' w2 hown2 hg2 hat hlt2; have hR3 := blk_past HBL.out (HS2.out.progs) oth_st.b HA.out hg2; have m6 : w2.cell? ⟨q, 7, none⟩ = some (.slice Rp x.set.progs.length cp) := (hR3.cell 7).trans rfl; have f6 : w2.frozen? ⟨q, 7, none⟩ = false := hR3.frozen 7; have hl3 := hR3.lt))
      go_ret
      rw [HR.out]
      obtain ⟨k1, k2, k3⟩ := HS2.out.put_program HBL.out oth_st hBf hBq HA.out hg2 [] hown2 7
      exact ⟨HFF.out.trans k3, _, rfl, _, _, _, _, _, _, _, k1⟩
     | ok L =>
      have HR : Hid (progR x s at_ f = .ok ({ x with set := { x.set with progs := x.set.progs ++ [bytesOf L] } }, i + 1)) := Lib.hid (by
       rw [progR_ok HN16.out HDN.out hpf, List.length_drop, Array.length_toList]
       have : s.data.size = s.size := rfl
       rw [show s.size - (s.data.size - (i + 1)) = i + 1 by omega])
      rw [hpf] at HP
      obtain ⟨o, ho⟩ : ∃ o : ByteArray, o = ⟨(bytesOf L).toArray⟩ := ⟨_, rfl⟩
      have HP' : Hid (Calls Tryz.prog 87 #[.string t] w fun e w' => e = .returned (.tuple #[.string o, .int .i64 0, .int .i64 0]) ∧ Below w.heap.size w w') := Lib.hid (by rw [ho]; exact HP.out)
      have HO := Lib.hid ho
      clear hpf HP HFB ho
      go_upto_region 13 with (first | (go_at_call 20; refine HLN.out.mono ?_; rintro e w1 ⟨rfl, rfl⟩) | (go_at_call 87; refine HP'.out.mono ?_; rintro e wf ⟨rfl, hb1⟩))
      have HS2 := Lib.hid (HS.out.below hb1)
      have hB := HB.out.below hb1 hql
      have HBL := Lib.hid hB
      have HFF := Lib.hid (hb1.mono hBw)
      have hBf : B ≤ wf.heap.size := Nat.le_trans hBw hb1.size
      have x7' : wf.cell? ⟨q, 7, none⟩ = some (.slice Rp x.set.progs.length cp) := (hB.cell 7).trans rfl
      have hqf := hB.lt
      have HA : Hid (Below wf.heap.size wf (wf.alloc (.cells #[.string o] 9))) := Lib.hid ((Below.refl _ _).alloc (Nat.le_refl _) _)
      have hc2 : ∀ u ∈ ([.string o] : List Value), u.oneCell' = true := by intro u hu; simp at hu; subst hu; rfl
      have hc5 : B ≤ (wf.alloc (.cells #[.string o] 9)).heap.size := by simp; omega
      clear hb1 hB
      go_wp2_with (at_builtin; go_must (refine wpList_append_lies _ rfl _ _ 26 rfl B 9 i0 (.string ⟨#[]⟩) 1 16 Tryz.underlying26 (by assumption) hz0 hz1 hz2 rfl (by decide) (.slice Rp x.set.progs.length cp) x.set.progs.length (rows stC x.set.progs) rfl (HS2.out.progs.alloc _) ⟨wf.heap.size, 0, none⟩ 1 1 [.string o] rfl rfl (World.news_of_block (cs := #[.string o]) (t := 9) (fr := (0, 0)) (by simpa using heap_alloc_new wf (.cells #[.string o] 9))) hc2 (by omega) hc3 hc4 hc5 (wf.heap.size + 1) (by simp) ?_; intro gg c' w2 hown2 hg2 hat hlt2; have hR3 := blk_past HBL.out (HS2.out.progs) oth_st.b HA.out hg2; have m6 : w2.cell? ⟨q, 7, none⟩ = some (.slice Rp x.set.progs.length cp) := (hR3.cell 7).trans rfl; have f6 : w2.frozen? ⟨q, 7, none⟩ = false := hR3.frozen 7; have hl3 := hR3.lt))
      go_ret
      rw [HR.out]
      obtain ⟨k1, k2, k3⟩ := HS2.out.put_program HBL.out oth_st hBf hBq HA.out hg2 (bytesOf L) (by rw [HO.out] at hown2; exact hown2) 7
      exact ⟨HFF.out.trans k3, _, rfl, by simp, _, _, _, _, _, _, k1, k2⟩
    ·have q2 : (l.toList == [101, 110, 100]) = false := str_no hend
     have HNX : Hid (Body s f (i + 1)) := Lib.hid (HBD.out.next hfn HE.out.1 HE.out.2.1 HE.out.2.2.1 HE.out.2.2.2 (by rw [← HLL.out]; exact hend))
     clear hend
     go_wp2_with (go_at_call 20; refine HLN.out.mono ?_; rintro e w1 ⟨rfl, rfl⟩)
     go_roundg (s.size - (i + 1))
     case measure => have := HG.out; omega
     case rel => exact ⟨i + 1, by simp, by omega, by omega, by omega, HNX.out, rfl⟩
   ·have HLN := Lib.hid (rline_miss hs hns hno w)
    have HR : Hid (progR x s at_ f = .error (9, s.size)) := Lib.hid (progR_none HN16.out (HBD.out.none_ hno))
    clear hno
    go_wp2_with (first | (go_at_call 20; refine HLN.out.mono ?_; rintro e w1 ⟨rfl, rfl⟩) | (go_at_call 56; refine (HFB.out 9 s.size _ (Below.refl _ _)).mono ?_; rintro e w2 ⟨rfl, hF, hB⟩))
    go_ret
    rw [HR.out]
    exact ⟨hF.1, _, rfl, _, _, _, _, _, _, _, hB⟩
end Go.Proofs.YtiheggkkgbfndaaGreatDoor
