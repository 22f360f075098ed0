/- carousellaw24: ScriptReads, walked. -/
import Derived.Test.YtiheggkkgbfndaaGreatDoorK41
import Derived.Test.YtiheggkkgbfndaaGreatDoorK34
import Derived.Test.YtiheggkkgbfndaaGreatDoorK24
namespace Go.Proofs.YtiheggkkgbfndaaGreatDoor
open Go.RowKit Go.Joins Go.ChangeShapes Go.WideShapes Go.Deep
set_option linter.unusedVariables false
set_option linter.unusedSimpArgs false
set_option maxRecDepth 100000
theorem set_shape {W : World} {C : Nat} {s : PSet} {rv pv tv : Value} (h : SetRd W C s rv pv tv) : ∃ Rr cr Rp cp Rt ct, rv = .slice Rr s.regs.length cr ∧ pv = .slice Rp s.progs.length cp ∧ tv = .slice Rt s.thr.length ct := by
 obtain ⟨⟨Rr, cr, h1, _⟩, ⟨Rp, cp, h2, _⟩, ⟨Rt, ct, _, h3, _⟩⟩ := h
 exact ⟨Rr, cr, Rp, cp, Rt, ct, h1, h2, h3⟩
theorem ListRd.back {W : World} {C : Nat} {l : List Nat} {v : Value} (h : ListRd W C i64C (l.map fun (t : Nat) => (t : Int)) v) : ListRd W C natC l v := by
 obtain ⟨R, c, h1, h2, h3⟩ := h
 rw [List.length_map] at h1 h2
 rw [rows_map, List.length_map] at h3
 exact ⟨R, c, h1, h2, h3⟩
theorem RThrRd.back {W : World} {C : Nat} {l : List PJob} {v : Value} (h : RThrRd W C (l.map PJob.raw) v) : ThrRd W C l v := by
 obtain ⟨R, c, av, h1, h2, h3, h4, h5⟩ := h
 rw [List.length_map] at h1 h2 h3
 rw [List.zip_map_left, rows_map, List.length_map] at h4
 refine ⟨R, c, av, h1, h2, h3, h4, fun j x a hx ha => ?_⟩
 exact h5 j x.raw a (by rw [List.getElem?_map, hx]; rfl) ha
theorem RSetRd.back {W : World} {C : Nat} {s : PSet} {rv pv tv : Value} (h : RSetRd W C s.raw rv pv tv) : SetRd W C s rv pv tv := by
 obtain ⟨⟨R, c, a1, a2, a3⟩, b, ⟨R', c', vs, d1, d2, d3, d4, d5⟩⟩ := h
 have e : s.raw.thr.length = s.thr.length := by
  show (s.thr.map fun l => l.map PJob.raw).length = _
  rw [List.length_map]
 rw [e] at d1 d2 d3 d4
 refine ⟨⟨R, c, a1, a2, a3⟩, b, ⟨R', c', vs, d1, d2, d3, d4, fun i l v hl hv => ?_⟩⟩
 refine RThrRd.back (d5 i _ v ?_ hv)
 show (s.thr.map fun l => l.map PJob.raw)[i]? = _
 rw [List.getElem?_map, hl]
 rfl
theorem RLinesRd.back {W : World} {C : Nat} {l : List PLine} {lv : Value} (h : RLinesRd W C (l.map PLine.raw) lv) : LinesRd W C l lv := by
 obtain ⟨h0, R, c, vs, h1, h2, h3, h4⟩ := h
 rw [List.length_map] at h0 h1 h2
 rw [List.zip_map_left, rows_map, List.length_map] at h3
 refine ⟨h0, R, c, vs, h1, h2, h3, fun j x a hx ha => ?_⟩
 exact (h4 j x.raw a (by rw [List.getElem?_map, hx]; rfl) ha).back
theorem prog_all : ∀ l : List (List UInt8), (¬ ∃ p ∈ l, progText p = none) → ∃ ps : List (List AOp), l = ps.map bytesOf ∧ ∀ L ∈ ps, Enc L ∧ sizeF L ≤ 512
 | [], _ => ⟨[], rfl, fun L h => by cases h⟩
 | p :: l, h => by
  obtain ⟨ps, h1, h2⟩ := prog_all l fun ⟨q, hq, hn⟩ => h ⟨q, List.mem_cons_of_mem _ hq, hn⟩
  cases hp : progText p with
  | none => exact absurd ⟨p, by simp, hp⟩ h
  | some t =>
   obtain ⟨L, _, g1, g2, g3, _⟩ := progText_back hp
   refine ⟨L :: ps, by rw [h1, ← g3]; rfl, fun M hM => ?_⟩
   rcases List.mem_cons.1 hM with rfl | hM
   ·exact ⟨g1, g2⟩
   ·exact h2 M hM
def PrintAt (s : RSet) (l : List RLine) (e : Ending) : Prop := ∀ (B C : Nat) (rv pv tv lv : Value) (W : World), C ≤ W.heap.size → RSetRd W C s rv pv tv → RLinesRd W C l lv → EnvIn B W → Calls Tryz.prog 13 #[.agg (setupC s.cfg rv pv tv), lv] W fun e' w' => e' = e ∧ Below W.heap.size W w'
def okE (t : List UInt8) : Ending := .returned (.tuple #[.string ⟨t.toArray⟩, .int .i64 0])
def noE (n : Int) : Ending := .returned (.tuple #[.string ⟨#[]⟩, .int .i64 n])
theorem sprint_two {s : RSet} {l : List RLine} (hm : manyR l ≤ 9223372036854775807) (hln : l.length ≤ 1000000000000) (hpl : ∀ p ∈ s.progs, p.length ≤ 4611686018427387904) (h64 : ∀ t ∈ s.thr, ∀ j ∈ t, ∀ v ∈ j.prog :: j.args, i64ok v) :
  (∃ (s' : PSet) (ps : List (List AOp)) (l' : List PLine), s = s'.raw ∧ l = l'.map PLine.raw ∧ SetOk s' ps l' ∧ (textS s' (ps.map printF) l').length ≤ 65535 ∧ PrintAt s l (okE (textS s' (ps.map printF) l'))) ∨
  (∃ n : Int, (n = 1 ∨ n = 2) ∧ PrintAt s l (noE n)) := by
 by_cases hok : mayR s ∧ linedR l
 ·obtain ⟨hmay, hlin⟩ := hok
  by_cases hno : ∃ p ∈ s.progs, progText p = none
  ·refine .inr ⟨1, .inl rfl, fun B C rv pv tv lv W hC hS hL hE => ?_⟩
   refine (sprint_any s l C rv pv tv lv W hC hS hL hm hE hmay hlin hpl h64 hln).mono ?_
   rintro e w' ⟨h1, h2⟩
   refine ⟨?_, h2⟩
   rcases h1 with ⟨q, h3, _⟩ | ⟨_, h3⟩
   ·exfalso
    obtain ⟨p, hp, hpn⟩ := hno
    have : progText p ∈ s.progs.map progText := List.mem_map.2 ⟨p, hp, rfl⟩
    rw [h3, hpn] at this
    obtain ⟨x, _, hx⟩ := List.mem_map.1 this
    cases hx
   ·exact h3
  ·obtain ⟨ps, h1, h2⟩ := prog_all s.progs hno
   obtain ⟨s', l', rfl, rfl, hs⟩ := set_raw hmay hlin h1 h2 (fun t ht j hj v hv => h64 t ht j hj v (List.mem_cons_of_mem _ hv))
   by_cases h65 : (textS s' (ps.map printF) l').length ≤ 65535
   ·refine .inl ⟨s', ps, l', rfl, rfl, hs, h65, fun B C rv pv tv lv W hC hS hL hE => ?_⟩
    refine (sprint_any _ _ C rv pv tv lv W hC hS hL hm hE hmay hlin hpl h64 hln).mono ?_
    rintro e w' ⟨g1, g2⟩
    refine ⟨?_, g2⟩
    rcases g1.text hs with ⟨_, g⟩ | ⟨g, _⟩
    ·exact g
    ·omega
   ·refine .inr ⟨2, .inr rfl, fun B C rv pv tv lv W hC hS hL hE => ?_⟩
    refine (sprint_any _ _ C rv pv tv lv W hC hS hL hm hE hmay hlin hpl h64 hln).mono ?_
    rintro e w' ⟨g1, g2⟩
    refine ⟨?_, g2⟩
    rcases g1.text hs with ⟨g, _⟩ | ⟨_, g⟩
    ·omega
    ·exact g
 ·refine .inr ⟨1, .inl rfl, fun B C rv pv tv lv W hC hS hL hE => ?_⟩
  exact sprint_no s l C rv pv tv lv W hC hS hL hm hok
end Go.Proofs.YtiheggkkgbfndaaGreatDoor
namespace Go.Proofs.YtiheggkkgbfndaaGreatDoor
open Go Go.Lib
set_option linter.unusedVariables false
set_option linter.unusedSimpArgs false
theorem runL_lines {x x' : SSt} {w : List (List UInt8)} (h : runL x w = .ok x') : x'.lines.length ≤ x.lines.length + 1 := by
 unfold runL at h
 split at h
 ·split at h
  ·cases h
  ·split at h
   ·cases h
   ·injection h with h
    subst h
    simp
 ·cases h
theorem plainL_lines {x x' : SSt} {l : List UInt8} {w : List (List UInt8)} (h : plainL x l w = .ok x') : x'.lines.length ≤ x.lines.length + 1 := by
 unfold plainL at h
 split at h
 ·split at h
  ·injection h with h
   subst h
   exact Nat.le_succ _
  ·cases h
 ·split at h
  ·split at h
   ·cases h
   ·injection h with h
    subst h
    exact Nat.le_succ _
  ·split at h
   ·split at h
    ·injection h with h
     subst h
     exact Nat.le_succ _
    ·cases h
   ·split at h
    ·exact runL_lines h
    ·split at h
     ·injection h with h
      subst h
      simp
     ·cases h
theorem goesL_lines : ∀ {f pos part : Nat} {x y : SSt} {t : List UInt8}, goesL f pos part x t = .ok y → y.lines.length ≤ x.lines.length + f
 | 0, pos, part, x, y, t, h => by
  injection h with h
  subst h
  exact Nat.le_refl _
 | f + 1, pos, part, x, y, t, h => by
  unfold goesL at h
  split at h
  ·injection h with h
   subst h
   exact Nat.le_add_right _ _
  ·cases hn : nextL t with
   | none => rw [hn] at h; cases h
   | some z =>
    obtain ⟨l, r⟩ := z
    rw [hn] at h
    simp only at h
    split at h
    ·cases h
    ·split at h
     ·split at h
      ·cases h
      ·cases hb : bodyL (r.length + 1) r with
       | none => rw [hb] at h; cases h
       | some z =>
        obtain ⟨b, r'⟩ := z
        rw [hb] at h
        simp only at h
        cases hL : parseF b with
        | error e => rw [hL] at h; cases h
        | ok L =>
         rw [hL] at h
         simp only at h
         have h1 := goesL_lines h
         have h2 : y.lines.length ≤ x.lines.length + f := h1
         omega
     ·cases hp : plainL x l (splitF 32 l) with
      | error e => rw [hp] at h; cases h
      | ok x' =>
       rw [hp] at h
       simp only at h
       have h1 := goesL_lines h
       have h2 := plainL_lines hp
       omega
theorem parseS_lines {t : List UInt8} {x : SSt} (h : parseS t = .ok x) : x.lines.length ≤ 65536 := by
 unfold parseS at h
 split at h
 ·cases h
 ·rename_i h65
  cases hn : nextL t with
  | none => rw [hn] at h; cases h
  | some z =>
   obtain ⟨l, r⟩ := z
   have hl := (nextL_len hn).1
   rw [hn] at h
   simp only at h
   cases hc : configL l with
   | none => rw [hc] at h; cases h
   | some c =>
    rw [hc] at h
    simp only at h
    cases hr : goesL (r.length + 1) (l.length + 1) 1 ⟨⟨c, [], [], []⟩, [], 0⟩ r with
    | error e => rw [hr] at h; cases h
    | ok y =>
     rw [hr] at h
     simp only at h
     split at h
     ·injection h with h
      subst h
      have h1 : y.lines.length ≤ 0 + (r.length + 1) := goesL_lines hr
      have h2 : t.length = l.length + (r.length + 1) := by rw [hl, List.length_append, List.length_cons]
      omega
     ·cases h
end Go.Proofs.YtiheggkkgbfndaaGreatDoor
namespace Go.Proofs.YtiheggkkgbfndaaGreatDoor
open Go.RowKit Go.Joins Go.ChangeShapes Go.WideShapes Go.Deep
set_option linter.unusedVariables false
set_option linter.unusedSimpArgs false
set_option maxRecDepth 100000
def ReadsAt (w : World) (t : ByteArray) (x : PSet) (l : List PLine) : Prop := ∀ W, Below w.heap.size w W → Calls Tryz.prog 9 #[.string t] W fun e w' => Below W.heap.size W w' ∧ ∃ Rr cr Rp cp Rt ct Rl cl, e = .returned (.tuple #[.agg (setupC x.cfg (.slice Rr x.regs.length cr) (.slice Rp x.progs.length cp) (.slice Rt x.thr.length ct)), .slice Rl l.length cl, .int .i64 0, .int .i64 0]) ∧ SetRd w' w'.heap.size x (.slice Rr x.regs.length cr) (.slice Rp x.progs.length cp) (.slice Rt x.thr.length ct) ∧ LinesRd w' w'.heap.size l (.slice Rl l.length cl)
theorem reads_at {C : Nat} {w : World} (hE : EnvP C w) {t : ByteArray} {x : SSt} (h : parseS t.data.toList = .ok x) : ReadsAt w t x.set x.lines := fun W hW => (pparse_any t W (hE.later hW)).mono fun e w' ⟨hb, hp⟩ => by
 rw [h] at hp
 obtain ⟨rv, pv, tv, lv, T, L, h2, h3⟩ := hp
 have h4 := h3.set_rd
 have h5 := h3.lines_rd
 obtain ⟨Rr, cr, Rp, cp, Rt, ct, rfl, rfl, rfl⟩ := set_shape h4
 obtain ⟨_, Rl, cl, _, rfl, _⟩ := id h5
 exact ⟨hb, Rr, cr, Rp, cp, Rt, ct, Rl, cl, h2, h4, h5⟩
def HalfA (w : World) (t : ByteArray) (x : PSet) (l : List PLine) : Prop := ReadsAt w t x l ∧ ∀ W rv pv tv lv, Below w.heap.size w W → SetRd W W.heap.size x rv pv tv → LinesRd W W.heap.size l lv → Calls Tryz.prog 13 #[.agg (setupC x.cfg rv pv tv), lv] W fun e w' => e = .returned (.tuple #[.string t, .int .i64 0]) ∧ Below W.heap.size W w'
theorem half_ok {C : Nat} {w : World} (hE : EnvP C w) {x : PSet} {ps : List (List AOp)} {l : List PLine} (h : SetOk x ps l) (hn : l.length ≤ 1000000000000) (hl : (textS x (ps.map printF) l).length ≤ 65535) : HalfA w ⟨(textS x (ps.map printF) l).toArray⟩ x l := by
 refine ⟨reads_at hE (x := ⟨x, l, stepsN l⟩) (parse_text h hl), fun W rv pv tv lv hW hS hL => ?_⟩
 refine (pprint_ok (B := C) h hn W.heap.size rv pv tv lv W (Nat.le_refl _) hS hL (hE.later hW).env).mono ?_
 rintro e w' ⟨h1, h2⟩
 refine ⟨?_, h2⟩
 rcases h1 with ⟨_, h1⟩ | ⟨h1, _⟩
 ·exact h1
 ·omega
def FullA (w : World) (x : PSet) (l : List PLine) : Prop := ∀ W rv pv tv lv, Below w.heap.size w W → SetRd W W.heap.size x rv pv tv → LinesRd W W.heap.size l lv → Calls Tryz.prog 13 #[.agg (setupC x.cfg rv pv tv), lv] W fun e w' => e = .returned (.tuple #[.string ⟨#[]⟩, .int .i64 2]) ∧ Below W.heap.size W w'
def NoAt (w : World) (t : ByteArray) (y1 y2 : Nat) : Prop := ∀ W, Below w.heap.size w W → Calls Tryz.prog 9 #[.string t] W fun e w' => Below W.heap.size W w' ∧ e = .returned (.tuple #[.agg #[.int .i64 0, .int .i64 0, .int .i64 0, .int .i64 0, .bool false, .int .i64 0, .slice none 0 0, .slice none 0 0, .slice none 0 0], .slice none 0 0, .int .i64 y1, .int .i64 y2])
theorem back_tail {C : Nat} {w : World} (hE : EnvP C w) (t : ByteArray) : (∃ y1 y2 : Nat, y1 ≠ 0 ∧ y2 ≤ t.size ∧ NoAt w t y1 y2) ∨ ∃ x l, ReadsAt w t x l ∧ ((∃ ty, HalfA w ty x l) ∨ FullA w x l) := by
 cases hp : parseS t.data.toList with
 | error y =>
  have h9 := parseS_err hp
  refine .inl ⟨y.1, y.2, h9.1, by rw [size_list]; exact h9.2, fun W hW => (pparse_any t W (hE.later hW)).mono fun e w' ⟨hb, h⟩ => ?_⟩
  rw [hp] at h
  exact ⟨hb, h⟩
 | ok x =>
  obtain ⟨ps, hok, _⟩ := parseS_ok hp
  have hn := parseS_lines hp
  refine .inr ⟨x.set, x.lines, reads_at hE hp, ?_⟩
  by_cases hl : (textS x.set (ps.map printF) x.lines).length ≤ 65535
  ·exact .inl ⟨_, half_ok hE hok (by omega) hl⟩
  ·refine .inr fun W rv pv tv lv hW hS hL => ?_
   refine (pprint_ok (B := C) hok (by omega) W.heap.size rv pv tv lv W (Nat.le_refl _) hS hL (hE.later hW).env).mono ?_
   rintro e w' ⟨h1, h2⟩
   refine ⟨?_, h2⟩
   rcases h1 with ⟨h1, _⟩ | ⟨_, h1⟩
   ·omega
   ·exact h1
end Go.Proofs.YtiheggkkgbfndaaGreatDoor
