/- Print of what was read: the readers of what was read as Print meets them; Print's answer. -/
import Derived.Test.YtiheggkkgbfndaaGreatDoorK40
import Derived.Test.YtiheggkkgbfndaaGreatDoorK36
import Derived.Test.YtiheggkkgbfndaaGreatDoorK39
import Derived.Test.YtiheggkkgbfndaaGreatDoorK25
import Derived.Test.YtiheggkkgbfndaaGreatDoorK35
namespace Go.Proofs.YtiheggkkgbfndaaGreatDoor
open Go.RowKit Go.Joins Go.ChangeShapes Go.WideShapes Go.Deep
set_option linter.unusedVariables false
set_option linter.unusedSimpArgs false
set_option maxRecDepth 100000
theorem rows_map {α β : Type} (enc : β → List Value) (f : α → β) (l : List α) : rows enc (l.map f) = rows (fun x => enc (f x)) l := by
 unfold rows
 rw [List.flatMap_map]
theorem ListRd.raw {W : World} {C : Nat} {l : List Nat} {v : Value} (h : ListRd W C natC l v) : ListRd W C i64C (l.map fun (t : Nat) => (t : Int)) v := by
 obtain ⟨R, c, h1, h2, h3⟩ := h
 refine ⟨R, c, by rw [List.length_map]; exact h1, by rw [List.length_map]; exact h2, ?_⟩
 rw [rows_map, List.length_map]
 exact h3
theorem ThrRd.raw {W : World} {C : Nat} {l : List PJob} {v : Value} (h : ThrRd W C l v) : RThrRd W C (l.map PJob.raw) v := by
 obtain ⟨R, c, av, h1, h2, h3, h4, h5⟩ := h
 refine ⟨R, c, av, by rw [List.length_map]; exact h1, by rw [List.length_map]; exact h2, by rw [List.length_map]; exact h3, ?_, ?_⟩
 ·rw [List.zip_map_left, rows_map, List.length_map]
  exact h4
 ·intro j x a hx ha
  rw [List.getElem?_map] at hx
  cases hj : l[j]? with
  | none => rw [hj] at hx; cases hx
  | some y =>
   rw [hj] at hx
   injection hx with hx
   subst hx
   exact h5 j y a hj ha
theorem SetRd.raw {W : World} {C : Nat} {s : PSet} {rv pv tv : Value} (h : SetRd W C s rv pv tv) : RSetRd W C s.raw rv pv tv := by
 obtain ⟨⟨R, c, a1, a2, a3⟩, b, ⟨R', c', vs, d1, d2, d3, d4, d5⟩⟩ := h
 refine ⟨⟨R, c, a1, a2, a3⟩, b, ⟨R', c', vs, ?_, ?_, ?_, ?_, ?_⟩⟩
 ·show tv = .slice R' (s.thr.map fun l => l.map PJob.raw).length c'
  rw [List.length_map]
  exact d1
 ·show (s.thr.map fun l => l.map PJob.raw).length ≤ _
  rw [List.length_map]
  exact d2
 ·show vs.length = (s.thr.map fun l => l.map PJob.raw).length
  rw [List.length_map]
  exact d3
 ·show Reads W C 1 R' (s.thr.map fun l => l.map PJob.raw).length _
  rw [List.length_map]
  exact d4
 ·intro i l v hl hv
  have hl : (s.thr.map fun l => l.map PJob.raw)[i]? = some l := hl
  rw [List.getElem?_map] at hl
  cases hj : s.thr[i]? with
  | none => rw [hj] at hl; cases hl
  | some y =>
   rw [hj] at hl
   injection hl with hl
   subst hl
   exact (d5 i y v hj hv).raw
theorem LinesRd.raw {W : World} {C : Nat} {l : List PLine} {lv : Value} (h : LinesRd W C l lv) : RLinesRd W C (l.map PLine.raw) lv := by
 obtain ⟨h0, R, c, vs, h1, h2, h3, h4⟩ := h
 refine ⟨by rw [List.length_map]; exact h0, R, c, vs, by rw [List.length_map]; exact h1, by rw [List.length_map]; exact h2, ?_, ?_⟩
 ·rw [List.zip_map_left, rows_map, List.length_map]
  exact h3
 ·intro j x a hx ha
  rw [List.getElem?_map] at hx
  cases hj : l[j]? with
  | none => rw [hj] at hx; cases hx
  | some y =>
   rw [hj] at hx
   injection hx with hx
   subst hx
   exact (h4 j y a hj ha).raw
theorem progText_of {L : List AOp} (he : Enc L) (hs : sizeF L ≤ 512) : progText (bytesOf L) = some (printF L) := by
 refine progText_some ?_ ?_
 ·rw [bytesOf_size]; exact hs
 ·exact dec_all L he
theorem progTexts {ps : List (List AOp)} (h : ∀ L ∈ ps, Enc L ∧ sizeF L ≤ 512) : (ps.map bytesOf).map progText = (ps.map printF).map some := by
 rw [List.map_map, List.map_map]
 exact List.map_congr_left fun L hL => progText_of (h L hL).1 (h L hL).2
theorem some_inj {α : Type} : ∀ {a b : List α}, a.map some = b.map some → a = b
 | [], [], _ => rfl
 | [], _ :: _, h => by simp at h
 | _ :: _, [], h => by simp at h
 | x :: a, y :: b, h => by
  simp only [List.map_cons, List.cons.injEq, Option.some.injEq] at h
  rw [h.1, some_inj h.2]
def TextE (t : List UInt8) (e : Ending) : Prop := (t.length ≤ 65535 ∧ e = .returned (.tuple #[.string ⟨t.toArray⟩, .int .i64 0])) ∨ (65535 < t.length ∧ e = .returned (.tuple #[.string ⟨#[]⟩, .int .i64 2]))
theorem PrintE.text {s : PSet} {ps : List (List AOp)} {l : List PLine} {e : Ending} (h : SetOk s ps l) (he : PrintE s.raw (l.map PLine.raw) e) : TextE (textS s (ps.map printF) l) e := by
 have hp : s.raw.progs.map progText = (ps.map printF).map some := by
  show s.progs.map progText = _
  rw [h.progs]
  exact progTexts h.enc
 rcases he with ⟨q, h1, h2⟩ | ⟨⟨p, h1, h2⟩, _⟩
 ·rw [hp] at h1
  obtain rfl := (some_inj h1).symm
  rw [textR_raw] at h2
  exact h2
 ·have : progText p ∈ s.raw.progs.map progText := List.mem_map.2 ⟨p, h1, rfl⟩
  rw [hp, h2] at this
  obtain ⟨x, _, hx⟩ := List.mem_map.1 this
  cases hx
theorem pprint_ok {B : Nat} {s : PSet} {ps : List (List AOp)} {l : List PLine} (h : SetOk s ps l) (hn : l.length ≤ 1000000000000) (C : Nat) (rv pv tv lv : Value) (w : World) (hC : C ≤ w.heap.size) (hS : SetRd w C s rv pv tv) (hL : LinesRd w C l lv) (hE : EnvIn B w) :
  Calls Tryz.prog 13 #[.agg (setupC s.cfg rv pv tv), lv] w fun e w' => TextE (textS s (ps.map printF) l) e ∧ Below w.heap.size w w' := by
 obtain ⟨hm, hl⟩ := PSet.may h
 refine (sprint_any s.raw (l.map PLine.raw) C rv pv tv lv w hC hS.raw hL.raw (by have := hl.2; omega) hE hm hl ?_ ?_ (by rw [List.length_map]; exact hn)).mono fun e w' ⟨h1, h2⟩ => ⟨h1.text h, h2⟩
 ·intro p hp
  have hp : p ∈ s.progs := hp
  rw [h.progs] at hp
  obtain ⟨L, hL, rfl⟩ := List.mem_map.1 hp
  rw [bytesOf_size]
  have := (h.enc L hL).2
  omega
 ·intro t ht j hj v hv
  obtain ⟨t', ht', rfl⟩ := List.mem_map.1 ht
  obtain ⟨j', hj', rfl⟩ := List.mem_map.1 hj
  have hjo := (h.jobs t' ht').2 j' hj'
  have hpl : s.progs.length ≤ 16 := by rw [h.progs, List.length_map]; exact h.many
  rcases List.mem_cons.1 hv with rfl | hv
  ·have := hjo.1
   show i64ok ((j'.prog : Nat) : Int)
   unfold i64ok
   omega
  ·exact hjo.2.2 v hv
end Go.Proofs.YtiheggkkgbfndaaGreatDoor
namespace Go.Proofs.YtiheggkkgbfndaaGreatDoor
open Go.RowKit Go.Joins Go.ChangeShapes Go.WideShapes Go.ChangeAt Go.Deep
set_option linter.unusedVariables false
set_option linter.unusedSimpArgs false
set_option maxRecDepth 100000
theorem bulk_all {H : Type} (ds : List (DataW H)) (n : Nat) (D : Nat → DataW H) (h : ds = (List.range n).map D) {α : Type} (F : Nat → α) (sz : α → Nat) (hs : ∀ i, i < n → sz (F i) ≤ Rows.uptoBulk (D i)) : (((List.range n).map F).map sz).sum ≤ Rows.uptoBulkAll ds := by
 subst h
 have : ∀ l : List Nat, (∀ i ∈ l, i < n) → ((l.map F).map sz).sum ≤ Rows.uptoBulkAll (l.map D) := by
  intro l
  induction l with
  | nil => intro _; simp
  | cons a r ih =>
   intro hl
   have h1 := ih fun i hi => hl i (List.mem_cons_of_mem _ hi)
   have h2 := hs a (hl a (by simp))
   simp only [List.map_cons, List.sum_cons, Rows.uptoBulkAll]
   omega
 exact this _ fun i hi => List.mem_range.1 hi
theorem rows_open {α : Type} [Inhabited α] {H : Type} {enc : TypeId × Value → H} {W : World} {n k : Nat} {v : Value} {y : DataW H × List MemPlace} {t e : TypeId} (f : α → List Value) (Good : α → Prop) (sz : α → Nat) (hk : ∀ x, (f x).length = k) (hk0 : 0 < k) (ht : Tryz.prog.underlying t = some (.slice e)) (hC : Tryz.prog.cellsOf e = k)
  (hel : ∀ {n cs y}, DataW.trod enc Tryz.prog W 0 (fun _ => true) true n e cs = some y → ∃ z, cs = f z ∧ Good z ∧ sz z ≤ Rows.uptoBulk y.1) (h : DataW.trod enc Tryz.prog W 0 (fun _ => true) true n t [v] = some y) :
  ∃ A len cap l, v = .slice A len cap ∧ l.length = len ∧ len ≤ cap ∧ cap ≤ maxLen ∧ Reads W W.heap.size k A len (rows f l) ∧ (∀ z ∈ l, Good z) ∧ (l.map sz).sum + 1 ≤ Rows.uptoBulk y.1 := by
 rcases open_slice ht h with ⟨hcs, hy⟩ | ⟨a, len, cap, m, n', D, Pl, hcs, hb, hl, hm, hmm, hx, hi⟩
 ·simp at hcs
  subst hcs
  exact ⟨none, 0, 0, [], rfl, rfl, Nat.le_refl _, Nat.zero_le _, ⟨by simp [rows], fun h => absurd h (by omega)⟩, by simp, by rw [hy]; simp [Rows.uptoBulk]⟩
 ·simp at hcs
  subst hcs
  rw [hC] at hi
  have hmc : m = cap := by simpa using hmm
  subst hmc
  have hz : ∀ i, i < len → ∃ z : α, (Good z ∧ sz z ≤ Rows.uptoBulk (D i)) ∧ ∀ t u, t < k → (f z)[t]? = some u → W.cell? (a.add (i * k + t)) = some u := by
   intro i hil
   obtain ⟨cs', hc, ht⟩ := hi i (by omega)
   obtain ⟨z, rfl, hg, hs⟩ := hel ht
   obtain ⟨_, hcl, hat⟩ := World.cells?_some hc
   refine ⟨z, ⟨hg, hs⟩, fun t u ht hu => ?_⟩
   have := hat t ht
   rw [add_of_add] at this
   rw [this, hu]
  obtain ⟨F, hF⟩ : ∃ F : Nat → α, ∀ i, i < len → (Good (F i) ∧ sz (F i) ≤ Rows.uptoBulk (D i)) ∧ ∀ t u, t < k → (f (F i))[t]? = some u → W.cell? (a.add (i * k + t)) = some u :=
   ⟨fun i => if h : i < len then (hz i h).choose else default, fun i hil => by simp only [dif_pos hil]; exact (hz i hil).choose_spec⟩
  have hlen : ((List.range len).map F).length = len := by simp
  have hcell : ∀ j u, (rows f ((List.range len).map F))[j]? = some u → W.cell? (a.add j) = some u := by
   intro j u hu
   have hj : j < (rows f ((List.range len).map F)).length := by
    rcases Nat.lt_or_ge j (rows f ((List.range len).map F)).length with h | h
    ·exact h
    ·rw [List.getElem?_eq_none h] at hu; cases hu
   rw [rows_length f k hk, hlen] at hj
   have h8 : j / k < len := Nat.div_lt_of_lt_mul (by rw [Nat.mul_comm]; exact hj)
   have ht : j % k < k := Nat.mod_lt _ hk0
   have e : j = j / k * k + j % k := by rw [Nat.mul_comm]; exact (Nat.div_add_mod j k).symm
   rw [e, rows_at f k hk _ (j / k) (j % k) (by rw [hlen]; exact h8) ht] at hu
   rw [e]
   refine (hF (j / k) h8).2 (j % k) u ht ?_
   rw [← hu]
   simp
  refine ⟨some a, len, m, (List.range len).map F, rfl, hlen, hl, hm, ⟨by rw [rows_length f k hk, hlen], fun hn => ⟨a, rfl, ?_, hcell⟩⟩, ?_, ?_⟩
  ·have h0 := hcell 0 _ (List.getElem?_eq_getElem (by rw [rows_length f k hk, hlen]; exact Nat.mul_pos hn hk0))
   have := World.block_lt_of_cell? W _ h0
   rwa [block_of_add] at this
  ·intro z hz'
   simp only [List.mem_map, List.mem_range] at hz'
   obtain ⟨i, hil, rfl⟩ := hz'
   exact (hF i hil).1.1
  ·have := bulk_all ((List.range len).map D) len D rfl F sz fun i hi => (hF i hi).1.2
   rw [hx]
   simp only [Rows.uptoBulk]
   omega
theorem bulk_agg {H : Type} (xs : List (DataW H)) (i : Nat) (x : DataW H) (h : xs[i]? = some x) : Rows.uptoBulk x ≤ Rows.uptoBulkAll xs := by
 induction xs generalizing i with
 | nil => simp at h
 | cons a r ih =>
  unfold Rows.uptoBulkAll
  cases i with
  | zero =>
   have : a = x := by simpa using h
   rw [this]
   omega
  | succ i =>
   have := ih i (by simpa using h)
   omega
theorem co_job : Tryz.prog.cellsOf 53 = 2 := by kernel_rfl
theorem co_line : Tryz.prog.cellsOf 49 = 2 := by kernel_rfl
theorem co_i64s : Tryz.prog.cellsOf 51 = 1 := by kernel_rfl
theorem co_ints : Tryz.prog.cellsOf 47 = 1 := by kernel_rfl
theorem co_strs : Tryz.prog.cellsOf 26 = 1 := by kernel_rfl
theorem co_str : Tryz.prog.cellsOf 9 = 1 := by kernel_rfl
theorem co_jobs : Tryz.prog.cellsOf 50 = 1 := by kernel_rfl
theorem co_jobss : Tryz.prog.cellsOf 27 = 1 := by kernel_rfl
theorem co_setup : Tryz.prog.cellsOf 29 = 9 := by kernel_rfl
theorem wf_i64 {z : Int} (h : (Lit.int .i64 z).wf = true) : i64ok z := by
 have h2 : IntKind.i64.min ≤ z ∧ z ≤ 9223372036854775807 := by simpa [Lit.wf] using h
 exact ⟨h2.1, h2.2⟩

section
variable {H : Type} {enc : TypeId × Value → H} {W : World}
theorem ints_elt {t : TypeId} (ht : Tryz.prog.underlying t = some (.int .i64)) {n : Nat} {cs : List Value} {y : DataW H × List MemPlace} (h : DataW.trod enc Tryz.prog W 0 (fun _ => true) true n t cs = some y) : ∃ z : Int, cs = i64C z ∧ i64ok z ∧ 1 ≤ Rows.uptoBulk y.1 := by
 obtain ⟨z, h1, h2, h3⟩ := DataW.trod_int ht h
 exact ⟨z, h1, wf_i64 h3, by rw [h2]; exact Nat.le_refl _⟩
theorem sum_ones {α : Type} (l : List α) : (l.map fun _ => 1).sum = l.length := by
 induction l with
 | nil => rfl
 | cons a l ih => simp only [List.map_cons, List.sum_cons, List.length_cons, ih]; omega
theorem nums_open {t e : TypeId} (ht : Tryz.prog.underlying t = some (.slice e)) (he : Tryz.prog.underlying e = some (.int .i64)) (hC : Tryz.prog.cellsOf e = 1) {n : Nat} {v : Value} {y : DataW H × List MemPlace} (h : DataW.trod enc Tryz.prog W 0 (fun _ => true) true n t [v] = some y) :
  ∃ l : List Int, ListRd W W.heap.size i64C l v ∧ (∀ z ∈ l, i64ok z) ∧ l.length + 1 ≤ Rows.uptoBulk y.1 := by
 obtain ⟨A, len, cap, l, rfl, hl, h1, h2, hR, hG, hb⟩ := rows_open (α := Int) (k := 1) i64C i64ok (fun _ => 1) (fun _ => rfl) (by omega) ht hC (fun h => ints_elt he h) h
 have hmax : maxLen = 9223372036854775807 := rfl
 rw [sum_ones] at hb
 subst hl
 have h9 : l.length ≤ 9223372036854775807 := by rw [← hmax]; omega
 exact ⟨l, ⟨A, cap, rfl, h9, hR⟩, hG, hb⟩
instance : Inhabited RJob := ⟨⟨0, []⟩⟩
instance : Inhabited RLine := ⟨⟨0, []⟩⟩
instance : Inhabited Value := ⟨.int .i64 0⟩
theorem strs_open {n : Nat} {v : Value} {y : DataW H × List MemPlace} (h : DataW.trod enc Tryz.prog W 0 (fun _ => true) true n 26 [v] = some y) :
  ∃ l : List (List UInt8), ListRd W W.heap.size stC l v ∧ (∀ p ∈ l, p.length ≤ 9223372036854775807) ∧ (l.map fun p => p.length + 1).sum + 1 ≤ Rows.uptoBulk y.1 := by
 obtain ⟨A, len, cap, l, rfl, hl, h1, h2, hR, hG, hb⟩ := rows_open (α := List UInt8) (k := 1) stC (fun p => p.length ≤ 9223372036854775807) (fun p => p.length + 1) (fun _ => rfl) (by omega) Tryz.underlying26 co_str (fun h => by
  obtain ⟨s, e1, e2, e3⟩ := DataW.trod_string Tryz.underlying9 h
  have hz : s.data.toList.length = s.size := Array.length_toList
  exact ⟨s.data.toList, e1, by rw [hz]; exact e3, by rw [e2]; exact Nat.le_refl _⟩) h
 have hmax : maxLen = 9223372036854775807 := rfl
 subst hl
 have h9 : l.length ≤ 9223372036854775807 := by rw [← hmax]; omega
 exact ⟨l, ⟨A, cap, rfl, h9, hR⟩, hG, hb⟩
theorem jobs_open {n : Nat} {v : Value} {y : DataW H × List MemPlace} (h : DataW.trod enc Tryz.prog W 0 (fun _ => true) true n 50 [v] = some y) :
  ∃ l : List RJob, RThrRd W W.heap.size l v ∧ (∀ j ∈ l, ∀ z ∈ j.prog :: j.args, i64ok z) ∧ l.length + 1 ≤ Rows.uptoBulk y.1 := by
 obtain ⟨A, len, cap, l, rfl, hl, h1, h2, hR, hG, hb⟩ := rows_open (α := RJob × Value) rjC (fun x => ListRd W W.heap.size i64C x.1.args x.2 ∧ ∀ z ∈ x.1.prog :: x.1.args, i64ok z) (fun _ => 1) (fun _ => rfl) (by omega) Tryz.underlying50 co_job (fun {n cs y} h => by
  obtain ⟨xs, n', _, hy, hlen, hxl, hf⟩ := DataW.trod_struct Tryz.underlying53 h
  rw [co_job] at hlen
  match cs, hlen with
  | [c0, c1], _ =>
   obtain ⟨y0, _, h0⟩ := field_some hxl hf (i := 0) rfl 0 rfl rfl co_int
   obtain ⟨y1, _, h1⟩ := field_some hxl hf (i := 1) rfl 1 rfl rfl co_i64s
   simp only [List.drop_zero, List.drop_succ_cons, List.take_succ_cons, List.take_zero] at h0 h1
   obtain ⟨a, e0, _, w0⟩ := DataW.trod_int Tryz.underlying3 h0
   obtain ⟨args, g1, g2, _⟩ := nums_open Tryz.underlying51 Tryz.underlying2 co_i64 h1
   simp at e0
   refine ⟨(⟨a, args⟩, c1), by rw [e0]; rfl, ⟨g1, ?_⟩, ?_⟩
   ·intro z hz
    rcases List.mem_cons.1 hz with rfl | hz
    ·exact wf_i64 w0
    ·exact g2 z hz
   ·have hy1 : y.1 = .agg (xs.map (·.1)) := by rw [hy]
    rw [hy1]
    simp only [Rows.uptoBulk]
    omega) h
 have hmax : maxLen = 9223372036854775807 := rfl
 rw [sum_ones] at hb
 subst hl
 have hz : (l.map (·.1)).zip (l.map (·.2)) = l := by
  rw [List.zip_map']
  simp
 refine ⟨l.map (·.1), ⟨A, cap, l.map (·.2), by rw [List.length_map], by rw [List.length_map, ← hmax]; omega, by rw [List.length_map, List.length_map], ?_, ?_⟩, ?_, by rw [List.length_map]; exact hb⟩
 ·rw [hz, List.length_map]
  exact hR
 ·intro j x a hx ha
  rw [List.getElem?_map] at hx ha
  cases hj : l[j]? with
  | none => rw [hj] at hx; cases hx
  | some q =>
   rw [hj] at hx ha
   injection hx with hx
   injection ha with ha
   subst hx ha
   exact (hG q (List.mem_of_getElem? hj)).1
 ·intro j hj
  obtain ⟨q, hq, rfl⟩ := List.mem_map.1 hj
  exact (hG q hq).2
theorem thrs_open {n : Nat} {v : Value} {y : DataW H × List MemPlace} (h : DataW.trod enc Tryz.prog W 0 (fun _ => true) true n 27 [v] = some y) :
  ∃ l : List (List RJob), (∃ R c vs, v = .slice R l.length c ∧ l.length ≤ 9223372036854775807 ∧ vs.length = l.length ∧ Reads W W.heap.size 1 R l.length (rows valC vs) ∧ ∀ (i : Nat) t v, l[i]? = some t → vs[i]? = some v → RThrRd W W.heap.size t v) ∧ (∀ t ∈ l, ∀ j ∈ t, ∀ z ∈ j.prog :: j.args, i64ok z) := by
 obtain ⟨A, len, cap, l, rfl, hl, h1, h2, hR, hG, _⟩ := rows_open (α := List RJob × Value) (k := 1) (fun x => [x.2]) (fun x => RThrRd W W.heap.size x.1 x.2 ∧ ∀ j ∈ x.1, ∀ z ∈ j.prog :: j.args, i64ok z) (fun _ => 0) (fun _ => rfl) (by omega) Tryz.underlying27 co_jobs (fun {n cs y} h => by
  have hlen : cs.length = 1 := by
   rcases open_slice Tryz.underlying50 h with ⟨h, _⟩ | ⟨_, _, _, _, _, _, _, h, _⟩ <;> rw [h] <;> rfl
  match cs, hlen with
  | [c0], _ =>
   obtain ⟨t, g1, g2, _⟩ := jobs_open h
   exact ⟨(t, c0), rfl, ⟨g1, g2⟩, Nat.zero_le _⟩) h
 have hmax : maxLen = 9223372036854775807 := rfl
 subst hl
 refine ⟨l.map (·.1), ⟨A, cap, l.map (·.2), by rw [List.length_map], by rw [List.length_map, ← hmax]; omega, by rw [List.length_map, List.length_map], ?_, ?_⟩, ?_⟩
 ·rw [rows_map, List.length_map]
  exact hR
 ·intro j x a hx ha
  rw [List.getElem?_map] at hx ha
  cases hj : l[j]? with
  | none => rw [hj] at hx; cases hx
  | some q =>
   rw [hj] at hx ha
   injection hx with hx
   injection ha with ha
   subst hx ha
   exact (hG q (List.mem_of_getElem? hj)).1
 ·intro t ht
  obtain ⟨q, hq, rfl⟩ := List.mem_map.1 ht
  exact (hG q hq).2
theorem lines_open {n : Nat} {v : Value} {y : DataW H × List MemPlace} (h : DataW.trod enc Tryz.prog W 0 (fun _ => true) true n 30 [v] = some y) :
  ∃ l : List RLine, RLinesRd W W.heap.size l v ∧ manyR l + l.length ≤ Rows.uptoBulk y.1 ∧ ∀ x ∈ l, i64ok x.kind ∧ ∀ z ∈ x.thr, i64ok z := by
 obtain ⟨A, len, cap, l, rfl, hl, h1, h2, hR, hG, hb⟩ := rows_open (α := RLine × Value) rlC (fun x => ListRd W W.heap.size i64C x.1.thr x.2 ∧ i64ok x.1.kind ∧ ∀ z ∈ x.1.thr, i64ok z) (fun x => x.1.thr.length + 1) (fun _ => rfl) (by omega) Tryz.underlying30 co_line (fun {n cs y} h => by
  obtain ⟨xs, n', _, hy, hlen, hxl, hf⟩ := DataW.trod_struct Tryz.underlying49 h
  rw [co_line] at hlen
  match cs, hlen with
  | [c0, c1], _ =>
   obtain ⟨y0, _, h0⟩ := field_some hxl hf (i := 0) rfl 0 rfl rfl co_int
   obtain ⟨y1, hy1, h1⟩ := field_some hxl hf (i := 1) rfl 1 rfl rfl co_ints
   simp only [List.drop_zero, List.drop_succ_cons, List.take_succ_cons, List.take_zero] at h0 h1
   obtain ⟨a, e0, _, w0⟩ := DataW.trod_int Tryz.underlying3 h0
   obtain ⟨thr, g1, g2, g3⟩ := nums_open Tryz.underlying47 Tryz.underlying3 co_int h1
   simp at e0
   refine ⟨(⟨a, thr⟩, c1), by rw [e0]; rfl, ⟨g1, wf_i64 w0, g2⟩, ?_⟩
   have hyy : y.1 = .agg (xs.map (·.1)) := by rw [hy]
   have := bulk_agg (xs.map (·.1)) 1 y1.1 (by rw [List.getElem?_map, hy1]; rfl)
   rw [hyy]
   simp only [Rows.uptoBulk]
   omega) h
 have hmax : maxLen = 9223372036854775807 := rfl
 subst hl
 have hz : (l.map (·.1)).zip (l.map (·.2)) = l := by
  rw [List.zip_map']
  simp
 have hs : manyR (l.map (·.1)) + l.length = (l.map fun x => x.1.thr.length + 1).sum := by
  unfold manyR
  clear hR hG hb hz h1 h2 h
  induction l with
  | nil => rfl
  | cons a l ih => simp only [List.map_cons, List.sum_cons, List.length_cons] at ih ⊢; omega
 refine ⟨l.map (·.1), ⟨by rw [List.length_map, ← hmax]; omega, A, cap, l.map (·.2), by rw [List.length_map], by rw [List.length_map, List.length_map], ?_, ?_⟩, by rw [List.length_map]; omega, ?_⟩
 ·rw [hz, List.length_map]
  exact hR
 ·intro j x a hx ha
  rw [List.getElem?_map] at hx ha
  cases hj : l[j]? with
  | none => rw [hj] at hx; cases hx
  | some q =>
   rw [hj] at hx ha
   injection hx with hx
   injection ha with ha
   subst hx ha
   exact (hG q (List.mem_of_getElem? hj)).1
 ·intro x hx
  obtain ⟨q, hq, rfl⟩ := List.mem_map.1 hx
  exact (hG q hq).2
theorem sum_mem : ∀ (l : List (List UInt8)) (p : List UInt8), p ∈ l → p.length + 1 ≤ (l.map fun p => p.length + 1).sum
 | [], p, h => by cases h
 | a :: l, p, h => by
  simp only [List.map_cons, List.sum_cons]
  rcases List.mem_cons.1 h with rfl | h
  ·omega
  ·have := sum_mem l p h
   omega
theorem setup_open {n : Nat} {cs : List Value} {y : DataW H × List MemPlace} (h : DataW.trod enc Tryz.prog W 0 (fun _ => true) true n 29 cs = some y) :
  ∃ (s : RSet) (rv pv tv : Value), cs = (setupC s.cfg rv pv tv).toList ∧ RSetRd W W.heap.size s rv pv tv ∧ (∀ p ∈ s.progs, p.length ≤ Rows.uptoBulk y.1) ∧ (∀ t ∈ s.thr, ∀ j ∈ t, ∀ z ∈ j.prog :: j.args, i64ok z) := by
 obtain ⟨xs, n', _, hy, hlen, hxl, hf⟩ := DataW.trod_struct Tryz.underlying29 h
 rw [co_setup] at hlen
 match cs, hlen with
 | [c0, c1, c2, c3, c4, c5, c6, c7, c8], _ =>
  obtain ⟨y0, _, h0⟩ := field_some hxl hf (i := 0) rfl 0 rfl rfl co_cfg
  obtain ⟨y1, hy1, h1⟩ := field_some hxl hf (i := 1) rfl 7 rfl rfl co_strs
  obtain ⟨y2, _, h2⟩ := field_some hxl hf (i := 2) rfl 8 rfl rfl co_jobss
  simp only [List.drop_zero, List.drop_succ_cons, List.take_succ_cons, List.take_zero] at h0 h1 h2
  obtain ⟨c, A, len, cap, regs, e0, hl, hle, hcap, hA⟩ := cfg_cells h0
  obtain ⟨progs, g1, g2, g3⟩ := strs_open h1
  obtain ⟨thr, k1, k2⟩ := thrs_open h2
  have hmax : maxLen = 9223372036854775807 := rfl
  subst hl
  simp only [List.cons.injEq, and_true] at e0
  obtain ⟨rfl, rfl, rfl, rfl, rfl, rfl, rfl⟩ := e0
  refine ⟨⟨c, regs, progs, thr⟩, _, c7, c8, rfl, ⟨⟨A, cap, rfl, (by rw [← hmax]; omega : regs.length ≤ 9223372036854775807), hA⟩, g1, k1⟩, ?_, k2⟩
  intro p hp
  have hb := bulk_agg (xs.map (·.1)) 1 y1.1 (by rw [List.getElem?_map, hy1]; rfl)
  have hyy : y.1 = .agg (xs.map (·.1)) := by rw [hy]
  have hs : p.length + 1 ≤ (progs.map fun p => p.length + 1).sum := sum_mem progs p hp
  rw [hyy]
  simp only [Rows.uptoBulk]
  omega
end
end Go.Proofs.YtiheggkkgbfndaaGreatDoor
namespace Go.Proofs.YtiheggkkgbfndaaGreatDoor
open Go Go.Lib
set_option linter.unusedVariables false
set_option linter.unusedSimpArgs false
def exT : List UInt8 := [99, 111, 110, 102, 105, 103, 32, 50, 32, 52, 32, 56, 32, 49, 48, 48, 32, 51, 32, 109, 117, 108, 116, 105, 10, 114, 101, 103, 105, 111, 110, 32, 113, 117, 101, 117, 101, 32, 50, 10, 112, 114, 111, 103, 114, 97, 109, 10, 112, 117, 115, 104, 56, 32, 55, 10, 99, 111, 109, 109, 105, 116, 10, 101, 110, 100, 10, 116, 104, 114, 101, 97, 100, 10, 106, 111, 98, 32, 48, 32, 53, 32, 45, 49, 10, 114, 117, 110, 32, 48, 32, 48, 42, 49, 50, 32, 49, 10, 99, 101, 108, 108, 115, 10]
def exTa : List UInt8 := [99, 111, 110, 102, 105, 103, 32, 50, 32, 52, 32, 56, 32, 49, 48, 48, 32, 51, 32, 109, 117, 108, 116, 105, 10, 106, 111, 98, 32, 48, 10]
deriving instance DecidableEq for Reg, Cfg, PJob, PSet, PLine, SSt
def exV : SSt := ⟨⟨⟨2, 4, 8, 100, true, 3⟩, [⟨2, 2⟩], [bytesOf [⟨1, 7⟩, ⟨0, 0⟩]], [[⟨0, [5, -1]⟩]]⟩, [⟨1, List.replicate 13 0 ++ [1]⟩, ⟨2, []⟩], 14⟩
def sameR (a b : Except (Nat × Nat) SSt) : Bool := match a, b with
 | .ok x, .ok y => decide (x = y)
 | .error x, .error y => decide (x = y)
 | _, _ => false
theorem sameR_eq {a b : Except (Nat × Nat) SSt} (h : sameR a b = true) : a = b := by
 unfold sameR at h
 split at h
 ·rw [of_decide_eq_true h]
 ·rw [of_decide_eq_true h]
 ·cases h
theorem ex_one : parseS exT = .ok exV := sameR_eq (by decide +kernel)
theorem ex_two : parseS exTa = .error (9, 25) := sameR_eq (by decide +kernel)
end Go.Proofs.YtiheggkkgbfndaaGreatDoor
namespace Go.Proofs.YtiheggkkgbfndaaGreatDoor
open Go.RowKit Go.Joins Go.ChangeShapes Go.WideShapes Go.Deep
set_option linter.unusedVariables false
set_option linter.unusedSimpArgs false
set_option maxRecDepth 100000
abbrev exA : ByteArray := ⟨#[99, 111, 110, 102, 105, 103, 32, 50, 32, 52, 32, 56, 32, 49, 48, 48, 32, 51, 32, 109, 117, 108, 116, 105, 10, 114, 101, 103, 105, 111, 110, 32, 113, 117, 101, 117, 101, 32, 50, 10, 112, 114, 111, 103, 114, 97, 109, 10, 112, 117, 115, 104, 56, 32, 55, 10, 99, 111, 109, 109, 105, 116, 10, 101, 110, 100, 10, 116, 104, 114, 101, 97, 100, 10, 106, 111, 98, 32, 48, 32, 53, 32, 45, 49, 10, 114, 117, 110, 32, 48, 32, 48, 42, 49, 50, 32, 49, 10, 99, 101, 108, 108, 115, 10]⟩
abbrev exB : ByteArray := ⟨#[99, 111, 110, 102, 105, 103, 32, 50, 32, 52, 32, 56, 32, 49, 48, 48, 32, 51, 32, 109, 117, 108, 116, 105, 10, 106, 111, 98, 32, 48, 10]⟩
theorem ex_set : ∃ ps, SetOk exV.set ps exV.lines ∧ 40 < (textS exV.set (ps.map printF) exV.lines).length ∧ (textS exV.set (ps.map printF) exV.lines).length ≤ 65535 := by
 obtain ⟨ps, h, _⟩ := parseS_ok ex_one
 have hp : ps = [[⟨1, 7⟩, ⟨0, 0⟩]] := by
  have h1 : [bytesOf [⟨1, 7⟩, ⟨0, 0⟩]] = ps.map bytesOf := h.progs
  cases ps with
  | nil => simp at h1
  | cons L r =>
   simp only [List.map_cons, List.cons.injEq] at h1
   obtain ⟨h1, h2⟩ := h1
   have hr : r = [] := List.map_eq_nil_iff.1 h2.symm
   have he := h.enc L (by simp)
   have e1 := dec_all L he.1
   have e2 := dec_all [⟨1, 7⟩, ⟨0, 0⟩] (by
    intro o ho
    simp only [List.mem_cons, List.not_mem_nil, or_false] at ho
    rcases ho with rfl | rfl <;> exact ⟨by decide, by decide, by unfold i64ok; decide⟩)
   rw [h1] at e2
   rw [hr, (e1.det e2 (.inl (by rw [List.length_map]; exact Nat.le_refl _)) (.inl (by rw [List.length_map]; exact Nat.le_refl _))).1]
 refine ⟨ps, h, ?_⟩
 rw [hp]
 decide +kernel
theorem EnvP.later {C : Nat} {w w' : World} (h : EnvP C w) (hb : Below w.heap.size w w') : EnvP C w' := h.below (hb.mono h.size)
set_option maxHeartbeats 4000000 in
theorem shown_any {C : Nat} (w : World) (hE : EnvP C w) : Calls Tryz.prog 8 #[] w fun e w' => e = .returned (.bool true) ∧ Below w.heap.size w w' := by
 have HE := Lib.hid hE
 have HP1 : Hid (Calls Tryz.prog 9 #[.string exA] w fun e w' => Below w.heap.size w w' ∧ ∃ Rr cr Rp cp Rt ct Rl cl, e = .returned (.tuple #[.agg #[.int .i64 2, .int .i64 4, .int .i64 8, .int .i64 100, .bool true, .int .i64 3, .slice Rr 1 cr, .slice Rp 1 cp, .slice Rt 1 ct], .slice Rl 2 cl, .int .i64 0, .int .i64 0]) ∧ SetRd w' w'.heap.size exV.set (.slice Rr 1 cr) (.slice Rp 1 cp) (.slice Rt 1 ct) ∧ LinesRd w' w'.heap.size exV.lines (.slice Rl 2 cl)) := Lib.hid (by
  refine (pparse_any exA w hE).mono ?_
  rintro e w' ⟨hb, h⟩
  have e1 : parseS exA.data.toList = .ok exV := ex_one
  rw [e1] at h
  obtain ⟨rv, pv, tv, lv, T, L, rfl, h⟩ := h
  have h1 := h.set_rd
  have h2 := h.lines_rd
  obtain ⟨⟨Rr, cr, rfl, _⟩, ⟨Rp, cp, rfl, _⟩, ⟨Rt, ct, _, rfl, _⟩⟩ := id h1
  obtain ⟨_, Rl, cl, _, rfl, _⟩ := id h2
  exact ⟨hb, Rr, cr, Rp, cp, Rt, ct, Rl, cl, rfl, h1, h2⟩)
 have HP2 : Hid (∀ W, Below w.heap.size w W → Calls Tryz.prog 9 #[.string exB] W fun e w' => Below W.heap.size W w' ∧ e = .returned (.tuple #[.agg #[.int .i64 0, .int .i64 0, .int .i64 0, .int .i64 0, .bool false, .int .i64 0, .slice none 0 0, .slice none 0 0, .slice none 0 0], .slice none 0 0, .int .i64 9, .int .i64 25])) := Lib.hid (by
  intro W hW
  refine (pparse_any exB W (HE.out.later hW)).mono ?_
  rintro e w' ⟨hb, h⟩
  have e1 : parseS exB.data.toList = .error (9, 25) := ex_two
  rw [e1] at h
  exact ⟨hb, h⟩)
 clear hE
 go_enter Tryz.func8, Tryz.ntmps8
 go_upto_region 2 with (go_at_call 9; refine (show Calls _ _ #[.string exA] _ _ from HP1.out).mono ?_; rintro e w1 ⟨hb1, Rr, cr, Rp, cp, Rt, ct, Rl, cl, rfl, hs1, hl1⟩; have HB1 := Lib.hid hb1; have HS1 := Lib.hid hs1; have HL1 := Lib.hid hl1; clear hb1 hs1 hl1)
 obtain ⟨w2, hw2⟩ : ∃ W, W = w1.alloc (.cells #[.int .i64 2, .int .i64 4, .int .i64 8, .int .i64 100, .bool true, .int .i64 3, .slice Rr 1 cr, .slice Rp 1 cp, .slice Rt 1 ct] 29) := ⟨_, rfl⟩
 obtain ⟨b2, hb2⟩ : ∃ b, b = w1.heap.size := ⟨_, rfl⟩
 have HK2 : Hid (Blk w2 b2 29 #[.int .i64 2, .int .i64 4, .int .i64 8, .int .i64 100, .bool true, .int .i64 3, .slice Rr 1 cr, .slice Rp 1 cp, .slice Rt 1 ct]) := Lib.hid (by rw [hw2, hb2]; exact Blk.new _ _ _)
 have HB12 : Hid (Below w1.heap.size w1 w2) := Lib.hid (hw2 ▸ (Below.refl _ _).alloc (Nat.le_refl _) _)
 rw [← hw2, ← hb2]
 clear hw2 hb2
 go_upto_region 3 with (go_at_call 9; refine (show Calls _ _ #[.string exB] _ _ from HP2.out w2 (HB1.out.trans (HB12.out.mono HB1.out.size))).mono ?_; rintro e w3 ⟨hb3, rfl⟩; have HB23 := Lib.hid hb3; clear hb3)
 obtain ⟨w4, hw4⟩ : ∃ W, W = w3.alloc (.cells #[.int .i64 0, .int .i64 0, .int .i64 0, .int .i64 0, .bool false, .int .i64 0, .slice none 0 0, .slice none 0 0, .slice none 0 0] 29) := ⟨_, rfl⟩
 have HB24 : Hid (Below w2.heap.size w2 w4) := Lib.hid (hw4 ▸ HB23.out.alloc HB23.out.size _)
 have HB14 : Hid (Below w1.heap.size w1 w4) := Lib.hid (HB12.out.trans (HB24.out.mono HB12.out.size))
 have HK4 : Hid (Blk w4 b2 29 #[.int .i64 2, .int .i64 4, .int .i64 8, .int .i64 100, .bool true, .int .i64 3, .slice Rr 1 cr, .slice Rp 1 cp, .slice Rt 1 ct]) := Lib.hid (HK2.out.below HB24.out HK2.out.lt)
 rw [← hw4]
 clear hw4
 have p0 := (HK4.out.cell 0).trans (show _ = some (Value.int .i64 2) from rfl)
 have p1 := (HK4.out.cell 1).trans (show _ = some (Value.int .i64 4) from rfl)
 have p2 := (HK4.out.cell 2).trans (show _ = some (Value.int .i64 8) from rfl)
 have p3 := (HK4.out.cell 3).trans (show _ = some (Value.int .i64 100) from rfl)
 have p4 := (HK4.out.cell 4).trans (show _ = some (Value.bool true) from rfl)
 have p5 := (HK4.out.cell 5).trans (show _ = some (Value.int .i64 3) from rfl)
 have p6 := (HK4.out.cell 6).trans (show _ = some (Value.slice Rr 1 cr) from rfl)
 have p7 := (HK4.out.cell 7).trans (show _ = some (Value.slice Rp 1 cp) from rfl)
 have p8 := (HK4.out.cell 8).trans (show _ = some (Value.slice Rt 1 ct) from rfl)
 have pl := HK4.out.lt
 go_upto_region 5 with fail
 have HPR : Hid (Calls Tryz.prog 13 #[.agg #[.int .i64 2, .int .i64 4, .int .i64 8, .int .i64 100, .bool true, .int .i64 3, .slice Rr 1 cr, .slice Rp 1 cp, .slice Rt 1 ct], .slice Rl 2 cl] w4 fun e w' => ∃ t : ByteArray, 40 < t.size ∧ e = .returned (.tuple #[.string t, .int .i64 0]) ∧ Below w4.heap.size w4 w') := Lib.hid (by
  obtain ⟨ps, h1, h2, h3⟩ := ex_set
  have h := pprint_ok (B := C) h1 (by decide) w1.heap.size _ _ _ _ w4 HB14.out.size (HS1.out.below HB14.out) (HL1.out.below HB14.out) ((HE.out.later (HB1.out.trans (HB14.out.mono HB1.out.size))).env)
  refine h.mono ?_
  rintro e w' ⟨h4, h5⟩
  rcases h4 with ⟨_, rfl⟩ | ⟨h6, _⟩
  ·exact ⟨_, by rw [size_list]; exact h2, rfl, h5⟩
  ·omega)
 have HLC := Lib.hid (line_all (Nat.le_refl _) HL1.out.raw rfl)
 obtain ⟨b, off, x0, Q0, m0, q0, rfl, hb, hx0, hl0, _, _, hc0, _⟩ := HLC.out 0 (by decide)
 obtain ⟨b', off', x1, Q1, m1, q1, he, _, hx1, hl1, _, _, hc1, _⟩ := HLC.out 1 (by decide)
 injection he with he
 injection he with he1 he2
 subst he1 he2
 obtain rfl : x0 = PLine.raw ⟨1, List.replicate 13 0 ++ [1]⟩ := (Option.some.inj hx0).symm
 obtain rfl : x1 = PLine.raw ⟨2, []⟩ := (Option.some.inj hx1).symm
 have hm0 : m0 = 14 := hl0.symm
 subst hm0
 have HB := Lib.hid hb
 have HC0 := Lib.hid (fun W hW => (hc0 W hW).2)
 have HC1 : Hid (∀ W, Below w1.heap.size w1 W → W.cell? ⟨b, off + 1 * 2, none⟩ = some (.int .i64 2)) := Lib.hid (fun W hW => (hc1 W hW).1)
 clear hb hc0 hc1 hx0 hx1 hl0 hl1
 go_upto_region 6 with (go_at_call 13; refine HPR.out.mono ?_; rintro e w5 ⟨t, ht, rfl, hb5⟩; have HB5 := Lib.hid (HB14.out.trans (hb5.mono HB14.out.size)); clear hb5)
 clear p0 p1 p2 p3 p4 p5 p6 p7 p8 pl
 have c0 := HC0.out w5 HB5.out
 have c1 := HC1.out w5 HB5.out
 have cl5 : b < w5.heap.size := Nat.lt_of_lt_of_le HB.out HB5.out.size
 have t1 : decide ((40 : Int) < (t.size : Int)) = true := decide_eq_true (by omega)
 have t2 : decide (40 < t.size) = true := decide_eq_true ht
 go_wp2
 go_ret
 exact ⟨rfl, HB1.out.trans (HB5.out.mono HB1.out.size)⟩
end Go.Proofs.YtiheggkkgbfndaaGreatDoor
