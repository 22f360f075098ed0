/- What a script's reader holds in memory. -/
import Derived.Test.YtiheggkkgbfndaaGreatDoorJ10
import Derived.Test.YtiheggkkgbfndaaGreatDoorJ02
namespace Go.Proofs.YtiheggkkgbfndaaGreatDoor
open Go.RowKit Go.Joins Go.ChangeShapes Go.WideShapes Go.Deep
set_option linter.unusedVariables false
set_option linter.unusedSimpArgs false
set_option maxRecDepth 100000
def rgC (r : Reg) : List Value := [.int .i64 r.kind, .int .i64 r.cap]
def stC (p : List UInt8) : List Value := [.string ⟨p.toArray⟩]
def i64C (n : Int) : List Value := [.int .i64 n]
def jbC (j : PJob × Value) : List Value := [.int .i64 (j.1.prog : Int), j.2]
def valC (v : Value) : List Value := [v]
def lnC (l : PLine × Value) : List Value := [.int .i64 (l.1.kind : Int), l.2]
def natC (n : Nat) : List Value := [.int .i64 (n : Int)]
structure SetAt (B : Nat) (w : World) (x : SSt) (rv pv tv lv : Value) (T : List (Value × List (PJob × Value))) (L : List (PLine × Value)) : Prop where
 regs : w.ownsRow B 67 2 rv x.set.regs.length (rows rgC x.set.regs)
 progs : w.ownsRow B 9 1 pv x.set.progs.length (rows stC x.set.progs)
 thr : w.ownsRow B 50 1 tv T.length (rows valC (T.map (·.1)))
 jobs : Kids B w 53 2 jbC T
 args : Kids B w 2 1 i64C (T.flatMap fun t => t.2.map fun j => (j.2, j.1.args))
 thrEq : T.map (fun t => t.2.map (·.1)) = x.set.thr
 lines : w.ownsRow B 49 2 lv L.length (rows lnC L)
 steps : Kids B w 3 1 natC (L.map fun l => (l.2, l.1.thr))
 linesEq : L.map (·.1) = x.lines
theorem SetAt.start (B : Nat) (w : World) (c : Cfg) : SetAt B w ⟨⟨c, [], [], []⟩, [], 0⟩ (.slice none 0 0) (.slice none 0 0) (.slice none 0 0) (.slice none 0 0) [] [] :=
 ⟨World.ownsRow_nil _ _ _ _, World.ownsRow_nil _ _ _ _, World.ownsRow_nil _ _ _ _, Kids.none _ _ _ _ _, Kids.none _ _ _ _ _, rfl, World.ownsRow_nil _ _ _ _, Kids.none _ _ _ _ _, rfl⟩
theorem SetAt.below {B : Nat} {w w' : World} {x : SSt} {rv pv tv lv : Value} {T : List (Value × List (PJob × Value))} {L : List (PLine × Value)} (h : SetAt B w x rv pv tv lv T L) (hb : Below w.heap.size w w') : SetAt B w' x rv pv tv lv T L :=
 ⟨own_beb h.regs hb, own_beb h.progs hb, own_beb h.thr hb, h.jobs.below hb, h.args.below hb, h.thrEq, own_beb h.lines hb, h.steps.below hb, h.linesEq⟩
theorem SetAt.set {B : Nat} {w : World} {x : SSt} {rv pv tv lv : Value} {T : List (Value × List (PJob × Value))} {L : List (PLine × Value)} (h : SetAt B w x rv pv tv lv T L) {b i : Nat} {t : TypeId} {cs : Array Value} (hb : Blk w b t cs)
  (h1 : 67 ≠ t) (h2 : 9 ≠ t) (h3 : 50 ≠ t) (h4 : 53 ≠ t) (h5 : 2 ≠ t) (h6 : 49 ≠ t) (h7 : 3 ≠ t) (u : Value) : SetAt B (w.setCell ⟨b, i, none⟩ u) x rv pv tv lv T L :=
 ⟨own_set h.regs hb h1 u, own_set h.progs hb h2 u, own_set h.thr hb h3 u, h.jobs.set hb h4 u, h.args.set hb h5 u, h.thrEq, own_set h.lines hb h6 u, h.steps.set hb h7 u, h.linesEq⟩
theorem own_grown {B1 n1 s1 : Nat} {w WA w3 : World} {t1 : TypeId} {v1 : Value} {x1 : List Value} {row : Option Nat} (h : w.ownsRow B1 t1 s1 v1 n1 x1) (hA : Below w.heap.size w WA) (hg : WA.grownBy w3 row) (hr : ∀ q, v1.ownBlock = some q → row ≠ some q) : w3.ownsRow B1 t1 s1 v1 n1 x1 :=
 own_keep h fun b hb => (hg.block b (Nat.lt_of_lt_of_le (h.lt b hb).2 hA.size) (fun e => hr b hb e.symm)).trans (hA.block b (h.lt b hb).2)
theorem SetAt.region {B : Nat} {w WA w3 : World} {x : SSt} {rv rv' pv tv lv : Value} {T : List (Value × List (PJob × Value))} {L : List (PLine × Value)} (h : SetAt B w x rv pv tv lv T L) (hA : Below w.heap.size w WA) (hg : WA.grownBy w3 rv.ownBlock) (r : Reg)
    (hv : w3.ownsRow B 67 2 rv' (x.set.regs.length + 1) (rows rgC x.set.regs ++ rgC r)) : SetAt B w3 { x with set := { x.set with regs := x.set.regs ++ [r] } } rv' pv tv lv T L :=
  ⟨by rw [List.length_append, List.length_singleton, rows_snoc]; exact hv,
   own_grown h.progs hA hg fun q hq => own_ne h.progs h.regs (by decide) hq,
   own_grown h.thr hA hg fun q hq => own_ne h.thr h.regs (by decide) hq,
   h.jobs.grown hA hg fun y hy q hq => own_ne (h.jobs.own y hy) h.regs (by decide) hq,
   h.args.grown hA hg fun y hy q hq => own_ne (h.args.own y hy) h.regs (by decide) hq, h.thrEq,
   own_grown h.lines hA hg fun q hq => own_ne h.lines h.regs (by decide) hq,
   h.steps.grown hA hg fun y hy q hq => own_ne (h.steps.own y hy) h.regs (by decide) hq, h.linesEq⟩
theorem SetAt.program {B : Nat} {w WA w3 : World} {x : SSt} {rv pv pv' tv lv : Value} {T : List (Value × List (PJob × Value))} {L : List (PLine × Value)} (h : SetAt B w x rv pv tv lv T L) (hA : Below w.heap.size w WA) (hg : WA.grownBy w3 pv.ownBlock) (p : List UInt8)
    (hv : w3.ownsRow B 9 1 pv' (x.set.progs.length + 1) (rows stC x.set.progs ++ stC p)) : SetAt B w3 { x with set := { x.set with progs := x.set.progs ++ [p] } } rv pv' tv lv T L :=
  ⟨own_grown h.regs hA hg fun q hq => own_ne h.regs h.progs (by decide) hq,
   by rw [List.length_append, List.length_singleton, rows_snoc]; exact hv,
   own_grown h.thr hA hg fun q hq => own_ne h.thr h.progs (by decide) hq,
   h.jobs.grown hA hg fun y hy q hq => own_ne (h.jobs.own y hy) h.progs (by decide) hq,
   h.args.grown hA hg fun y hy q hq => own_ne (h.args.own y hy) h.progs (by decide) hq, h.thrEq,
   own_grown h.lines hA hg fun q hq => own_ne h.lines h.progs (by decide) hq,
   h.steps.grown hA hg fun y hy q hq => own_ne (h.steps.own y hy) h.progs (by decide) hq, h.linesEq⟩
theorem SetAt.thread {B : Nat} {w WA w3 : World} {x : SSt} {rv pv tv tv' lv : Value} {T : List (Value × List (PJob × Value))} {L : List (PLine × Value)} (h : SetAt B w x rv pv tv lv T L) (hA : Below w.heap.size w WA) (hg : WA.grownBy w3 tv.ownBlock)
    (hv : w3.ownsRow B 50 1 tv' (T.length + 1) (rows valC (T.map (·.1)) ++ [.slice none 0 0])) : SetAt B w3 { x with set := { x.set with thr := x.set.thr ++ [[]] } } rv pv tv' lv (T ++ [(.slice none 0 0, [])]) L := by
  refine ⟨own_grown h.regs hA hg fun q hq => own_ne h.regs h.thr (by decide) hq,
   own_grown h.progs hA hg fun q hq => own_ne h.progs h.thr (by decide) hq, ?_,
   (h.jobs.grown hA hg fun y hy q hq => own_ne (h.jobs.own y hy) h.thr (by decide) hq).snoc (World.ownsRow_nil _ _ _ _) (fun y hy q hq => by simp [Value.ownBlock]),
   ?_, ?_,
   own_grown h.lines hA hg fun q hq => own_ne h.lines h.thr (by decide) hq,
   h.steps.grown hA hg fun y hy q hq => own_ne (h.steps.own y hy) h.thr (by decide) hq, h.linesEq⟩
  · rw [List.length_append, List.length_singleton, List.map_append, List.map_singleton, rows_snoc]
    exact hv
  · rw [List.flatMap_append]
    simpa using h.args.grown hA hg fun y hy q hq => own_ne (h.args.own y hy) h.thr (by decide) hq
  · rw [List.map_append, h.thrEq]
    rfl
theorem SetAt.line {B : Nat} {w WA w3 : World} {x : SSt} {rv pv tv lv lv' v : Value} {T : List (Value × List (PJob × Value))} {L : List (PLine × Value)} {l : PLine} {n : Nat} (h : SetAt B w x rv pv tv lv T L) (hA : Below w.heap.size w WA) (hg : WA.grownBy w3 lv.ownBlock)
    (hv : w3.ownsRow B 49 2 lv' (L.length + 1) (rows lnC L ++ lnC (l, v))) (ht : w3.ownsRow B 3 1 v l.thr.length (rows natC l.thr)) (hf : ∀ q, v.ownBlock = some q → w.heap.size ≤ q) : SetAt B w3 ⟨x.set, x.lines ++ [l], n⟩ rv pv tv lv' T (L ++ [(l, v)]) := by
  refine ⟨own_grown h.regs hA hg fun q hq => own_ne h.regs h.lines (by decide) hq,
   own_grown h.progs hA hg fun q hq => own_ne h.progs h.lines (by decide) hq,
   own_grown h.thr hA hg fun q hq => own_ne h.thr h.lines (by decide) hq,
   h.jobs.grown hA hg fun y hy q hq => own_ne (h.jobs.own y hy) h.lines (by decide) hq,
   h.args.grown hA hg fun y hy q hq => own_ne (h.args.own y hy) h.lines (by decide) hq, h.thrEq, ?_, ?_, ?_⟩
  · rw [List.length_append, List.length_singleton, rows_snoc]
    exact hv
  · rw [List.map_append, List.map_singleton]
    refine (h.steps.grown hA hg fun y hy q hq => own_ne (h.steps.own y hy) h.lines (by decide) hq).snoc ht fun y hy q hq hq' => ?_
    have h1 := (h.steps.lt hy hq).2
    have h2 := hf q hq'
    omega
  · rw [List.map_append, h.linesEq]
    rfl
theorem SetAt.job {B : Nat} {w WA w3 : World} {x : SSt} {rv pv lv v v' av : Value} {g cap : Nat} {T0 : List (Value × List (PJob × Value))} {js : List (PJob × Value)} {L : List (PLine × Value)} {j : PJob}
    (h : SetAt B w x rv pv (.slice (some ⟨g, 0, none⟩) (T0.length + 1) cap) lv (T0 ++ [(v, js)]) L) (hA : Below w.heap.size w WA) (hav : WA.ownsRow B 2 1 av j.args.length (rows i64C j.args)) (haf : ∀ q, av.ownBlock = some q → w.heap.size ≤ q)
    (hg : WA.grownBy w3 v.ownBlock) (hv : w3.ownsRow B 53 2 v' (js.length + 1) (rows jbC js ++ jbC (j, av))) (hat : ∀ q, v'.ownBlock = some q → v.ownBlock = some q ∨ w.heap.size ≤ q) :
    SetAt B (w3.setCell ⟨g, T0.length, none⟩ v') { x with set := { x.set with thr := addJob x.set.thr j } } rv pv (.slice (some ⟨g, 0, none⟩) (T0.length + 1) cap) lv (T0 ++ [(v', js ++ [(j, av)])]) L := by
  have hjo : w.ownsRow B 53 2 v js.length (rows jbC js) := h.jobs.own (v, js) (by simp)
  have ht0 := h.thr
  rw [List.length_append, List.length_singleton] at ht0
  have ht3 := own_grown ht0 hA hg fun q hq => own_ne ht0 hjo (by decide) hq
  obtain ⟨cs, hblk⟩ := own_blk ht3 (b := g) rfl
  have hav3 : w3.ownsRow B 2 1 av j.args.length (rows i64C j.args) := own_keep hav fun b hb => hg.block b (hav.lt b hb).2 (fun e => by
    have h1 := haf b hb
    have h2 := (hjo.lt b e.symm).2
    omega)
  have hst := (ht3.stored T0.length v').1
  have e2 : (rows valC ((T0 ++ [(v, js)]).map (·.1))).set T0.length v' = rows valC ((T0 ++ [(v', js ++ [(j, av)])]).map (·.1)) := by
    have := rows_last_set valC 1 (fun _ => rfl) (T0.map (·.1)) v v' 0 v' rfl
    rw [List.length_map, Nat.mul_one, Nat.add_zero] at this
    rw [List.map_append, List.map_append]
    exact this
  rw [e2] at hst
  refine ⟨own_set (own_grown h.regs hA hg fun q hq => own_ne h.regs hjo (by decide) hq) hblk (by decide) v',
   own_set (own_grown h.progs hA hg fun q hq => own_ne h.progs hjo (by decide) hq) hblk (by decide) v',
   by rw [List.length_append, List.length_singleton]; exact hst,
   (h.jobs.put hA hg hv hat).set hblk (by decide) v', ?_, ?_,
   own_set (own_grown h.lines hA hg fun q hq => own_ne h.lines hjo (by decide) hq) hblk (by decide) v',
   (h.steps.grown hA hg fun y hy q hq => own_ne (h.steps.own y hy) hjo (by decide) hq).set hblk (by decide) v', h.linesEq⟩
  · have ha := h.args
    have e3 : ((T0 ++ [(v', js ++ [(j, av)])]).flatMap fun t => t.2.map fun j => (j.2, j.1.args)) = ((T0 ++ [(v, js)]).flatMap fun t => t.2.map fun j => (j.2, j.1.args)) ++ [(av, j.args)] := by
      simp [List.flatMap_append]
    rw [e3]
    refine ((ha.grown hA hg fun y hy q hq => own_ne (ha.own y hy) hjo (by decide) hq).snoc hav3 fun y hy q hq hq' => ?_).set hblk (by decide) v'
    have h1 := (ha.lt hy hq).2
    have h2 := haf q hq'
    omega
  · have he := h.thrEq
    rw [← he]
    unfold addJob
    simp
def StV (c : Cfg) (rv pv tv lv : Value) (e pl part k : Nat) : Array Value := #[.int .i64 c.raw, .int .i64 c.ring, .int .i64 c.writes, .int .i64 c.stamps, .bool c.multi, .int .i64 c.tries, rv, pv, tv, lv, .int .i64 e, .int .i64 pl, .int .i64 part, .int .i64 k]
theorem rfails_any (p : Nat) (c : Cfg) (rv pv tv lv : Value) (e pl part k x y : Nat) (w : World) (hb : Blk w p 61 (StV c rv pv tv lv e pl part k)) :
  Calls Tryz.prog 56 #[.pointer (some ⟨p, 0, none⟩), .int .i64 x, .int .i64 y] w fun r w' => r = .returned (.tuple #[]) ∧ Frm w w' (fun q => q = p) ∧ Blk w' p 61 (StV c rv pv tv lv x y part k) := by
 have x10 : w.cell? ⟨p, 10, none⟩ = some (.int .i64 e) := (hb.cell 10).trans rfl
 have f10 : w.frozen? ⟨p, 10, none⟩ = false := hb.frozen 10
 have hb1 := hb.set_ 10 (.int .i64 x)
 have y11 : (w.setCell ⟨p, 10, none⟩ (.int .i64 x)).cell? ⟨p, 11, none⟩ = some (.int .i64 pl) := (hb1.cell 11).trans rfl
 have f11 : (w.setCell ⟨p, 10, none⟩ (.int .i64 x)).frozen? ⟨p, 11, none⟩ = false := hb1.frozen 11
 have HF : Hid (Frm w ((w.setCell ⟨p, 10, none⟩ (.int .i64 x)).setCell ⟨p, 11, none⟩ (.int .i64 y)) (fun q => q = p)) := Lib.hid (((Frm.refl w (fun q => q = p)).set p 10 _ (.inl rfl)).set p 11 _ (.inl rfl))
 have HB : Hid (Blk ((w.setCell ⟨p, 10, none⟩ (.int .i64 x)).setCell ⟨p, 11, none⟩ (.int .i64 y)) p 61 (StV c rv pv tv lv x y part k)) := Lib.hid ((hb.set_ 10 _).set_ 11 _)
 clear hb hb1
 go_enter Tryz.func56, Tryz.ntmps56
 go_wp2
 go_end0
 exact ⟨rfl, HF.out, HB.out⟩
theorem rgoes_yes (p : Nat) (c : Cfg) (rv pv tv lv : Value) (e pl part k q y : Nat) (w : World) (hb : Blk w p 61 (StV c rv pv tv lv e pl part k)) (hq : part ≤ q) :
  Calls Tryz.prog 53 #[.pointer (some ⟨p, 0, none⟩), .int .i64 q, .int .i64 y] w fun r w' => r = .returned (.bool true) ∧ Frm w w' (fun q => q = p) ∧ Blk w' p 61 (StV c rv pv tv lv e pl q k) := by
 have x12 : w.cell? ⟨p, 12, none⟩ = some (.int .i64 part) := (hb.cell 12).trans rfl
 have f12 : w.frozen? ⟨p, 12, none⟩ = false := hb.frozen 12
 have e1 : decide ((q : Int) < (part : Int)) = false := decide_eq_false (by omega)
 have e2 : decide (q < part) = false := decide_eq_false (by omega)
 have HF : Hid (Frm w (w.setCell ⟨p, 12, none⟩ (.int .i64 q)) (fun q => q = p)) := Lib.hid ((Frm.refl w (fun q => q = p)).set p 12 _ (.inl rfl))
 have HB : Hid (Blk (w.setCell ⟨p, 12, none⟩ (.int .i64 q)) p 61 (StV c rv pv tv lv e pl q k)) := Lib.hid (hb.set_ 12 _)
 clear hb hq
 go_enter Tryz.func53, Tryz.ntmps53
 go_wp2
 go_ret
 exact ⟨rfl, HF.out, HB.out⟩
theorem rgoes_no (p : Nat) (c : Cfg) (rv pv tv lv : Value) (e pl part k q y : Nat) (w : World) (hb : Blk w p 61 (StV c rv pv tv lv e pl part k)) (hq : q < part) :
  Calls Tryz.prog 53 #[.pointer (some ⟨p, 0, none⟩), .int .i64 q, .int .i64 y] w fun r w' => r = .returned (.bool false) ∧ Frm w w' (fun q => q = p) ∧ Blk w' p 61 (StV c rv pv tv lv 9 y part k) := by
 have x12 : w.cell? ⟨p, 12, none⟩ = some (.int .i64 part) := (hb.cell 12).trans rfl
 have e1 : decide ((q : Int) < (part : Int)) = true := decide_eq_true (by omega)
 have e2 : decide (q < part) = true := decide_eq_true hq
 have HC := Lib.hid (rfails_any p c rv pv tv lv e pl part k 9 y w hb)
 clear hb hq
 go_enter Tryz.func53, Tryz.ntmps53
 go_wp2_with (go_at_call 56; refine HC.out.mono ?_; rintro r w1 ⟨rfl, hF, hB⟩)
 go_ret
 exact ⟨rfl, hF, hB⟩
theorem info_str : (Tryz.prog.info? 9).map (fun i => (i.zero, i.size, i.bytes)) = some (some (.string ⟨#[]⟩), 1, 16) := by kernel_rfl
theorem gets (s : ByteArray) (j : Nat) (h : j < s.size) : s.data.toList[j]? = some (s.get! j) := by
 have h1 := get_at s j h
 rw [Nat.add_zero] at h1
 rw [h1, Array.getElem?_toList]
 exact Array.getElem?_eq_getElem h
theorem exts (s : ByteArray) (n i : Nat) : (s.extract n i).data.toList = (s.data.toList.take i).drop n := by
 rw [ByteArray.data_extract, Array.toList_extract]
 simp [List.extract, List.drop_take]
theorem str_back (s : ByteArray) : (⟨s.data.toList.toArray⟩ : ByteArray) = s := by cases s; simp
theorem words_hit (s : ByteArray) (n i : Nat) (hn : n ≤ i) (hi : i < s.size) (h : s.get! i = 32) (hb : ∀ j, n ≤ j → j < i → s.get! j ≠ 32) : splitF 32 (s.data.toList.drop n) = (s.extract n i).data.toList :: splitF 32 (s.data.toList.drop (i + 1)) := by
 have hlt : i < s.data.toList.length := by rw [Array.length_toList]; exact hi
 have h3 : s.data.toList[i] = 32 := by
  have := gets s i hi
  rw [List.getElem?_eq_getElem hlt, h] at this
  injection this
 have e : s.data.toList.drop n = (s.data.toList.take i).drop n ++ 32 :: s.data.toList.drop (i + 1) := by
  have h1 : s.data.toList = s.data.toList.take i ++ 32 :: s.data.toList.drop (i + 1) := by
   conv => lhs; rw [← List.take_append_drop i s.data.toList]
   rw [List.drop_eq_getElem_cons hlt, h3]
  conv => lhs; rw [h1]
  rw [List.drop_append, List.length_take, show n - min i s.data.toList.length = 0 by omega]
  rfl
 rw [e, exts]
 refine splitF_hit 32 _ _ fun hm => ?_
 obtain ⟨j, hj⟩ := List.getElem?_of_mem hm
 rw [List.getElem?_drop] at hj
 have hlt2 : n + j < i := by
  have := (List.getElem?_eq_some_iff.1 hj).1
  rw [List.length_take] at this
  omega
 rw [List.getElem?_take_of_lt hlt2, gets s (n + j) (by omega)] at hj
 injection hj with hj
 exact hb _ (by omega) hlt2 hj
theorem words_last (s : ByteArray) (n : Nat) (h : ∀ j, n ≤ j → j < s.size → s.get! j ≠ 32) : splitF 32 (s.data.toList.drop n) = [s.data.toList.drop n] := by
 refine splitF_miss 32 _ fun hm => ?_
 obtain ⟨j, hj⟩ := List.getElem?_of_mem hm
 rw [List.getElem?_drop] at hj
 have hlt : n + j < s.size := by
  have := (List.getElem?_eq_some_iff.1 hj).1
  rw [Array.length_toList] at this
  exact this
 rw [gets s (n + j) hlt] at hj
 injection hj with hj
 exact h _ (by omega) hlt hj
def SWordsPost (s : ByteArray) (w : World) (r : Ending) (w' : World) : Prop := ∃ v, r = .returned v ∧ w'.ownsRow w.heap.size 9 1 v (splitF 32 s.data.toList).length (rows stC (splitF 32 s.data.toList)) ∧ Below w.heap.size w w'
set_option maxHeartbeats 4000000 in
theorem swords_any (s : ByteArray) (hs : s.size ≤ 65535) (w : World) : Calls Tryz.prog 50 #[.string s] w (SWordsPost s w) := by
 obtain ⟨i0, hi, hz0, hz1, hz2⟩ := info_parts info_str
 go_enter Tryz.func50, Tryz.ntmps50
 go_wp2
 go_loopg [3, 4, 5] s.size (fun gk ov fv iv wr => ∃ (D : List (List UInt8)) (n i : Nat), fv = .int .i64 n ∧ iv = .int .i64 i ∧ n ≤ i ∧ i ≤ s.size ∧ gk = s.size - i ∧ D.length ≤ i ∧ wr.ownsRow w.heap.size 9 1 ov D.length (rows stC D) ∧ Below w.heap.size w wr ∧ Hid (D ++ splitF 32 (s.data.toList.drop n) = splitF 32 s.data.toList ∧ ∀ j, n ≤ j → j < i → s.get! j ≠ 32))
 case atStart => exact ⟨[], 0, 0, rfl, rfl, Nat.le_refl _, Nat.zero_le _, rfl, Nat.le_refl _, World.ownsRow_nil _ _ _ _, Below.refl _ _, Lib.hid ⟨rfl, fun j h1 h2 => absurd h2 (by omega)⟩⟩
 case round =>
  obtain ⟨D, n, i, rfl, rfl, hni, hil0, hgk, hDi, hown, hbw, HI⟩ := hrel
  have HG := Lib.hid hgk
  clear hgk
  obtain ⟨R, cR, rfl, _, _⟩ := own_shapes hown
  have hw0 := hbw.size
  have hc3 : D.length + 1 ≤ maxLen := (by unfold maxLen; omega)
  have hc4 : (D.length + 1) * 16 ≤ 140737488355328 := (by omega)
  have hn0 : (0 : Int) ≤ (n : Int) := by omega
  by_cases hil : i < s.size
  ·have e1 : decide ((i : Int) < (s.size : Int)) = true := decide_eq_true (by omega)
   have e2 : decide (i < s.size) = true := decide_eq_true hil
   have hgi : s.get! i = s[i]'hil := by have := get_at s i hil; rwa [Nat.add_zero] at this
   have zw : IntKind.i64.wrap ((i : Int) + 1) = (i : Int) + 1 := by rw [IntKind.wrap_i64]; omega
   by_cases h32 : s[i]'hil = 32
   ·have q32 : (((s[i]'hil).toNat : Int) == 32) = true := by rw [h32]; rfl
    have HT : Hid (s.get! i = 32) := Lib.hid (by rw [hgi, h32])
    have i2 : (n : Int) ≤ (i : Int) := by omega
    have i3 : (i : Int) ≤ (s.size : Int) := by omega
    have hc2 : ∀ u ∈ ([.string (s.extract n i)] : List Value), u.oneCell' = true := (by intro u hu; simp at hu; subst hu; rfl)
    have hc5 : w.heap.size ≤ (wr.alloc (.cells #[.string (s.extract n i)] 9)).heap.size := (by simp; omega)
    clear hgi h32
    go_wp2_with (at_builtin; go_must (refine wpList_append_own _ rfl _ _ 26 rfl w.heap.size 9 i0 (.string ⟨#[]⟩) 1 16 Tryz.underlying26 hi hz0 hz1 hz2 rfl (by decide) _ _ _ rfl (hown.alloc _) ⟨wr.heap.size, 0, none⟩ 1 1 [.string (s.extract n i)] rfl rfl (cell_one_new _ _ _) hc2 hc3 hc4 hc5 ?_; intro v' w2 hown2 hgrow2 _))
    go_roundg (s.size - (i + 1))
    case measure => have := HG.out; omega
    case rel =>
     refine ⟨D ++ [(s.extract n i).data.toList], i + 1, i + 1, by simp, by simp, Nat.le_refl _, by omega, rfl, by rw [List.length_append, List.length_singleton]; omega, ?_, ?_, Lib.hid ⟨?_, fun j h1 h2 => absurd h1 (by omega)⟩⟩
     ·rw [List.length_append, List.length_singleton, rows_snoc]
      show w2.ownsRow _ _ _ _ _ (rows stC D ++ [.string ⟨(s.extract n i).data.toList.toArray⟩])
      rw [str_back]
      exact hown2
     ·exact (hbw.alloc hw0 _).trans (below_grown (hown.alloc _) hgrow2 hc5)
     ·rw [← HI.out.1, words_hit s n i hni hil HT.out HI.out.2, List.append_assoc]
      rfl
   ·have q32 : (((s[i]'hil).toNat : Int) == 32) = false := by
     rw [beq_eq_false_iff_ne]
     intro e
     exact h32 (UInt8.toNat_inj.1 (by show _ = 32; omega))
    have HT : Hid (s.get! i ≠ 32) := Lib.hid (by rw [hgi]; exact h32)
    clear hgi h32
    go_wp2
    go_roundg (s.size - (i + 1))
    case measure => have := HG.out; omega
    case rel =>
     refine ⟨D, n, i + 1, rfl, by simp, by omega, by omega, rfl, by omega, hown, hbw, Lib.hid ⟨HI.out.1, fun j h1 h2 => ?_⟩⟩
     rcases Nat.lt_or_ge j i with h3 | h3
     ·exact HI.out.2 j h1 h3
     ·have : j = i := by omega
      subst this
      exact HT.out
  ·have e1 : decide ((i : Int) < (s.size : Int)) = false := decide_eq_false (by omega)
   have e2 : decide (i < s.size) = false := decide_eq_false hil
   have i3 : (n : Int) ≤ (s.size : Int) := by omega
   have hc2 : ∀ u ∈ ([.string (s.extract n s.size)] : List Value), u.oneCell' = true := (by intro u hu; simp at hu; subst hu; rfl)
   have hc5 : w.heap.size ≤ (wr.alloc (.cells #[.string (s.extract n s.size)] 9)).heap.size := (by simp; omega)
   go_wp2_with (at_builtin; go_must (refine wpList_append_own _ rfl _ _ 26 rfl w.heap.size 9 i0 (.string ⟨#[]⟩) 1 16 Tryz.underlying26 hi hz0 hz1 hz2 rfl (by decide) _ _ _ rfl (hown.alloc _) ⟨wr.heap.size, 0, none⟩ 1 1 [.string (s.extract n s.size)] rfl rfl (cell_one_new _ _ _) hc2 hc3 hc4 hc5 ?_; intro v' w2 hown2 hgrow2 _))
   go_ret
   refine ⟨v', rfl, ?_, (hbw.alloc hw0 _).trans (below_grown (hown.alloc _) hgrow2 hc5)⟩
   have hL : splitF 32 s.data.toList = D ++ [(s.extract n s.size).data.toList] := by
    rw [← HI.out.1, words_last s n fun j h1 h2 => HI.out.2 j h1 (by omega), exts, List.take_of_length_le (by rw [Array.length_toList]; exact Nat.le_refl _)]
   rw [hL, List.length_append, List.length_singleton, rows_snoc]
   show w2.ownsRow _ _ _ _ _ (rows stC D ++ [.string ⟨(s.extract n s.size).data.toList.toArray⟩])
   rw [str_back]
   exact hown2
theorem info_reg : (Tryz.prog.info? 67).map (fun i => (i.zero, i.size, i.bytes)) = some (some (.agg #[.int .i64 0, .int .i64 0]), 2, 16) := by kernel_rfl
theorem info_job : (Tryz.prog.info? 53).map (fun i => (i.zero, i.size, i.bytes)) = some (some (.agg #[.int .i64 0, .slice none 0 0]), 2, 32) := by kernel_rfl
theorem info_lin : (Tryz.prog.info? 49).map (fun i => (i.zero, i.size, i.bytes)) = some (some (.agg #[.int .i64 0, .slice none 0 0]), 2, 32) := by kernel_rfl
theorem info_jobs : (Tryz.prog.info? 50).map (fun i => (i.zero, i.size, i.bytes)) = some (some (.slice none 0 0), 1, 24) := by kernel_rfl
theorem info_i64 : (Tryz.prog.info? 2).map (fun i => (i.zero, i.size, i.bytes)) = some (some (.int .i64 0), 1, 8) := by kernel_rfl
theorem info_in : (Tryz.prog.info? 3).map (fun i => (i.zero, i.size, i.bytes)) = some (some (.int .i64 0), 1, 8) := by kernel_rfl

structure Oth (t : TypeId) : Prop where
 a : 67 ≠ t
 b : 9 ≠ t
 c : 50 ≠ t
 d : 53 ≠ t
 e : 2 ≠ t
 f : 49 ≠ t
 g : 3 ≠ t
theorem oth_rd : Oth 56 := ⟨by decide, by decide, by decide, by decide, by decide, by decide, by decide⟩
theorem oth_st : Oth 61 := ⟨by decide, by decide, by decide, by decide, by decide, by decide, by decide⟩

section
variable {B : Nat} {w WA w3 : World} {x : SSt} {rv pv tv lv : Value} {T : List (Value × List (PJob × Value))} {L : List (PLine × Value)} {p : Nat} {t : TypeId} {cs : Array Value}
theorem SetAt.setO (h : SetAt B w x rv pv tv lv T L) {b i : Nat} (hb : Blk w b t cs) (ho : Oth t) (u : Value) : SetAt B (w.setCell ⟨b, i, none⟩ u) x rv pv tv lv T L := h.set hb ho.a ho.b ho.c ho.d ho.e ho.f ho.g u
theorem blk_past {e n k B1 : Nat} {v : Value} {xs : List Value} (hb : Blk w p t cs) (hown : w.ownsRow B1 e k v n xs) (hne : e ≠ t) (hA : Below w.heap.size w WA) (hg : WA.grownBy w3 v.ownBlock) : Blk w3 p t cs :=
 (hg.block p (Nat.lt_of_lt_of_le hb.lt hA.size) (fun hh => own_ne_blk hown hb hne hh.symm)).trans ((hA.block p hb.lt).trans hb)
theorem below_past {e n k : Nat} {v : Value} {xs : List Value} (hown : w.ownsRow B e k v n xs) (hBw : B ≤ w.heap.size) (hA : Below w.heap.size w WA) (hg : WA.grownBy w3 v.ownBlock) : Below B w w3 :=
 (hA.mono hBw).trans (((Frm.refl WA (fun q => v.ownBlock = some q)).grown hg (fun q h => .inl h)).below (Nat.le_trans hBw hA.size) fun q hq => (hown.lt q hq).1)
theorem below_put {e n k : Nat} {v : Value} {xs : List Value} (hown : w.ownsRow B e k v n xs) (hBw : B ≤ w.heap.size) (hBp : B ≤ p) (hA : Below w.heap.size w WA) (hg : WA.grownBy w3 v.ownBlock) (i : Nat) (u : Value) : Below B w (w3.setCell ⟨p, i, none⟩ u) :=
 (below_past hown hBw hA hg).setCell hBp u
theorem SetAt.frm {q : Nat} {w' : World} (h : SetAt B w x rv pv tv lv T L) (hb : Blk w q t cs) (ho : Oth t) (hf : Frm w w' fun z => z = q) : SetAt B w' x rv pv tv lv T L := by
 have key : ∀ {e n k : Nat} {v : Value} {xs : List Value}, w.ownsRow B e k v n xs → e ≠ t → w'.ownsRow B e k v n xs := fun hown hne => own_keep hown fun b hbb => hf.block b (hown.lt b hbb).2 fun hq => own_ne_blk hown hb hne (by rw [hbb, hq])
 have key2 : ∀ {α : Type} {e k : Nat} {enc : α → List Value} {l : List (Value × List α)}, Kids B w e k enc l → e ≠ t → Kids B w' e k enc l := fun hk hne => hk.keep fun y hy b hbb => hf.block b (hk.lt hy hbb).2 fun hq => own_ne_blk (hk.own y hy) hb hne (by rw [hbb, hq])
 exact ⟨key h.regs ho.a, key h.progs ho.b, key h.thr ho.c, key2 h.jobs ho.d, key2 h.args ho.e, h.thrEq, key h.lines ho.f, key2 h.steps ho.g, h.linesEq⟩
theorem SetAt.put_region (h : SetAt B w x rv pv tv lv T L) (hb : Blk w p t cs) (ho : Oth t) (hBw : B ≤ w.heap.size) (hBp : B ≤ p) (hA : Below w.heap.size w WA) (hg : WA.grownBy w3 rv.ownBlock) (r : Reg) {rv' : Value}
  (hv : w3.ownsRow B 67 2 rv' (x.set.regs.length + 1) (rows rgC x.set.regs ++ rgC r)) (i : Nat) :
  Blk (w3.setCell ⟨p, i, none⟩ rv') p t (cs.setIfInBounds i rv') ∧ SetAt B (w3.setCell ⟨p, i, none⟩ rv') { x with set := { x.set with regs := x.set.regs ++ [r] } } rv' pv tv lv T L ∧ Below B w (w3.setCell ⟨p, i, none⟩ rv') := by
 have hb3 := blk_past hb h.regs ho.a hA hg
 exact ⟨hb3.set_ i _, (h.region hA hg r hv).setO hb3 ho _, below_put h.regs hBw hBp hA hg i _⟩
theorem SetAt.put_program (h : SetAt B w x rv pv tv lv T L) (hb : Blk w p t cs) (ho : Oth t) (hBw : B ≤ w.heap.size) (hBp : B ≤ p) (hA : Below w.heap.size w WA) (hg : WA.grownBy w3 pv.ownBlock) (r : List UInt8) {pv' : Value}
  (hv : w3.ownsRow B 9 1 pv' (x.set.progs.length + 1) (rows stC x.set.progs ++ stC r)) (i : Nat) :
  Blk (w3.setCell ⟨p, i, none⟩ pv') p t (cs.setIfInBounds i pv') ∧ SetAt B (w3.setCell ⟨p, i, none⟩ pv') { x with set := { x.set with progs := x.set.progs ++ [r] } } rv pv' tv lv T L ∧ Below B w (w3.setCell ⟨p, i, none⟩ pv') := by
 have hb3 := blk_past hb h.progs ho.b hA hg
 exact ⟨hb3.set_ i _, (h.program hA hg r hv).setO hb3 ho _, below_put h.progs hBw hBp hA hg i _⟩
theorem SetAt.put_thread (h : SetAt B w x rv pv tv lv T L) (hb : Blk w p t cs) (ho : Oth t) (hBw : B ≤ w.heap.size) (hBp : B ≤ p) (hA : Below w.heap.size w WA) (hg : WA.grownBy w3 tv.ownBlock) {tv' : Value}
  (hv : w3.ownsRow B 50 1 tv' (T.length + 1) (rows valC (T.map (·.1)) ++ [.slice none 0 0])) (i : Nat) :
  Blk (w3.setCell ⟨p, i, none⟩ tv') p t (cs.setIfInBounds i tv') ∧ SetAt B (w3.setCell ⟨p, i, none⟩ tv') { x with set := { x.set with thr := x.set.thr ++ [[]] } } rv pv tv' lv (T ++ [(.slice none 0 0, [])]) L ∧ Below B w (w3.setCell ⟨p, i, none⟩ tv') := by
 have hb3 := blk_past hb h.thr ho.c hA hg
 exact ⟨hb3.set_ i _, (h.thread hA hg hv).setO hb3 ho _, below_put h.thr hBw hBp hA hg i _⟩
theorem SetAt.put_line (h : SetAt B w x rv pv tv lv T L) (hb : Blk w p t cs) (ho : Oth t) (hBw : B ≤ w.heap.size) (hBp : B ≤ p) (hA : Below w.heap.size w WA) (hg : WA.grownBy w3 lv.ownBlock) (l : PLine) (n : Nat) {lv' v : Value}
  (hv : w3.ownsRow B 49 2 lv' (L.length + 1) (rows lnC L ++ lnC (l, v))) (ht : w3.ownsRow B 3 1 v l.thr.length (rows natC l.thr)) (hf : ∀ q, v.ownBlock = some q → w.heap.size ≤ q) (i : Nat) :
  Blk (w3.setCell ⟨p, i, none⟩ lv') p t (cs.setIfInBounds i lv') ∧ SetAt B (w3.setCell ⟨p, i, none⟩ lv') ⟨x.set, x.lines ++ [l], n⟩ rv pv tv lv' T (L ++ [(l, v)]) ∧ Below B w (w3.setCell ⟨p, i, none⟩ lv') := by
 have hb3 := blk_past hb h.lines ho.f hA hg
 exact ⟨hb3.set_ i _, (h.line hA hg hv ht hf).setO hb3 ho _, below_put h.lines hBw hBp hA hg i _⟩
theorem SetAt.put_job {v av : Value} {g gg cap cap' : Nat} {T0 : List (Value × List (PJob × Value))} {js : List (PJob × Value)} {j : PJob} {wr : World} {N : Nat} (hN : N = T0.length)
  (h : SetAt B w x rv pv (.slice (some ⟨g, 0, none⟩) (N + 1) cap) lv (T0 ++ [(v, js)]) L) (hb : Blk w p t cs) (ho : Oth t) (hBw : B ≤ w.heap.size) (hBg : B ≤ g) (hbr : Below w.heap.size w wr) (hA : Below wr.heap.size wr WA)
  (hav : wr.ownsRow w.heap.size 2 1 av j.args.length (rows i64C j.args)) (hg : WA.grownBy w3 v.ownBlock) (hv : w3.ownsRow B 53 2 (.slice (some ⟨gg, 0, none⟩) (js.length + 1) cap') (js.length + 1) (rows jbC js ++ jbC (j, av))) (hat : v.ownBlock = some gg ∨ gg = wr.heap.size + 1) :
  Blk (w3.setCell ⟨g, N, none⟩ (.slice (some ⟨gg, 0, none⟩) (js.length + 1) cap')) p t cs ∧
  SetAt B (w3.setCell ⟨g, N, none⟩ (.slice (some ⟨gg, 0, none⟩) (js.length + 1) cap')) { x with set := { x.set with thr := addJob x.set.thr j } } rv pv (.slice (some ⟨g, 0, none⟩) (N + 1) cap) lv (T0 ++ [(.slice (some ⟨gg, 0, none⟩) (js.length + 1) cap', js ++ [(j, av)])]) L ∧
  Below B w (w3.setCell ⟨g, N, none⟩ (.slice (some ⟨gg, 0, none⟩) (js.length + 1) cap')) := by
 subst hN
 have hws := hbr.size
 have hA' : Below w.heap.size w WA := hbr.trans (hA.mono hws)
 have hjo : w.ownsRow B 53 2 v js.length (rows jbC js) := h.jobs.own (v, js) (by simp)
 have h1 := h.job hA' (own_lower (own_beb hav hA) hBw) (fun q hq => (hav.lt q hq).1) hg hv (fun q hq => by
  injection hq with hq
  have hq' : gg = q := hq
  subst hq'
  exact hat.imp id fun h => by omega)
 have hb3 := blk_past hb hjo ho.d hA' hg
 have hgp : p ≠ g := fun e => own_ne_blk h.thr hb ho.c (by rw [e]; rfl)
 exact ⟨Blk.far hb3 hgp _, h1, (below_past hjo hBw hA' hg).setCell hBg _⟩
theorem SetAt.lens (h : SetAt B w x rv pv tv lv T L) : T.length = x.set.thr.length ∧ L.length = x.lines.length := by
 constructor
 ·have := congrArg List.length h.thrEq
  simpa using this
 ·have := congrArg List.length h.linesEq
  simpa using this
end
end Go.Proofs.YtiheggkkgbfndaaGreatDoor
