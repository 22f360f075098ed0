/- Steps of a region that draws its order, in a frame that is a variable: a law each. -/
import Derived.Test.YtffjcojehiblnaaGreatDoorPc
import Derived.Deep.RegionHeldLaw
import Derived.Deep.MidRow
import Derived.Great.BuildSlice
import Derived.Great.Frames
import Derived.Deep.RegionLaw
namespace Go.Proofs.YtffjcojehiblnaaGreatDoor
open Go.RowKit Go.Joins Go.ChangeShapes Go.WideShapes Go.Deep
set_option linter.unusedVariables false
set_option linter.unusedSimpArgs false
set_option maxRecDepth 100000

theorem info_ev : (Tryz.prog.info? 43).map (fun i => (i.zero, i.size, i.bytes)) = some (some (.agg #[.int .i64 0, .int .i64 0, .int .i64 0, .int .i64 0, .int .i64 0, .int .i64 0, .bool false, .int .i64 0, .int .i64 0, .int .i64 0, .int .u64 0, .int .u64 0, .int .u64 0, .int .u64 0, .int .u64 0, .int .u64 0, .int .u64 0, .int .u64 0, .int .i64 0]), 19, 152) := by kernel_rfl
theorem ev_one (e : Ev) : ∀ u ∈ (evcs e).toList, u.oneCell' = true := by simp [evcs, Value.oneCell']

section
variable {P : Program} {md : Region.Mode} {ops : Array Oper} {Q : Exit → Act → World → Prop} {S : World → Prop}
theorem wp_abs {c : Code} {a : Act} {w : World} (h : ∀ a', a' = a → Code.wp P c Q a' w) : Code.wp P c Q a w := h a rfl
theorem wp_world {c : Code} {a : Act} {w : World} (h : ∀ w', w' = w → Code.wp P c Q a w') : Code.wp P c Q a w := h w rfl
/-- One operation is taken first: the frame with its value. -/
theorem take_at (i : Nat) (d : Nat) {oi : Oper} {v : Value} {fuel : Nat} {listed : Array Bool} {a : Act} {w : World} (hi : ops[i]? = some oi) (hd : oi.dst = some d)
    (hs : Region.noSelect ops = true) (hf : Region.free md ops listed i = true) (hr : (Region.ready md ops listed).contains i = true)
    (hQ : ∀ c a w, Q (.panic c) (a.put (some d) v) w → Q (.panic c) a w) (hy : YieldsIf P ops S oi v a) (hS : S w)
    (h : wpAnyH P md ops Q S fuel (listed.setIfInBounds i true) (a.put (some d) v) w) : wpAnyH P md ops Q S (fuel + 1) listed a w := by
  rw [← hd] at hQ h
  exact wpAnyH_take hi hs hf hr hQ hy hS h
theorem yi_of {o : Oper} {a : Act} {v : Value} (hg : o.guard = none) (h : ∀ w, S w → (execOp a.eval o).run P w = .ok (.value v) w) : YieldsIf P ops S o v a :=
  .inl ⟨by simp [Region.wanted, hg], h⟩
theorem yi_move {o : Oper} {a : Act} {v : Value} (hg : o.guard = none) (x : Operand) (ho : o.op = .move x) (hx : a.eval x = v) : YieldsIf P ops S o v a :=
  yi_of hg fun w _ => by simp [execOp, ho, hx]
theorem yi_nilCheck {o : Oper} {a : Act} {p : Addr} (hg : o.guard = none) (x : Operand) (ho : o.op = .nilCheck x) (hx : a.eval x = .pointer (some p)) : YieldsIf P ops S o (.pointer (some p)) a :=
  yi_of hg fun w _ => by simp [execOp, ho, hx]
theorem yi_field {o : Oper} {a : Act} {b k : Nat} {fs : Array Field} {f : Field} (hg : o.guard = none) (s : TypeId) (x : Operand) (i : Nat) (ho : o.op = .fieldAddr s x i) (hx : a.eval x = .pointer (some ⟨b, k, none⟩)) (hu : P.underlying s = some (.struct fs)) (hf : fs[i]? = some f) {q : Addr} (hfp : ∀ w, (fieldPlace ⟨b, k, none⟩ f).run P w = .ok q w) :
    YieldsIf P ops S o (.pointer (some q)) a :=
  yi_of hg fun w _ => by simp [execOp, ho, hx, Instr.fieldAt, Instr.sureAddr, run_underlying hu, hf, hfp]
theorem yi_load1 {o : Oper} {a : Act} {p : Addr} {v : Value} (hg : o.guard = none) (t : TypeId) (x : Operand) (ho : o.op = .load t x) (hx : a.eval x = .pointer (some p)) (h : ∀ w, S w → (loadVar t p).run P w = .ok v w) : YieldsIf P ops S o v a :=
  yi_of hg fun w hw => by simp [execOp, ho, hx, Instr.loadAt, Instr.sureAddr, h w hw]
/-- One that alone may come up: it is done; what follows. -/
theorem step_at (i : Nat) (d : Option Tmp) (op : Op) {oi : Oper} {fuel : Nat} {listed : Array Bool} {a : Act} {w : World} (hr : Region.ready md ops listed = [i]) (hi : ops[i]? = some oi) (hg : oi.guard = none) (hd : oi.dst = d) (ho : oi.op = op)
    (h : ∀ (K : Act → World → Prop) (o : Oper), o.dst = d → o.op = op → Shut (∀ a w, S w → wpAnyH P md ops Q S fuel (listed.setIfInBounds i true) a w → K a w) → Oper.wp P o a w K Q) : wpAnyH P md ops Q S (fuel + 1) listed a w :=
  wpAnyH_ready hr (by simp) (AllReadyH.cons hi (fun K hK => by
    rw [if_pos (by simp [Region.wanted, hg])]
    exact h K oi hd ho fun a w hS hW => hK a w hS fun _ => hW) AllReadyH.nil)
theorem put_comm (a : Act) (d1 d2 : Nat) (v u : Value) (h : d1 ≠ d2) : (a.put (some d2) u).put (some d1) v = (a.put (some d1) v).put (some d2) u := by
  simp only [Act.put]
  rw [Array.setIfInBounds_comm _ _ (Ne.symm h)]
/-- Two that may come up in either order and do not meet: their end is one. -/
theorem pair_at (i j d1 d2 : Nat) (op1 op2 : Op) {oi oj : Oper} {v u : Value} {fuel : Nat} {listed : Array Bool} {a : Act} {w w2 : World} (hr : Region.ready md ops listed = [i, j])
    (hi : ops[i]? = some oi) (hgi : oi.guard = none) (hdi : oi.dst = some d1) (hoi : oi.op = op1) (hj : ops[j]? = some oj) (hgj : oj.guard = none) (hdj : oj.dst = some d2) (hoj : oj.op = op2)
    (hri : Region.ready md ops (listed.setIfInBounds i true) = [j]) (hrj : Region.ready md ops (listed.setIfInBounds j true) = [i]) (hij : i ≠ j) (hne : d1 ≠ d2)
    (h1 : ∀ (K : Act → World → Prop) (o : Oper) (a' : Act) (w' : World), (a' = a ∧ w' = w ∨ a' = a.put (some d2) u ∧ w' = w2) → o.dst = some d1 → o.op = op1 → K (a'.put o.dst v) w' → o.wp P a' w' K Q)
    (h2 : ∀ (K : Act → World → Prop) (o : Oper) (a' : Act), (a' = a ∨ a' = a.put (some d1) v) → o.dst = some d2 → o.op = op2 → K (a'.put o.dst u) w2 → o.wp P a' w K Q)
    (hS : S w) (hS2 : S w2)
    (h : wpAnyH P md ops Q S fuel ((listed.setIfInBounds i true).setIfInBounds j true) ((a.put (some d1) v).put (some d2) u) w2) : wpAnyH P md ops Q S (fuel + 2) listed a w := by
  refine wpAnyH_ready (fuel := fuel + 1) hr (by simp) (AllReadyH.cons hi (fun K hK => ?_) (AllReadyH.cons hj (fun K hK => ?_) AllReadyH.nil))
  · rw [if_pos (by simp [Region.wanted, hgi])]
    refine h1 K oi a w (.inl ⟨rfl, rfl⟩) hdi hoi (hK.out _ _ hS fun _ => ?_)
    rw [hdi]
    refine step_at j (some d2) op2 hri hj hgj hdj hoj fun K o hd ho hK => h2 K o _ (.inr rfl) hd ho ?_
    rw [hd]
    exact hK.out _ _ hS2 h
  · rw [if_pos (by simp [Region.wanted, hgj])]
    refine h2 K oj a (.inl rfl) hdj hoj (hK.out _ _ hS2 fun _ => ?_)
    rw [hdj]
    refine step_at i (some d1) op1 hrj hi hgi hdi hoi fun K o hd ho hK => h1 K o _ w2 (.inr ⟨rfl, rfl⟩) hd ho ?_
    rw [hd]
    refine hK.out _ _ hS2 ?_
    rw [put_comm _ _ _ _ _ hne, Array.setIfInBounds_comm _ _ (Ne.symm hij)]
    exact h
/-- One that may come up before, amid or behind two in a row, and does not meet them. -/
theorem chain_at (i j k d1 d2 d3 : Nat) (op1 op2 op3 : Op) {oi oj ok : Oper} {v u z : Value} {fuel : Nat} {listed : Array Bool} {a : Act} {w w2 w3 : World} (hr : Region.ready md ops listed = [i, j])
    (hi : ops[i]? = some oi) (hgi : oi.guard = none) (hdi : oi.dst = some d1) (hoi : oi.op = op1) (hj : ops[j]? = some oj) (hgj : oj.guard = none) (hdj : oj.dst = some d2) (hoj : oj.op = op2) (hk : ops[k]? = some ok) (hgk : ok.guard = none) (hdk : ok.dst = some d3) (hok : ok.op = op3)
    (hri : Region.ready md ops (listed.setIfInBounds i true) = [j]) (hrij : Region.ready md ops ((listed.setIfInBounds i true).setIfInBounds j true) = [k]) (hrj : Region.ready md ops (listed.setIfInBounds j true) = [i, k])
    (hrji : Region.ready md ops ((listed.setIfInBounds j true).setIfInBounds i true) = [k]) (hrjk : Region.ready md ops ((listed.setIfInBounds j true).setIfInBounds k true) = [i]) (hij : i ≠ j) (hik : i ≠ k) (hne : d1 ≠ d2) (hne3 : d1 ≠ d3)
    (h1 : ∀ (K : Act → World → Prop) (o : Oper) (a' : Act) (w' : World), (a' = a ∧ w' = w ∨ a' = a.put (some d2) u ∧ w' = w2 ∨ a' = (a.put (some d2) u).put (some d3) z ∧ w' = w3) → o.dst = some d1 → o.op = op1 → K (a'.put o.dst v) w' → o.wp P a' w' K Q)
    (h2 : ∀ (K : Act → World → Prop) (o : Oper) (a' : Act), (a' = a ∨ a' = a.put (some d1) v) → o.dst = some d2 → o.op = op2 → K (a'.put o.dst u) w2 → o.wp P a' w K Q)
    (h3 : ∀ (K : Act → World → Prop) (o : Oper) (a' : Act), (a' = a.put (some d2) u ∨ a' = (a.put (some d2) u).put (some d1) v) → o.dst = some d3 → o.op = op3 → K (a'.put o.dst z) w3 → o.wp P a' w2 K Q)
    (hS : S w) (hS2 : S w2) (hS3 : S w3)
    (h : wpAnyH P md ops Q S fuel (((listed.setIfInBounds j true).setIfInBounds i true).setIfInBounds k true) (((a.put (some d2) u).put (some d1) v).put (some d3) z) w3) : wpAnyH P md ops Q S (fuel + 3) listed a w := by
  refine wpAnyH_ready (fuel := fuel + 2) hr (by simp) (AllReadyH.cons hi (fun K hK => ?_) (AllReadyH.cons hj (fun K hK => ?_) AllReadyH.nil))
  · rw [if_pos (by simp [Region.wanted, hgi])]
    refine h1 K oi a w (.inl ⟨rfl, rfl⟩) hdi hoi (hK.out _ _ hS fun _ => ?_)
    rw [hdi]
    refine step_at (fuel := fuel + 1) j (some d2) op2 hri hj hgj hdj hoj fun K o hd ho hK => h2 K o _ (.inr rfl) hd ho ?_
    rw [hd]
    refine hK.out _ _ hS2 ?_
    rw [← put_comm _ _ _ _ _ hne]
    refine step_at k (some d3) op3 hrij hk hgk hdk hok fun K o hd ho hK => h3 K o _ (.inr rfl) hd ho ?_
    rw [hd]
    refine hK.out _ _ hS3 ?_
    rw [Array.setIfInBounds_comm _ _ hij]
    exact h
  · rw [if_pos (by simp [Region.wanted, hgj])]
    refine h2 K oj a (.inl rfl) hdj hoj (hK.out _ _ hS2 fun _ => ?_)
    rw [hdj]
    exact pair_at i k d1 d3 op1 op3 hrj hi hgi hdi hoi hk hgk hdk hok hrji hrjk hik hne3
      (fun K o a' w' hh => h1 K o a' w' (hh.elim (fun h => .inr (.inl h)) fun h => .inr (.inr h))) h3 hS2 hS3 h
end
section
variable {P : Program} {Q : Exit → Act → World → Prop} {K : Act → World → Prop}
theorem wp_store1 {o : Oper} {a : Act} {w : World} {p : Addr} {v : Value} (t : TypeId) (x y : Operand) (ho : o.op = .store t x y) (hd : o.dst = none) (hx : a.eval x = .pointer (some p)) (hy : a.eval y = v)
    (hs : (storeVar t p v).run P w = .ok () (w.setCell p v)) (h : K a (w.setCell p v)) : o.wp P a w K Q := by
  unfold Oper.wp
  simp [execOp, ho, hx, hy, Instr.storeAt, Instr.sureAddr, hs, Oper.upon, hd, Act.put]
  exact h
end

theorem eval_const (a : Act) (v : Value) : a.eval (.const v) = v := rfl
theorem yi_build {P : Program} {ops : Array Oper} {S : World → Prop} {o : Oper} {a : Act} {v : Value} (hg : o.guard = none) (t : TypeId) (parts : Array (Nat × Operand)) (vals : Array (Nat × Value)) (ho : o.op = .build t parts) (hp : parts.map (fun (i, x) => (i, a.eval x)) = vals) (h : ∀ w, (Instr.build t vals).run P w = .ok v w) : YieldsIf P ops S o v a :=
  yi_of hg fun w _ => by simp only [execOp, ho, hp, Sem.run_bind, h w, Sem.run_pure, Result.andThen_ok]
theorem wp_load1 {P : Program} {Q : Exit → Act → World → Prop} {K : Act → World → Prop} {o : Oper} {a : Act} {w : World} {p : Addr} {v : Value} {t : TypeId} (x : Operand) (ho : o.op = .load t x) (hx : a.eval x = .pointer (some p)) (hc : (loadVar t p).run P w = .ok v w) (h : K (a.put o.dst v) w) : o.wp P a w K Q := by
  unfold Oper.wp
  simp only [execOp, ho, hx, Instr.loadAt, Instr.sureAddr, Sem.run_bind, Sem.run_pure, Result.andThen_ok, hc]
  exact h
theorem wp_box1 {P : Program} {Q : Exit → Act → World → Prop} {K : Act → World → Prop} {o : Oper} {a : Act} {w w' : World} {v : Value} {p : Addr} (t : TypeId) (x : Operand) (ho : o.op = .box t x) (hx : a.eval x = v) (hn : (newVar t v).run P w = .ok p w') (h : K (a.put o.dst (.pointer (some p))) w') : o.wp P a w K Q := by
  unfold Oper.wp
  simp only [execOp, ho, hx, Instr.box, Sem.run_bind, Sem.run_pure, Result.andThen_ok, hn]
  exact h
theorem wpList_load_g {P : Program} {Q : Exit → Act → World → Prop} {ops : Array Oper} {rest : List Oper} {op : Oper} {a : Act} {w : World} (hw : Region.wanted op (yielded ops a.tmps) = true) (ty : TypeId) (x : Operand) (ho : op.op = .load ty x)
    (b o : Nat) (hx : a.eval x = .pointer (some ⟨b, o, none⟩)) (cs : List Value) (d : TypeDesc) (hc : w.rangeAt b o cs)
    (hu : P.underlying ty = some d) (hd : d.isRow = true) (hi : (P.info? ty).map (·.size) = some cs.length)
    (h : wpList P ops Q rest (a.put op.dst (.agg cs.toArray)) w) : wpList P ops Q (op :: rest) a w :=
  wpList_step fun K hK => by rw [if_pos hw]; exact wp_load_mid ty x ho b o hx cs d hc hu hd hi (hK _ _ h)

/-- What the loads of the append read, as the region goes on. -/
structure EvS (q : Nat) (e : Ev) (w' : World) : Prop where
  ev : w'.rangeAt q 0 (evcs e).toList
theorem ev_at {q : Nat} {e : Ev} {W : World} (h : W.rangeAt q 0 (evcs e).toList) (i : Nat) (v : Value) (hv : (evcs e).toList[i]? = some v) : W.cell? ⟨q, i, none⟩ = some v := by
  have := h i v hv
  rwa [Nat.zero_add] at this
theorem EvS.grown {q : Nat} {e : Ev} {W w2 : World} {o : Option Nat} (h : EvS q e W) (hg : W.grownBy w2 o) (hq : q < W.heap.size) (n1 : o ≠ some q) : EvS q e w2 :=
  ⟨fun j v hv => (hg.cell_far ⟨q, 0 + j, none⟩ hq (Ne.symm n1)).trans (h.ev j v hv)⟩
theorem EvS.set {q : Nat} {e : Ev} {W : World} (h : EvS q e W) (p : Addr) (v : Value) (hp : p.block ≠ q) : EvS q e (W.setCell p v) :=
  ⟨fun j u hv => (World.cell?_setCell_far W p ⟨q, 0 + j, none⟩ v hp).trans (h.ev j u hv)⟩
theorem wp_load_sl {Q : Exit → Act → World → Prop} {K : Act → World → Prop} {o : Oper} {a : Act} {w : World} {p : Addr} {v : Value} (x : Operand) (ho : o.op = .load 22 x) (hx : a.eval x = .pointer (some p)) (hc : w.cell? p = some v) (h : K (a.put o.dst v) w) : o.wp Tryz.prog a w K Q := by
  have e1 : (loadVar 22 p).run Tryz.prog w = .ok v w := by go_simp
  unfold Oper.wp
  simp only [execOp, ho, hx, Instr.loadAt, Instr.sureAddr, Sem.run_bind, Sem.run_pure, Result.andThen_ok, e1]
  exact h
theorem ev_load {q : Nat} {e : Ev} {w' : World} (h : w'.rangeAt q 0 (evcs e).toList) : (loadVar 43 ⟨q, 0, none⟩).run Tryz.prog w' = .ok (.agg (evcs e)) w' := by
  have := run_loadVar_mid (P := Tryz.prog) w' q 0 43 (evcs e).toList _ h Tryz.underlying43 (by rfl) (by kernel_rfl)
  simpa using this
theorem ev_fill (e : Ev) : Instr.fill (fun i => some (i * 19, 19)) ((Array.range (1 * 19)).map ((Value.agg #[.int .i64 0, .int .i64 0, .int .i64 0, .int .i64 0, .int .i64 0, .int .i64 0, .bool false, .int .i64 0, .int .i64 0, .int .i64 0, .int .u64 0, .int .u64 0, .int .u64 0, .int .u64 0, .int .u64 0, .int .u64 0, .int .u64 0, .int .u64 0, .int .i64 0]).cells[· % (Value.agg #[.int .i64 0, .int .i64 0, .int .i64 0, .int .i64 0, .int .i64 0, .int .i64 0, .bool false, .int .i64 0, .int .i64 0, .int .i64 0, .int .u64 0, .int .u64 0, .int .u64 0, .int .u64 0, .int .u64 0, .int .u64 0, .int .u64 0, .int .u64 0, .int .i64 0]).cells.size]!)) [(0, .agg (evcs e))] = some (evcs e) := by kernel_rfl
theorem wp_build_ev {Q : Exit → Act → World → Prop} {K : Act → World → Prop} {o : Oper} {a : Act} {w : World} {e : Ev} (x : Operand) (ho : o.op = .buildSlice 22 1 #[(0, x)]) (hx : a.eval x = .agg (evcs e))
    (h : K (a.put o.dst (.slice (some ⟨w.heap.size, 0, none⟩) 1 1)) (w.alloc (.cells (evcs e) 43))) : o.wp Tryz.prog a w K Q := by
  obtain ⟨i0, hi0, hz0, hz1, hz2⟩ := info_parts info_ev
  refine wp_buildSlice 22 43 1 #[(0, x)] ho (evcs e) i0 _ Tryz.underlying22 hi0 hz0 (by rw [hz1]; decide) (by rw [hz1]; decide) ?_ h
  simp only [List.map_toArray, List.map_cons, List.map_nil, hx, hz1]
  exact ev_fill e
theorem news_ev (W : World) (e : Ev) : ∀ j u, (evcs e).toList[j]? = some u → (W.alloc (.cells (evcs e) 43)).cell? ((⟨W.heap.size, 0, none⟩ : Addr).add j) = some u := World.news_of_block (cs := evcs e) (t := 43) (fr := (0, 0)) (heap_alloc_new W _)
theorem ev_range (W : World) (e : Ev) : (W.alloc (.cells (evcs e) 43)).rangeAt W.heap.size 0 (evcs e).toList := fun j v hv => by
  rw [Nat.zero_add, cell_of_row _ _ j (evcs e) _ _ (heap_alloc_new W _)]
  rw [Array.getElem?_toList] at hv
  exact hv
theorem sl_load {p : Addr} {w : World} {v : Value} (h : w.cell? p = some v) : (loadVar 22 p).run Tryz.prog w = .ok v w := by
  go_simp
theorem sl_store {p : Addr} {w : World} {u : Value} {q : Option Addr} {n c : Nat} (h : w.cell? p = some u) (hf : w.frozen? p = false) : (storeVar 22 p (.slice q n c)).run Tryz.prog w = .ok () (w.setCell p (.slice q n c)) := by
  go_simp
end Go.Proofs.YtffjcojehiblnaaGreatDoor
