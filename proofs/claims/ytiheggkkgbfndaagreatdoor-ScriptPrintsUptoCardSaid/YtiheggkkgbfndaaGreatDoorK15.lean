/- Runs of the same number, as Print and as the document find them; plain. -/
import Derived.Test.YtiheggkkgbfndaaGreatDoorK14
import Derived.Test.YtiheggkkgbfndaaGreatDoorK13
namespace Go.Proofs.YtiheggkkgbfndaaGreatDoor
open Go Go.Lib
set_option linter.unusedVariables false
set_option linter.unusedSimpArgs false
theorem runsF_head (b : Nat) (l : List Nat) : ∃ k r, runsF (b :: l) = (b, k) :: r := by
 unfold runsF
 cases runsF l with
 | nil => exact ⟨_, _, rfl⟩
 | cons y r =>
  obtain ⟨c, k⟩ := y
  simp only
  by_cases hb : b = c
  ·subst hb
   rw [if_pos rfl]
   exact ⟨_, _, rfl⟩
  ·rw [if_neg hb]
   exact ⟨_, _, rfl⟩
theorem runsF_one (a : Nat) (r : List Nat) (h : r.head? ≠ some a) : runsF (a :: r) = (a, 1) :: runsF r := by
 cases r with
 | nil => rfl
 | cons b r =>
  obtain ⟨k, r', hr⟩ := runsF_head b r
  have hne : a ≠ b := fun e => h (by rw [e]; rfl)
  rw [runsF, hr]
  simp only
  rw [if_neg hne]
theorem runsF_append : ∀ (L r : List Nat), (∀ a, L.getLast? = some a → r.head? ≠ some a) → runsF (L ++ r) = runsF L ++ runsF r
 | [], r, _ => rfl
 | [a], r, h => by
  rw [List.singleton_append, runsF_one a r (h a rfl)]
  rfl
 | a :: b :: L, r, h => by
  have ih := runsF_append (b :: L) r fun c hc => h c (by rw [List.getLast?_cons_cons]; exact hc)
  obtain ⟨k, q, hq⟩ := runsF_head b L
  rw [List.cons_append, runsF, ih, hq, runsF, hq, List.cons_append]
  simp only
  split <;> rfl
theorem runsF_same (a : Nat) : ∀ m, runsF (List.replicate (m + 1) a) = [(a, m + 1)]
 | 0 => rfl
 | m + 1 => by
  rw [List.replicate_succ, runsF, runsF_same a m]
  simp only
  rw [if_pos trivial]
theorem runsF_run (L : List Nat) (a m : Nat) (h : L.getLast? ≠ some a) : runsF (L ++ List.replicate (m + 1) a) = runsF L ++ [(a, m + 1)] := by
 rw [runsF_append L _ fun b hb he => h (by rw [List.replicate_succ, List.head?_cons] at he; rw [hb]; exact he.symm ▸ rfl), runsF_same]
theorem stepsT_run (L : List Nat) (a m : Nat) (h : L.getLast? ≠ some a) : wRun ++ (runsF (L ++ List.replicate (m + 1) a)).flatMap itemT = wRun ++ (runsF L).flatMap itemT ++ itemT (a, m + 1) := by
 rw [runsF_run L a m h, List.flatMap_append, List.append_assoc]
 simp
/-! ### prefixes -/
theorem manyF_snoc (l : List (Nat × Nat)) (x : Nat × Nat) : manyF (l ++ [x]) = manyF l + x.2 := by
 unfold manyF
 rw [List.map_append, List.sum_append]
 simp
theorem spread_snoc (l : List (Nat × Nat)) (x : Nat × Nat) : spread (l ++ [x]) = spread l ++ List.replicate x.2 x.1 := by
 unfold spread
 rw [List.flatMap_append]
 simp
theorem itemsL_snoc : ∀ (l : List (List UInt8)) (s : List UInt8), itemsL (l ++ [s]) = match itemsL l, itemL s with | some r, some x => some (r ++ [x]) | _, _ => none
 | [], s => by
  rw [List.nil_append, itemsL, itemsL]
  cases itemL s <;> rfl
 | a :: l, s => by
  rw [List.cons_append, itemsL, itemsL_snoc l s, itemsL]
  cases itemL a <;> cases itemsL l <;> cases itemL s <;> rfl
theorem itemsL_none : ∀ {l r : List (List UInt8)}, itemsL l = none → itemsL (l ++ r) = none
 | [], r, h => by cases h
 | a :: l, r, h => by
  rw [itemsL] at h
  rw [List.cons_append, itemsL]
  cases ha : itemL a with
  | none => rfl
  | some x =>
   cases hl : itemsL l with
   | none => rw [itemsL_none hl]
   | some y => rw [ha, hl] at h; cases h
theorem argsL_snoc : ∀ (l : List (List UInt8)) (s : List UInt8), argsL (l ++ [s]) = match argsL l, numIn s minI maxI with | some r, some x => some (r ++ [x]) | _, _ => none
 | [], s => by
  rw [List.nil_append, argsL, argsL]
  cases numIn s minI maxI <;> rfl
 | a :: l, s => by
  rw [List.cons_append, argsL, argsL_snoc l s, argsL]
  cases numIn a minI maxI <;> cases argsL l <;> cases numIn s minI maxI <;> rfl
theorem take_snoc {α : Type} (l : List α) (i : Nat) (x : α) (h : l[i]? = some x) : l.take (i + 1) = l.take i ++ [x] := by
 rw [List.take_add_one, h]
 rfl
end Go.Proofs.YtiheggkkgbfndaaGreatDoor
namespace Go.Proofs.YtiheggkkgbfndaaGreatDoor
open Go.RowKit Go.Joins Go.ChangeShapes Go.WideShapes Go.Deep
set_option linter.unusedVariables false
set_option linter.unusedSimpArgs false
set_option maxRecDepth 100000
theorem rows_val : ∀ l : List Value, rows valC l = l
 | [] => rfl
 | v :: l => by
  show [v] ++ rows valC l = _
  rw [rows_val l]
  rfl
def jobR (x : SSt) (ws : List (List UInt8)) : Except Nat SSt := match jobL x.set ws with
 | .ok s => .ok { x with set := s }
 | .error e => .error e
theorem jobR_none {x : SSt} {ws : List (List UInt8)} (h : x.set.thr = [] ∨ ws.length < 2) : jobR x ws = .error 9 := by
 unfold jobR jobL
 match ws, h with
 | [], _ => rfl
 | [_], _ => rfl
 | _ :: _ :: _, h =>
  have : x.set.thr = [] := by
   rcases h with h | h
   ·exact h
   ·simp at h
    omega
  simp [this]
theorem argsL_next_yes {rs : List (List UInt8)} {i : Nat} {s : List UInt8} {r : List Int} {n : Int} (h : rs[i]? = some s) (h1 : argsL (rs.take i) = some r) (h2 : numF s = some n) : argsL (rs.take (i + 1)) = some (r ++ [n]) := by
 rw [take_snoc rs i s h, argsL_snoc, numIn_all, h1, h2]
theorem argsL_next_no {rs : List (List UInt8)} {i : Nat} {s : List UInt8} (h : rs[i]? = some s) (h1 : argsL (rs.take i) = none ∨ numF s = none) : argsL (rs.take (i + 1)) = none := by
 rw [take_snoc rs i s h, argsL_snoc, numIn_all]
 rcases h1 with h1 | h1
 ·rw [h1]
 ·rw [h1]
  cases argsL (rs.take i) <;> rfl
theorem args_next {bn bb b2 : Bool} {rs : List (List UInt8)} {k : Nat} {s : List UInt8} {A : List Int} {y : Int} (h1 : bb = (bn && (argsL (rs.take k)).isSome)) (h2 : ∀ r, argsL (rs.take k) = some r → r = A) (hs : rs[k]? = some s)
  (hb2 : b2 = (numF s).isSome) (hy : ∀ m, numF s = some m → m = y) : (bb && b2) = (bn && (argsL (rs.take (k + 1))).isSome) ∧ ∀ r, argsL (rs.take (k + 1)) = some r → r = A ++ [y] := by
 cases ha : argsL (rs.take k) with
 | none =>
  rw [argsL_next_no hs (.inl ha)]
  rw [ha] at h1
  refine ⟨by rw [h1]; simp, fun r hr => by cases hr⟩
 | some r =>
  have := h2 r ha
  subst this
  cases hn : numF s with
  | none =>
   rw [argsL_next_no hs (.inr hn)]
   rw [hn] at hb2
   exact ⟨by rw [hb2]; simp, fun r hr => by cases hr⟩
  | some m =>
   have := hy m hn
   subst this
   rw [argsL_next_yes hs ha hn]
   rw [hn] at hb2
   rw [ha] at h1
   exact ⟨by rw [h1, hb2]; simp, fun r hr => by injection hr with hr; exact hr.symm⟩
theorem elem_str : Tryz.prog.elem 26 = 9 := by kernel_rfl
theorem size_str (w : World) : (sizeOf 9).run Tryz.prog w = .ok 1 w := by kernel_rfl
theorem words_cut (b n c k : Nat) (z : Int) (hz : z = (k : Int)) (hk : k ≤ n) (hc : n ≤ c) :
  ∃ A', (∀ W, (Instr.sliceAt 26 (.slice (some ⟨b, 0, none⟩) n c) (some (.int .i64 z)) none none).run Tryz.prog W = .ok (.slice A' (n - k) (c - k)) W) ∧ (k < n → A' = some ⟨b, k, none⟩) := by
 subst hz
 refine ⟨if c = k then some ⟨b, 0, none⟩ else (some (⟨b, 0, none⟩ : Addr)).map (·.add (k * 1)), fun W => ?_, fun h => ?_⟩
 ·rw [run_sliceAt_slice W _ _ _ _ _ (by rw [elem_str]; exact Tryz.underlying26), run_slice_l W 26 (some ⟨b, 0, none⟩) n c (by rw [elem_str]; exact Tryz.underlying26) .i64 (k : Int) (by omega) (by omega), elem_str, size_str]
  show Result.ok (sliced (some ⟨b, 0, none⟩) k n c 1) W = _
  unfold sliced
  rfl
 ·rw [if_neg (by omega)]
  simp [Addr.add]
  omega
def jobP (x : SSt) : Option Int → Option (List Int) → Except Nat SSt
 | some n, some args => if 4 < args.length ∨ (x.set.thr.getLast?.getD []).length = 32 then .error 2 else if (x.set.progs.length : Int) ≤ n then .error 11 else .ok { x with set := { x.set with thr := addJob x.set.thr ⟨n.toNat, args⟩ } }
 | _, _ => .error 9
theorem jobP_some (x : SSt) (n : Int) (args : List Int) : jobP x (some n) (some args) = if 4 < args.length ∨ (x.set.thr.getLast?.getD []).length = 32 then .error 2 else if (x.set.progs.length : Int) ≤ n then .error 11 else .ok { x with set := { x.set with thr := addJob x.set.thr ⟨n.toNat, args⟩ } } := rfl
theorem jobR_eqP {x : SSt} (h : x.set.thr ≠ []) (u p : List UInt8) (rs : List (List UInt8)) : jobR x (u :: p :: rs) = jobP x (numIn p 0 9223372036854775807) (argsL rs) := by
 unfold jobR jobL
 have h1 : x.set.thr.isEmpty = false := by
  cases hx : x.set.thr with
  | nil => exact absurd hx h
  | cons _ _ => rfl
 simp only [h1, Bool.false_eq_true, if_false]
 have e : numIn p 0 maxI = numIn p 0 9223372036854775807 := rfl
 rw [e]
 cases numIn p 0 9223372036854775807 with
 | none => rfl
 | some n =>
  cases argsL rs with
  | none => rfl
  | some args =>
   simp only [jobP]
   by_cases h4 : 4 < args.length ∨ (x.set.thr.getLast?.getD []).length = 32
   ·rw [if_pos h4, if_pos h4]
   ·rw [if_neg h4, if_neg h4]
    by_cases hn : (x.set.progs.length : Int) ≤ n
    ·rw [if_pos hn, if_pos hn]
    ·rw [if_neg hn, if_neg hn]
theorem args_nextP {bn bb b2 : Bool} {rs : List (List UInt8)} {k : Nat} {s : List UInt8} {A : List Int} {y : Int} (h1 : bb = (bn && (argsL (rs.take k)).isSome)) (h2 : ∀ r, argsL (rs.take k) = some r → r = A) (hs : rs[k]? = some s)
  (hb2 : b2 = (numIn s (-9223372036854775808) 9223372036854775807).isSome) (hy : ∀ m, numIn s (-9223372036854775808) 9223372036854775807 = some m → m = y) : (bb && b2) = (bn && (argsL (rs.take (k + 1))).isSome) ∧ ∀ r, argsL (rs.take (k + 1)) = some r → r = A ++ [y] := by
 have e : numIn s (-9223372036854775808) 9223372036854775807 = numF s := numIn_all s
 rw [e] at hb2 hy
 exact args_next h1 h2 hs hb2 hy
def PResL (B : Nat) (w : World) (p : Nat) (s : ByteArray) (a n : Nat) : Except Nat SSt → Prop
 | .ok x => PGood B w p s a n x
 | .error e => PBad w p e a
def PPostL (B p : Nat) (s : ByteArray) (a n : Nat) (R : Except Nat SSt) (w : World) (e : Ending) (w' : World) : Prop := e = .returned (.tuple #[]) ∧ Below B w w' ∧ PResL B w' p s a n R
end Go.Proofs.YtiheggkkgbfndaaGreatDoor
