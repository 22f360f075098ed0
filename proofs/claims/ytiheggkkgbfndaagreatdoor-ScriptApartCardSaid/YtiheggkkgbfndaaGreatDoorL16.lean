/- A script that Print wrote, its threads, its jobs, its lines; plain. -/
import Derived.Test.YtiheggkkgbfndaaGreatDoorL15
namespace Go.Proofs.YtiheggkkgbfndaaGreatDoor
open Go Go.Lib
set_option linter.unusedVariables false
set_option linter.unusedSimpArgs false
/-! jobs -/
def jobOk (n:Nat) (j:PJob):Prop:=j.prog < n∧j.args.length ≤ 4∧∀ v ∈ j.args,i64I v
/-! steps -/
theorem cutAt_none:∀ (u:List UInt8),(42:UInt8) ∉ u→cutAt 42 u=none
 | [],_=>rfl
 | c :: u,h=>by
  have hc:c ≠ 42:=fun e=>h (by simp [e])
  rw [cutAt,if_neg hc,cutAt_none u fun e=>h (by simp [e])]
  rfl
theorem cutAt_some:∀ (u r:List UInt8),(42:UInt8) ∉ u→cutAt 42 (u ++ 42 :: r)=some (u,r)
 | [],r,_=>rfl
 | c :: u,r,h=>by
  have hc:c ≠ 42:=fun e=>h (by simp [e])
  rw [List.cons_append,cutAt,if_neg hc,cutAt_some u r fun e=>h (by simp [e])]
  rfl
/-! lines -/
def lineOk (x:PLine):Prop:=(x.kind=1∧x.thr ≠ []∧∀ t ∈ x.thr,t ≤ 99) ∨ (2 ≤ x.kind∧x.kind ≤ 7∧x.thr=[])
def stepsN (l:List PLine):Nat:=(l.map fun x=>x.thr.length).sum
/-! ### all of it -/
structure SetOk (s:PSet) (ps:List (List AOp)) (l:List PLine):Prop where
 cfg:cfgOk s.cfg s.regs
 thr:s.thr.length ≤ 8
 progs:s.progs=ps.map bytesOf
 many:ps.length ≤ 16
 enc:∀ L ∈ ps,Enc L∧sizeF L ≤ 512
 jobs:∀ t ∈ s.thr,t.length ≤ 32∧∀ j ∈ t,jobOk s.progs.length j
 lines:∀ p ∈ l,lineOk p
 steps:stepsN l ≤ 20000
theorem runsF_head (b:Nat) (l:List Nat):∃ k r,runsF (b :: l)=(b,k) :: r:=by
 unfold runsF
 cases runsF l with
 | nil=>exact ⟨_,_,rfl⟩
 | cons y r =>
  obtain ⟨c,k⟩:=y
  simp only
  by_cases hb:b=c
  ·subst hb
   rw [if_pos rfl]
   exact ⟨_,_,rfl⟩
  ·rw [if_neg hb]
   exact ⟨_,_,rfl⟩
theorem runsF_one (a:Nat) (r:List Nat) (h:r.head? ≠ some a):runsF (a :: r)=(a,1) :: runsF r:=by
 cases r with
 | nil=>rfl
 | cons b r =>
  obtain ⟨k,r',hr⟩:=runsF_head b r
  have hne:a ≠ b:=fun e=>h (by rw [e];rfl)
  rw [runsF,hr]
  simp only
  rw [if_neg hne]
theorem runsF_append:∀ (L r:List Nat),(∀ a,L.getLast?=some a→r.head? ≠ some a)→runsF (L ++ r)=runsF L ++ runsF r
 | [],r,_=>rfl
 | [a],r,h=>by
  rw [List.singleton_append,runsF_one a r (h a rfl)]
  rfl
 | a :: b :: L,r,h=>by
  have ih:=runsF_append (b :: L) r fun c hc=>h c (by rw [List.getLast?_cons_cons];exact hc)
  obtain ⟨k,q,hq⟩:=runsF_head b L
  rw [List.cons_append,runsF,ih,hq,runsF,hq,List.cons_append]
  simp only
  split <;> rfl
theorem runsF_same (a:Nat):∀ m,runsF (List.replicate (m + 1) a)=[(a,m + 1)]
 | 0=>rfl
 | m + 1=>by
  rw [List.replicate_succ,runsF,runsF_same a m]
  simp only
  rw [if_pos trivial]
theorem runsF_run (L:List Nat) (a m:Nat) (h:L.getLast? ≠ some a):runsF (L ++ List.replicate (m + 1) a)=runsF L ++ [(a,m + 1)]:=by
 rw [runsF_append L _ fun b hb he=>h (by rw [List.replicate_succ,List.head?_cons] at he;rw [hb];exact he.symm ▸ rfl),runsF_same]
theorem stepsT_run (L:List Nat) (a m:Nat) (h:L.getLast? ≠ some a):wRun ++ (runsF (L ++ List.replicate (m + 1) a)).flatMap itemT=wRun ++ (runsF L).flatMap itemT ++ itemT (a,m + 1):=by
 rw [runsF_run L a m h,List.flatMap_append,List.append_assoc]
 simp
/-! ### prefixes -/
theorem manyF_snoc (l:List (Nat × Nat)) (x:Nat × Nat):manyF (l ++ [x])=manyF l + x.2:=by
 unfold manyF
 rw [List.map_append,List.sum_append]
 simp
theorem manyF_append (l r:List (Nat × Nat)):manyF (l ++ r)=manyF l + manyF r:=by
 unfold manyF
 rw [List.map_append,List.sum_append]
theorem spread_snoc (l:List (Nat × Nat)) (x:Nat × Nat):spread (l ++ [x])=spread l ++ List.replicate x.2 x.1:=by
 unfold spread
 rw [List.flatMap_append]
 simp
theorem itemsL_snoc:∀ (l:List (List UInt8)) (s:List UInt8),itemsL (l ++ [s])=match itemsL l,itemL s with | some r,some x=>some (r ++ [x]) | _,_=>none
 | [],s=>by
  rw [List.nil_append,itemsL,itemsL]
  cases itemL s <;> rfl
 | a :: l,s=>by
  rw [List.cons_append,itemsL,itemsL_snoc l s,itemsL]
  cases itemL a <;> cases itemsL l <;> cases itemL s <;> rfl
theorem itemsL_none:∀ {l r:List (List UInt8)},itemsL l=none→itemsL (l ++ r)=none
 | [],r,h=>by cases h
 | a :: l,r,h=>by
  rw [itemsL] at h
  rw [List.cons_append,itemsL]
  cases ha:itemL a with
  | none=>rfl
  | some x =>
   cases hl:itemsL l with
   | none=>rw [itemsL_none hl]
   | some y=>rw [ha,hl] at h;cases h
theorem argsL_snoc:∀ (l:List (List UInt8)) (s:List UInt8),argsL (l ++ [s])=match argsL l,numIn s minI maxI with | some r,some x=>some (r ++ [x]) | _,_=>none
 | [],s=>by
  rw [List.nil_append,argsL,argsL]
  cases numIn s minI maxI <;> rfl
 | a :: l,s=>by
  rw [List.cons_append,argsL,argsL_snoc l s,argsL]
  cases numIn a minI maxI <;> cases argsL l <;> cases numIn s minI maxI <;> rfl
def satF (m:Nat):List (Nat × Nat)→Nat
 | []=>m
 | x :: l=>satF (if m ≤ 20000 then m + x.2 else m) l
theorem satF_big:∀ (l:List (Nat × Nat)) (m:Nat),20000 < m→satF m l=m
 | [],_,_=>rfl
 | x :: l,m,h=>by
  rw [satF,if_neg (by omega),satF_big l m h]
theorem satF_eq:∀ (l:List (Nat × Nat)) (m:Nat),(m + manyF l ≤ 20000→satF m l=m + manyF l)∧(20000 < m + manyF l→20000 < satF m l)
 | [],m=>⟨fun _=>rfl,fun h=>h⟩
 | x :: l,m=>by
  have e:manyF (x :: l)=x.2 + manyF l:=by unfold manyF;rw [List.map_cons,List.sum_cons]
  rw [e,satF]
  rcases Nat.lt_or_ge 20000 m with h | h
  ·rw [if_neg (by omega),satF_big l m h]
   exact ⟨fun _=>by omega,fun _=>h⟩
  ·rw [if_pos h]
   obtain ⟨h1,h2⟩:=satF_eq l (m + x.2)
   exact ⟨fun hh=>by rw [h1 (by omega)];omega,fun hh=>h2 (by omega)⟩
theorem take_snoc {α:Type} (l:List α) (i:Nat) (x:α) (h:l[i]?=some x):l.take (i + 1)=l.take i ++ [x]:=by
 rw [List.take_add_one,h]
 rfl
theorem numIn_bounds (s:List UInt8) (lo hi:Nat) (h:hi ≤ 9223372036854775807):numIn s (lo:Int) (hi:Int)=match natF s with | some n=>if lo ≤ n∧n ≤ hi then some (n:Int) else none | none=>none:=by
 have hz:=numIn_natF s
 cases hf:numF s with
 | none =>
  unfold numIn at hz ⊢
  rw [hf] at hz ⊢
  cases hn:natF s with
  | none=>rfl
  | some n=>rw [hn] at hz;cases hz
 | some v =>
  unfold numIn at hz ⊢
  rw [hf] at hz ⊢
  simp only at hz ⊢
  cases hn:natF s with
  | none =>
   rw [hn] at hz
   split at hz
   ·cases hz
   ·rename_i hc
    simp only
    rw [if_neg]
    rintro ⟨h1,h2⟩
    exact hc ⟨by omega,by rw [maxI_eq];omega⟩
  | some n =>
   rw [hn] at hz
   split at hz
   ·injection hz with hz
    subst hz
    simp only
    by_cases hc:lo ≤ n∧n ≤ hi
    ·rw [if_pos hc,if_pos ⟨by omega,by omega⟩]
    ·rw [if_neg hc,if_neg fun hh=>hc ⟨by omega,by omega⟩]
   ·cases hz
end Go.Proofs.YtiheggkkgbfndaaGreatDoor
