/- Both memories made; a list of acts that came in; steps one behind the other. -/
import Derived.Test.YtnpeldbnnneijaaMu5
namespace Go.Proofs.Ytnpeldbnnneijaa
open Go.RowKit Go.Joins Go.ChangeShapes Go.WideShapes Go.ChangeAt Go.Deep
set_option linter.unusedVariables false
set_option maxRecDepth 100000

theorem param_acts {H : Type} {enc : TypeId × Value → H} {W : World} {r : Reach} {b0 : Nat} {v : Value} {d : DataW H} {p : List MemPlace} (hv : Value.okWide Try.prog W r b0 22 v) (h : DataW.Trod enc Try.prog W 0 (fun _ => true) true 22 v d p) :
    ∃ A n nc l, v = .slice A n nc ∧ l.length = n ∧ Reads W W.heap.size 8 A n (acts l) ∧ ∀ {ts : List TypeId} {ds : List (DataW H)} {j : Nat}, (DataW.weightsEach Try.prog ts ds).all (· ≤ reachBytes) = true → ts[j]? = some 22 → ds[j]? = some d → n * 64 ≤ 140737488351232 := by
  obtain ⟨a, l, c, rfl⟩ := okWide_slice Try.underlying22 hv
  obtain ⟨fuel, hf⟩ := h
  have hf' : DataW.trod enc Try.prog W 0 (fun _ => true) true fuel 22 [.slice a l c] = some (d, p) := by simpa [Value.cells] using hf
  obtain ⟨A, n, nc, l, hvv, hl, hn, hnc, hA, hd⟩ := acts_open hf'
  refine ⟨A, n, nc, l, hvv, hl, hA, ?_⟩
  intro ts ds j hs hts hds
  rcases hd with ⟨_, h, _⟩ | ⟨ds', rest, hdl, h⟩
  · omega
  · have hd' : d = .slice ds' rest := h
    have := sized_slice hs hts (by rw [hds, hd']) Try.underlying22
    rw [show Try.prog.bytesOf 36 = 64 from by kernel_rfl] at this
    simp only [reachBytes] at this
    omega
theorem acts_flat2 {w : World} {B n : Nat} {A : Option Addr} {l : List Actz} (h : Reads w B 8 A n (acts l)) (hl : l.length = n) {k : Nat} (hk : k < n) :
    ∃ b off, A = some ⟨b, off, none⟩ ∧ b < B ∧ ∃ x : Actz, ∀ t u, t < 8 → x.cells[t]? = some u → w.cell? ⟨b, off + k * 8 + t, none⟩ = some u := by
  obtain ⟨b, off, rfl, hb, hc⟩ := h.flatN (by omega) (by omega)
  refine ⟨b, off, rfl, hb, l[k], fun t u ht hu => ?_⟩
  rw [Nat.add_assoc]
  exact hc _ u ((acts_at l k t (by omega) ht).trans hu)

section
variable {w w1 w2 W : World} {base C R b gh gs gc rb n n' : Nat} {lv : Value} {m : MS} {S : Nat → Prop}
theorem Duo.start (h : MIs w1 base b gh gs gc (.slice none 0 0) (newM C R)) (hb : Below w1.heap.size w1 W) (hr : RIs w2 W.heap.size rb (.slice none 0 0) C R []) (hb2 : Below W.heap.size W w2) (hbase : base ≤ w1.heap.size) :
    ∃ S, DuoIs w2 base C R b rb 0 S ∧ (∀ q, S q → base ≤ q) ∧ (∀ q, S q → (base ≤ q ∧ q < w1.heap.size) ∨ (W.heap.size ≤ q ∧ q < w2.heap.size)) := by
  have h2 := h.below (hb.trans (hb2.mono hb.size))
  have hs := hb.size
  have hin : ∀ q, MBlk b gh gs gc (.slice none 0 0) q → q < w1.heap.size := fun q hq => (h.inF hq).2
  have hr' : RIs w2 base rb (.slice none 0 0) C R [] := ⟨hr.blk, World.ownsRow_nil _ _ _ _, by have := hr.b0; omega⟩
  refine ⟨fun q => MBlk b gh gs gc (.slice none 0 0) q ∨ RBlk rb (.slice none 0 0) q, ⟨gh, gs, gc, _, newM C R, _, ⟨h2, hr', Told.start rfl, newM_sized C R, by simp [newM, memAt], ?_, fun q hq => .inl hq, fun q hq => .inr hq, ?_⟩, by simp [newM, memAt]⟩, ?_, ?_⟩
  · intro q hq hr2
    have h1 := hin q hq
    have h3 := (hr.in_ hr2).1
    omega
  · rintro q (hq | hq)
    · exact h2.inF hq
    · exact hr'.in_ hq
  · rintro q (hq | hq)
    · exact (h2.inF hq).1
    · exact (hr'.in_ hq).1
  · rintro q (hq | hq)
    · exact .inl (h.inF hq)
    · exact .inr (hr.in_ hq)
theorem DStep.refl (h : DuoIs w base C R b rb n S) : DStep w w base C R b rb n S := ⟨S, h, Frm.refl _ _, fun _ h => .inl h⟩
theorem DStep.below (h : DStep w w1 base C R b rb n S) (hb : Below w1.heap.size w1 w2) : DStep w w2 base C R b rb n S := by
  obtain ⟨S1, ⟨gh, gs, gc, lv, m, rlv, hD, hn⟩, hF, hN⟩ := h
  exact ⟨S1, ⟨gh, gs, gc, lv, m, rlv, hD.below hb, hn⟩, hF.trans (Frm.of_below (S := S1) hb) (fun q hq => hN q hq), hN⟩
theorem DStep.trans_ (h : DStep w w1 base C R b rb n S) {P : World → Prop} (k : ∀ S1, DuoIs w1 base C R b rb n S1 → (∀ q, S1 q → S q ∨ w.heap.size ≤ q) → Frm w w1 S → P w1) : P w1 := by
  obtain ⟨S1, hD, hF, hN⟩ := h
  exact k S1 hD hN hF
theorem DStep.go {S1 : Nat → Prop} (hN : ∀ q, S1 q → S q ∨ w.heap.size ≤ q) (hF : Frm w w1 S) (h : DStep w1 w2 base C R b rb n' S1) : DStep w w2 base C R b rb n' S := by
  obtain ⟨S2, hD, hF2, hN2⟩ := h
  refine ⟨S2, hD, hF.trans hF2 hN, fun q hq => ?_⟩
  rcases hN2 q hq with h | h
  · exact hN q h
  · exact .inr (by have := hF.size; omega)
theorem DStep.bel {B : Nat} (h : DStep w w1 base C R b rb n S) (hS : ∀ q, S q → B ≤ q) (hB : B ≤ w.heap.size) : Below B w w1 := by
  obtain ⟨S1, hD, hF, hN⟩ := h
  exact hF.below hB hS
end
end Go.Proofs.Ytnpeldbnnneijaa
