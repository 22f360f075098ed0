/- What 'both' makes; a Config that came in. -/
import Derived.Test.YtpmpgnhbpneloaaRd
namespace Go.Proofs.Ytpmpgnhbpneloaa
open Go.RowKit Go.Joins Go.ChangeShapes Go.WideShapes Go.ChangeAt Go.Deep
set_option linter.unusedVariables false
set_option maxRecDepth 100000

theorem LIs.base_ {w : World} {base b' : Nat} {T : TypeId} {k : Nat} {enc : TM → List Value} {tv : Value} {l : List TM} (h : LIs w base T k enc tv l) (hb : b' ≤ base) : LIs w b' T k enc tv l :=
  ⟨own_base h.row hb, fun x hx => ⟨own_base (h.things x hx).vs hb, own_base (h.things x hx).ps hb⟩, h.sepv, h.sepp⟩
theorem PIs.base_ {w : World} {base b' s g : Nat} {tv : Value} {raw : List Int} {l : List TM} (h : PIs w base s g tv raw l) (hb : b' ≤ base) : PIs w b' s g tv raw l :=
  ⟨h.blk, h.rawb, h.ls.base_ hb, h.sepr, Nat.le_trans hb h.b0, Nat.le_trans hb h.b1⟩
theorem RIs.base_ {w : World} {base b' s g : Nat} {rv : Option Addr} {rc : Nat × Nat} {tv : Value} {c : Cfg} {regs : List Reg} {raw : List Int} {l : List TM} (h : RIs w base s g rv rc tv c regs raw l) (hb : b' ≤ base) : RIs w b' s g rv rc tv c regs raw l :=
  ⟨h.blk, own_base h.regs hb, own_base h.rawb hb, h.ls.base_ hb, h.sepr, Nat.le_trans hb h.b0, Nat.le_trans hb h.b1⟩

theorem thing0_ok {r : Reg} (h : regOk r) : TOk (thing0 r) := by
  obtain ⟨h1, h2, h3, h4⟩ := h
  refine ⟨h1, h2, h3, h4, ?_, by simp [thing0], ?_, fun _ => by simp [thing0], ?_⟩
  · unfold thing0
    dsimp only
    split
    · simp; omega
    · simp
  · intro hk v hv
    have : v = 0 := by
      unfold thing0 at hv
      dsimp only at hv
      split at hv
      · exact (List.mem_replicate.1 hv).2
      · simp at hv
    subst this
    simp [wrap64]
  · intro hk
    unfold thing0
    have : r.kind = 4 := hk
    simp [this]

theorem both_is {c : Cfg} {regs : List Reg} {R base : Nat} {w w' : World} {e : Ending} (h : BothPost c regs R w e w') (hok : cfgOk c regs) (hR1 : 1 ≤ R) (hR64 : R ≤ 64) (hbase : base ≤ w.heap.size) :
    ∃ s s' S K, e = .returned (.tuple #[.pointer (some ⟨s, 0, none⟩), .pointer (some ⟨s', 0, none⟩), .bool true]) ∧ BothIs w' base s s' (List.replicate R 0) (regs.map thing0) S K ∧ Below w.heap.size w w' := by
  obtain ⟨s, g, s', g', tv, tv', l, l', rv, rc, B, rfl, hP, hQ, hl, hl', hb, hB, hlb, hsB, hgB⟩ := h
  have hP' := hP.base_ (b' := base) (by omega)
  have hQ' := hQ.base_ (b' := base) (by omega)
  have hpB : ∀ b, PBlk s g tv l b → b < B := by
    rintro b (rfl | rfl | h)
    · exact hsB
    · exact hgB
    · exact hlb b h
  refine ⟨s, s', fun b => PBlk s g tv l b ∨ PBlk s' g' tv' l' b, fun b => (Value.slice rv regs.length rc.1).ownBlock = some b, rfl, ⟨?_, ⟨fun b hb => hQ'.in_ (.inr (.inr (.inl hb))), ?_⟩, g, g', rv, rc, tv, tv', c, regs, l, l', hP', hQ', hl, hl', ?_, ?_, ?_, by simpa using hR1, by simpa using hR64, ?_, fun _ h => .inl h, fun _ h => .inr h, fun _ h => h⟩, hb⟩
  · rintro b (h | h)
    · exact hP'.in_ h
    · exact hQ'.in_ (by
        rcases h with e | e | e
        · exact .inl e
        · exact .inr (.inl e)
        · exact .inr (.inr (.inr e)))
  · rintro b (h | h) hk
    · have := hpB b h
      have := (hQ.in_ (.inr (.inr (.inl hk)))).1
      omega
    · obtain ⟨cs, hc⟩ := own_blk hQ.regs hk
      rcases h with rfl | rfl | h
      · exact hc.ne_ hQ.blk (by decide) rfl
      · exact hc.ne_ hQ.rb.choose_spec (by decide) rfl
      · exact hQ.regsep b hk h
  · intro t ht
    obtain ⟨r, hr, rfl⟩ := List.mem_map.1 ht
    exact thing0_ok (hok.2.2.2.2.2.2.2.2.2.2.2 r hr)
  · rw [List.map_map]
    have : (regOf ∘ thing0) = id := by funext r; rfl
    rw [this, List.map_id]
  · rw [List.length_map]
    have := hok.2.2.2.2.2.2.2.2.2.2.1
    omega
  · intro b h1 h2
    have := hpB b h1
    have := (hQ.in_ h2).1
    omega

theorem open_cfg {H : Type} {enc : TypeId × Value → H} {W : World} {r : Reach} {b0 : Nat} {v : Value} {d : DataW H} {p : List MemPlace} (hv : Value.okWide Try.prog W r b0 24 v) (h : DataW.Trod enc Try.prog W 0 (fun _ => true) true 24 v d p) :
    ∃ (c : Cfg) (A : Option Addr) (n nc : Nat) (regs : List Reg), v = .agg #[.int .i64 c.raw, .int .i64 c.ring, .int .i64 c.writes, .int .i64 c.stamps, .bool c.multi, .int .i64 c.tries, .slice A n nc] ∧ regs.length = n ∧ n ≤ 9223372036854775807 ∧ Reads W W.heap.size 2 A n (rows Reg.cells regs) := by
  obtain ⟨cs, rfl, hz⟩ := okWide_struct Try.underlying24 hv
  obtain ⟨fuel, hf⟩ := h
  obtain ⟨l⟩ := cs
  have hf' : DataW.trod enc Try.prog W 0 (fun _ => true) true fuel 24 l = some (d, p) := by simpa [Value.cells] using hf
  obtain ⟨c, A, n, nc, regs, e, hl, hn, hnc, hA⟩ := cfg_cells hf'
  have hmax : maxLen = 9223372036854775807 := rfl
  exact ⟨c, A, n, nc, regs, by rw [e], hl, by omega, hA⟩
end Go.Proofs.Ytpmpgnhbpneloaa
