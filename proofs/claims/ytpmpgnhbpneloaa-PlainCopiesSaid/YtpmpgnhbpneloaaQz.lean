/- SameShapes of two that are alike; what the document's place, Load and Store do. -/
import Derived.Test.YtpmpgnhbpneloaaQy
namespace Go.Proofs.Ytpmpgnhbpneloaa
open Go.RowKit Go.Joins Go.ChangeShapes Go.WideShapes Go.Deep
set_option linter.unusedVariables false
set_option maxRecDepth 100000

/-- A list of shapes can be read. -/
structure ShR (w : World) (B : Nat) (v : Value) (l : List TM) : Prop where
  row : ∃ A c, v = .slice A l.length c ∧ Reads w B 3 A l.length (rows TM.cells3 l)
  vs : ∀ x ∈ l, ∃ V vc, x.vv = .slice V x.t.values.length vc ∧ Reads w B 1 V x.t.values.length (ints x.t.values)
  ps : ∀ x ∈ l, ∃ V vc, x.pv = .slice V x.t.pairs.length vc ∧ Reads w B 2 V x.t.pairs.length (prs x.t.pairs)
theorem LIs.shr {w : World} {base : Nat} {v : Value} {l : List TM} (h : LIs w base 52 3 TM.cells3 v l) : ShR w w.heap.size v l := by
  refine ⟨?_, fun x hx => ?_, fun x hx => ?_⟩
  · obtain ⟨A, c, e, _, hr⟩ := own_shapes h.row
    exact ⟨A, c, e, hr⟩
  · obtain ⟨A, c, e, _, hr⟩ := own_shapes (h.things x hx).vs
    exact ⟨A, c, e, hr⟩
  · obtain ⟨A, c, e, _, hr⟩ := own_shapes (h.things x hx).ps
    exact ⟨A, c, e, hr⟩
theorem ShR.below {w w' : World} {B : Nat} {v : Value} {l : List TM} (h : ShR w B v l) (hb : Below B w w') : ShR w' B v l := by
  refine ⟨?_, fun x hx => ?_, fun x hx => ?_⟩
  · obtain ⟨A, c, e, hr⟩ := h.row
    exact ⟨A, c, e, hr.below hb⟩
  · obtain ⟨A, c, e, hr⟩ := h.vs x hx
    exact ⟨A, c, e, hr.below hb⟩
  · obtain ⟨A, c, e, hr⟩ := h.ps x hx
    exact ⟨A, c, e, hr.below hb⟩
theorem ShR.more {w : World} {B B' : Nat} {v : Value} {l : List TM} (h : ShR w B v l) (hb : B ≤ B') : ShR w B' v l := by
  refine ⟨?_, fun x hx => ?_, fun x hx => ?_⟩
  · obtain ⟨A, c, e, hr⟩ := h.row
    exact ⟨A, c, e, hr.more hb⟩
  · obtain ⟨A, c, e, hr⟩ := h.vs x hx
    exact ⟨A, c, e, hr.more hb⟩
  · obtain ⟨A, c, e, hr⟩ := h.ps x hx
    exact ⟨A, c, e, hr.more hb⟩
theorem ShR.cells {w : World} {B : Nat} {v : Value} {l : List TM} {A : Option Addr} {n c : Nat} (h : ShR w B v l) (hv : v = .slice A n c) (hn : 0 < n) :
    ∃ b off, A = some ⟨b, off, none⟩ ∧ b < B ∧ ∀ k (hk : k < l.length), w.cell? ⟨b, off + k * 3, none⟩ = some (.int .i64 l[k].t.kind) ∧ w.cell? ⟨b, off + k * 3 + 1, none⟩ = some l[k].vv ∧ w.cell? ⟨b, off + k * 3 + 2, none⟩ = some l[k].pv := by
  obtain ⟨A', c', e, hr⟩ := h.row
  rw [hv] at e
  injection e with e1 e2 e3
  subst e1 e2 e3
  obtain ⟨b, off, rfl, hb, hc⟩ := hr.flatN hn (by omega)
  refine ⟨b, off, rfl, hb, fun k hk => ?_⟩
  have q := fun t u (ht : t < 3) (hu : (TM.cells3 l[k])[t]? = some u) => hc (k * 3 + t) u (by rw [rows_at TM.cells3 3 (fun _ => rfl) l k t hk ht]; exact hu)
  exact ⟨by simpa using q 0 _ (by omega) rfl, q 1 _ (by omega) rfl, q 2 _ (by omega) rfl⟩

set_option maxHeartbeats 2000000 in
theorem sameshapes_yes (v v' : Value) (l l' : List TM) (w : World) (hl : l.map TM.t = l'.map TM.t) (h8 : l.length ≤ 8) (hok : AllOk (l.map TM.t)) (h : ShR w w.heap.size v l) (h' : ShR w w.heap.size v' l') :
    Calls Try.prog 58 #[v, v'] w fun e w' => e = .returned (.bool true) ∧ Below w.heap.size w w' := by
  obtain ⟨A, c, hv, -⟩ := h.row
  obtain ⟨A', c', hv', -⟩ := h'.row
  have hll : l'.length = l.length := by have := congrArg List.length hl; simpa using this.symm
  rw [hll] at hv'
  obtain ⟨n, hn⟩ : ∃ n, n = l.length := ⟨_, rfl⟩
  rw [← hn] at hv hv' hll h8
  have H := Lib.hid h
  have H' := Lib.hid h'
  have HV := Lib.hid hv
  have HV' := Lib.hid hv'
  have HL := Lib.hid hl
  have HOK := Lib.hid hok
  have HN := Lib.hid hn
  have HLL := Lib.hid hll
  subst hv hv'
  clear h h' hl hok hn hll
  have hnn : ((n : Int) != (n : Int)) = false := by simp
  go_enter Try.func58, Try.ntmps58
  go_wp2_with fail
  go_loopg [5] n (fun gk i wr => ∃ k : Nat, i = .int .i64 k ∧ k ≤ n ∧ gk = n - k ∧ Below w.heap.size w wr)
  case atStart => exact ⟨0, rfl, Nat.zero_le _, rfl, Below.refl _ _⟩
  case round =>
    obtain ⟨k, rfl, hk, hgk, hbel⟩ := hrel
    have HG := Lib.hid hgk
    clear hgk
    by_cases hkn : k < n
    · have hk1 : k < l.length := by rw [← HN.out]; exact hkn
      have hk2 : k < l'.length := by rw [HLL.out]; exact hkn
      obtain ⟨b, off, rfl, hb, hc⟩ := (H.out.below hbel).cells rfl (by omega)
      obtain ⟨b', off', rfl, hb', hc'⟩ := (H'.out.below hbel).cells rfl (by omega)
      obtain ⟨c0, c1, c2⟩ := hc k hk1
      obtain ⟨d0, d1, d2⟩ := hc' k hk2
      obtain ⟨V, vc, ev, hV⟩ := H.out.vs _ (List.getElem_mem hk1)
      obtain ⟨P, pc, ep, hP⟩ := H.out.ps _ (List.getElem_mem hk1)
      obtain ⟨V', vc', ev', hV'⟩ := H'.out.vs _ (List.getElem_mem hk2)
      obtain ⟨P', pc', ep', hP'⟩ := H'.out.ps _ (List.getElem_mem hk2)
      have et : l'[k].t = l[k].t := by
        have h1 : (l.map TM.t)[k]'(by simpa using hk1) = (l'.map TM.t)[k]'(by simpa using hk2) := by simp only [HL.out]
        simpa using h1.symm
      have hto : TOk l[k].t := HOK.out _ (List.mem_map.2 ⟨l[k], List.getElem_mem hk1, rfl⟩)
      have l1 := hto.lv
      have l2 := hto.lp
      rw [et] at d0 ev' ep' hV' hP'
      rw [ev] at c1
      rw [ep] at c2
      rw [ev'] at d1
      rw [ep'] at d2
      obtain ⟨x, hx⟩ : ∃ x, x = l[k].t := ⟨_, rfl⟩
      rw [← hx] at c0 c1 c2 d0 d1 d2 hV hP hV' hP' l1 l2
      have HS : Hid (∀ W, Below w.heap.size w W → Calls Try.prog 72 #[.agg #[.int .i64 x.kind, .slice V x.values.length vc, .slice P x.pairs.length pc], .agg #[.int .i64 x.kind, .slice V' x.values.length vc', .slice P' x.pairs.length pc']] W fun e w' => e = .returned (.bool true) ∧ Below W.heap.size W w') :=
        Lib.hid fun W hW => sameshape_yes x.kind V V' P P' _ vc vc' _ pc pc' x.values x.pairs W (by omega) (by omega) ((hV.below hW).more hW.size) ((hV'.below hW).more hW.size) ((hP.below hW).more hW.size) ((hP'.below hW).more hW.size)
      obtain ⟨kind, hkd⟩ : ∃ q, q = x.kind := ⟨_, rfl⟩
      obtain ⟨nv, hnv⟩ : ∃ q, q = x.values.length := ⟨_, rfl⟩
      obtain ⟨np, hnp⟩ : ∃ q, q = x.pairs.length := ⟨_, rfl⟩
      rw [← hkd, ← hnv, ← hnp] at HS
      rw [← hkd] at c0 d0
      rw [← hnv] at c1 d1
      rw [← hnp] at c2 d2
      have hki : (k : Int) < (n : Int) := by omega
      have e1 : decide ((k : Int) < (n : Int)) = true := by simp; omega
      clear hc hc' hV hP hV' hP' et ev ep ev' ep' hto l1 l2 hx hkd hnv hnp
      go_wp2_with fail
      go_region_with (go_at_call 72; refine (HS.out _ (by first | exact hbel | exact hbel.drew | exact below_drewN hbel _)).mono ?_; rintro e w2 ⟨rfl, hb2⟩; have hbel2 : Below w.heap.size w w2 := (by first | exact hbel.trans (hb2.mono hbel.size) | exact hbel.drew.trans (hb2.mono hbel.size) | exact (below_drewN hbel _).trans (hb2.mono hbel.size)))
      all_goals
        clear c0 c1 c2 d0 d1 d2 hb2
        go_wp2_with fail
        go_roundg (n - (k + 1))
        case measure => have := HG.out; omega
        case rel => exact ⟨k + 1, by go_num, by omega, rfl, hbel2⟩
    · have e1 : decide ((k : Int) < (n : Int)) = false := by simp; omega
      go_wp2_with fail
      go_ret
      exact ⟨rfl, hbel⟩

theorem place_any (p : Int) (s g R cp base : Nat) (w : World) (hR : 1 ≤ R) (hR64 : R ≤ 64) (hc : w.cell? ⟨s, 7, none⟩ = some (.slice (some ⟨g, 0, none⟩) R cp)) :
    Calls Try.prog 73 #[.pointer (some ⟨s, 0, none⟩), .int .i64 p] w fun e w' => e = .returned (.int .i64 ((uidx p R : Nat) : Int)) ∧ w' = w := by
  obtain ⟨U, hU⟩ : ∃ U : Nat, IntKind.u64.wrap p = (U : Int) := ⟨(p % 18446744073709551616).toNat, by rw [IntKind.wrap_u64]; omega⟩
  have hU2 : U = (p % 18446744073709551616).toNat := by rw [IntKind.wrap_u64] at hU; omega
  have hU3 : U < 18446744073709551616 := by omega
  have hq : uidx p R = U % R := by rw [uidx, ← hU2]
  rw [hq]
  clear hq hU2
  have hlt : U % R < R := Nat.mod_lt _ (by omega)
  have e1 : IntKind.u64.wrap (R : Int) = (R : Int) := IntWalk.u64_in _ ⟨by omega, by omega⟩
  have e2 : ((U : Int)).tmod (R : Int) = ((U % R : Nat) : Int) := by
    rw [Int.tmod_eq_emod_of_nonneg (by omega)]
    rfl
  have e3 : IntKind.u64.wrap ((U % R : Nat) : Int) = ((U % R : Nat) : Int) := IntWalk.u64_in _ ⟨by omega, by omega⟩
  have e4 : IntKind.i64.wrap ((U % R : Nat) : Int) = ((U % R : Nat) : Int) := IntWalk.i64_in _ ⟨by omega, by omega⟩
  have e5 : ¬ (R = 0) := by omega
  generalize U % R = I at *
  go_enter Try.func73, Try.ntmps73
  go_wp2_with fail
  go_ret
  exact ⟨rfl, rfl⟩
theorem rload_any (p : Int) (s g R cp base : Nat) (raw : List Int) (w : World) (hR : 1 ≤ R) (hR64 : R ≤ 64) (hl : raw.length = R) (hc : w.cell? ⟨s, 7, none⟩ = some (.slice (some ⟨g, 0, none⟩) R cp)) (hg : w.ownsRow base 2 1 (.slice (some ⟨g, 0, none⟩) R cp) R (ints raw)) :
    Calls Try.prog 59 #[.pointer (some ⟨s, 0, none⟩), .int .i64 p] w fun e w' => e = .returned (.int .i64 (raw.getD (uidx p R) 0)) ∧ ∃ n, w' = w.drewN n := by
  have hlt : uidx p R < R := Nat.mod_lt _ (by omega)
  have c1 : w.cell? ⟨g, uidx p R, none⟩ = some (.int .i64 (raw.getD (uidx p R) 0)) := by
    have hh := hg.cells (g := g) rfl (uidx p R) _ (ints_at raw _ (show uidx p R < raw.length by omega))
    rw [show ((⟨g, 0, none⟩ : Addr).add (uidx p R)) = ⟨g, uidx p R, none⟩ by unfold Addr.add; split <;> simp_all] at hh
    rw [hh, List.getD_eq_getElem?_getD, List.getElem?_eq_getElem (show uidx p R < raw.length by omega)]
    rfl
  have HA := fun w hc => place_any p s g R cp base w hR hR64 hc
  obtain ⟨V, hV⟩ : ∃ V, V = raw.getD (uidx p R) 0 := ⟨_, rfl⟩
  rw [← hV] at c1 ⊢
  have hi : ((uidx p R : Nat) : Int) < (R : Int) := by omega
  clear hg hV
  generalize uidx p R = I at *
  go_enter Try.func59, Try.ntmps59
  go_wp2_with fail
  go_region_with (go_at_call 73; refine (HA _ (by exact hc)).mono ?_; rintro e w1 ⟨rfl, rfl⟩)
  all_goals
    go_wp2_with fail
    go_ret
    exact ⟨rfl, 1, rfl⟩
theorem rstore_any (p v : Int) (s g R cp base : Nat) (raw : List Int) (w : World) (hR : 1 ≤ R) (hR64 : R ≤ 64) (hl : raw.length = R) (hc : w.cell? ⟨s, 7, none⟩ = some (.slice (some ⟨g, 0, none⟩) R cp)) (hg : w.ownsRow base 2 1 (.slice (some ⟨g, 0, none⟩) R cp) R (ints raw)) :
    Calls Try.prog 60 #[.pointer (some ⟨s, 0, none⟩), .int .i64 p, .int .i64 v] w fun e w' => e = .returned (.tuple #[]) ∧ ∃ n, w' = (w.drewN n).setCell ⟨g, uidx p R, none⟩ (.int .i64 v) := by
  have hlt : uidx p R < R := Nat.mod_lt _ (by omega)
  have c1 : w.cell? ⟨g, uidx p R, none⟩ = some (.int .i64 (raw.getD (uidx p R) 0)) := by
    have hh := hg.cells (g := g) rfl (uidx p R) _ (ints_at raw _ (show uidx p R < raw.length by omega))
    rw [show ((⟨g, 0, none⟩ : Addr).add (uidx p R)) = ⟨g, uidx p R, none⟩ by unfold Addr.add; split <;> simp_all] at hh
    rw [hh, List.getD_eq_getElem?_getD, List.getElem?_eq_getElem (show uidx p R < raw.length by omega)]
    rfl
  have f1 : w.frozen? ⟨g, uidx p R, none⟩ = false := (own_blk hg (b := g) rfl).choose_spec.frozen _
  have HA := fun w hc => place_any p s g R cp base w hR hR64 hc
  have hi : ((uidx p R : Nat) : Int) < (R : Int) := by omega
  clear hg
  generalize uidx p R = I at *
  go_enter Try.func60, Try.ntmps60
  go_wp2_with fail
  go_region_with (go_at_call 73; refine (HA _ (by exact hc)).mono ?_; rintro e w1 ⟨rfl, rfl⟩)
  all_goals
    go_wp2_with fail
    go_end0
    exact ⟨rfl, 1, rfl⟩
end Go.Proofs.Ytpmpgnhbpneloaa
