/- State.Call of the document. -/
import Derived.Test.YtpmpgnhbpneloaaQp
import Derived.Test.YtpmpgnhbpneloaaQu
import Derived.Test.YtpmpgnhbpneloaaQv
namespace Go.Proofs.Ytpmpgnhbpneloaa
open Go.RowKit Go.Joins Go.ChangeShapes Go.WideShapes Go.Deep
set_option linter.unusedVariables false
set_option maxRecDepth 100000

theorem ar1_any (c : Int) (w : World) : Calls Try.prog 53 #[.int .i64 c] w fun e w' => e = .returned (.int .i64 (arityK 1 c)) ∧ w' = w := by
  by_cases h1 : c = 1
  · subst h1
    go_enter Try.func53, Try.ntmps53
    go_wp2
    go_ret
    exact ⟨rfl, rfl⟩
  have e1 : (c == 1) = false := by simp [h1]
  by_cases h2 : c = 2
  · subst h2
    go_enter Try.func53, Try.ntmps53
    go_wp2
    go_ret
    exact ⟨rfl, rfl⟩
  have e2 : (c == 2) = false := by simp [h2]
  have hr : arityK 1 c = -1 := by simp [arityK, h1, h2]
  rw [hr]
  clear hr h1 h2
  go_enter Try.func53, Try.ntmps53
  go_wp2
  go_ret
  exact ⟨rfl, rfl⟩
theorem ar2_any (c : Int) (w : World) : Calls Try.prog 54 #[.int .i64 c] w fun e w' => e = .returned (.int .i64 (arityK 2 c)) ∧ w' = w := by
  by_cases h3 : c = 3
  · subst h3
    go_enter Try.func54, Try.ntmps54
    go_wp2
    go_ret
    exact ⟨rfl, rfl⟩
  have e3 : (c == 3) = false := by simp [h3]
  by_cases h2 : c = 2
  · subst h2
    go_enter Try.func54, Try.ntmps54
    go_wp2
    go_ret
    exact ⟨rfl, rfl⟩
  have e2 : (c == 2) = false := by simp [h2]
  by_cases h5 : c = 5
  · subst h5
    go_enter Try.func54, Try.ntmps54
    go_wp2
    go_ret
    exact ⟨rfl, rfl⟩
  have e5 : (c == 5) = false := by simp [h5]
  have hr : arityK 2 c = -1 := by simp [arityK, h2, h3, h5]
  rw [hr]
  clear hr h2 h3 h5
  go_enter Try.func54, Try.ntmps54
  go_wp2
  go_ret
  exact ⟨rfl, rfl⟩
theorem ar3_any (c : Int) (w : World) : Calls Try.prog 55 #[.int .i64 c] w fun e w' => e = .returned (.int .i64 (arityK 3 c)) ∧ w' = w := by
  by_cases h3 : c = 3
  · subst h3
    go_enter Try.func55, Try.ntmps55
    go_wp2
    go_ret
    exact ⟨rfl, rfl⟩
  have e3 : (c == 3) = false := by simp [h3]
  by_cases h2 : c = 2
  · subst h2
    go_enter Try.func55, Try.ntmps55
    go_wp2
    go_ret
    exact ⟨rfl, rfl⟩
  have e2 : (c == 2) = false := by simp [h2]
  by_cases h4 : c = 4
  · subst h4
    go_enter Try.func55, Try.ntmps55
    go_wp2
    go_ret
    exact ⟨rfl, rfl⟩
  have e4 : (c == 4) = false := by simp [h4]
  by_cases h5 : c = 5
  · subst h5
    go_enter Try.func55, Try.ntmps55
    go_wp2
    go_ret
    exact ⟨rfl, rfl⟩
  have e5 : (c == 5) = false := by simp [h5]
  have hr : arityK 3 c = -1 := by simp [arityK, h2, h3, h4, h5]
  rw [hr]
  clear hr h2 h3 h4 h5
  go_enter Try.func55, Try.ntmps55
  go_wp2
  go_ret
  exact ⟨rfl, rfl⟩
theorem ar4_any (c : Int) (w : World) : Calls Try.prog 56 #[.int .i64 c] w fun e w' => e = .returned (.int .i64 (arityK 4 c)) ∧ w' = w := by
  by_cases h1 : c = 1
  · subst h1
    go_enter Try.func56, Try.ntmps56
    go_wp2
    go_ret
    exact ⟨rfl, rfl⟩
  have e1 : (c == 1) = false := by simp [h1]
  by_cases h4 : c = 4
  · subst h4
    go_enter Try.func56, Try.ntmps56
    go_wp2
    go_ret
    exact ⟨rfl, rfl⟩
  have e4 : (c == 4) = false := by simp [h4]
  by_cases h6 : c = 6
  · subst h6
    go_enter Try.func56, Try.ntmps56
    go_wp2
    go_ret
    exact ⟨rfl, rfl⟩
  have e6 : (c == 6) = false := by simp [h6]
  by_cases h8 : c = 8
  · subst h8
    go_enter Try.func56, Try.ntmps56
    go_wp2
    go_ret
    exact ⟨rfl, rfl⟩
  have e8 : (c == 8) = false := by simp [h8]
  by_cases h7 : c = 7
  · subst h7
    go_enter Try.func56, Try.ntmps56
    go_wp2
    go_ret
    exact ⟨rfl, rfl⟩
  have e7 : (c == 7) = false := by simp [h7]
  by_cases h5 : c = 5
  · subst h5
    go_enter Try.func56, Try.ntmps56
    go_wp2
    go_ret
    exact ⟨rfl, rfl⟩
  have e5 : (c == 5) = false := by simp [h5]
  have hr : arityK 4 c = -1 := by simp [arityK, h1, h4, h5, h6, h7, h8]
  rw [hr]
  clear hr h1 h4 h5 h6 h7 h8
  go_enter Try.func56, Try.ntmps56
  go_wp2
  go_ret
  exact ⟨rfl, rfl⟩
theorem arity_any (k c : Int) (w : World) : Calls Try.prog 27 #[.int .i64 k, .int .i64 c] w fun e w' => e = .returned (.int .i64 (arityK k c)) ∧ w' = w := by
  by_cases h1 : k = 1
  · subst h1
    go_enter Try.func27, Try.ntmps27
    go_wp2_with fail
    refine (ar1_any _ _).mono ?_
    rintro e w1 ⟨rfl, rfl⟩
    go_wp2
    go_ret
    exact ⟨rfl, rfl⟩
  have e1 : (k == 1) = false := by simp [h1]
  by_cases h2 : k = 2
  · subst h2
    go_enter Try.func27, Try.ntmps27
    go_wp2_with fail
    refine (ar2_any _ _).mono ?_
    rintro e w1 ⟨rfl, rfl⟩
    go_wp2
    go_ret
    exact ⟨rfl, rfl⟩
  have e2 : (k == 2) = false := by simp [h2]
  by_cases h3 : k = 3
  · subst h3
    go_enter Try.func27, Try.ntmps27
    go_wp2_with fail
    refine (ar3_any _ _).mono ?_
    rintro e w1 ⟨rfl, rfl⟩
    go_wp2
    go_ret
    exact ⟨rfl, rfl⟩
  have e3 : (k == 3) = false := by simp [h3]
  by_cases h4 : k = 4
  · subst h4
    go_enter Try.func27, Try.ntmps27
    go_wp2_with fail
    refine (ar4_any _ _).mono ?_
    rintro e w1 ⟨rfl, rfl⟩
    go_wp2
    go_ret
    exact ⟨rfl, rfl⟩
  have e4 : (k == 4) = false := by simp [h4]
  have hr : arityK k c = -1 := by simp [arityK, h1, h2, h3, h4]
  rw [hr]
  clear hr h1 h2 h3 h4
  go_enter Try.func27, Try.ntmps27
  go_wp2
  go_ret
  exact ⟨rfl, rfl⟩

set_option linter.unusedSectionVars false
section
variable (x : TM) (T o base : Nat) (what : Int) (A : Option Addr) (ca : Nat) (args : List Int) (w : World) (h : Cel w base T (o + 1) (o + 2) x) (hok : TOk x.t) (hA : Reads w w.heap.size 1 A args.length (ints args)) (hbase : base ≤ w.heap.size) (hsep : 0 < args.length → ∀ ad, A = some ad → x.vv.ownBlock ≠ some ad.block) (har : arityK x.t.kind what = args.length)
include h hok hA hbase hsep har
theorem k1_any (hk : x.t.kind = 1) :
    Calls Try.prog 28 #[.pointer (some ⟨T, o, none⟩), .int .i64 what, .slice A args.length ca] w (MPost (callF x.t what args) base T (o + 1) (o + 2) x w) := by
  have hc : (what = 1 ∧ args.length = 2) ∨ (what = 2 ∧ args.length = 1) := by
    rw [hk] at har
    simp only [arityK, if_true] at har
    split at har
    · left; omega
    · split at har
      · right; omega
      · omega
  have := counts_any x T o base what A args.length ca args w h hok hk hA rfl hc (hsep (by rcases hc with ⟨_, h⟩ | ⟨_, h⟩ <;> omega))
  unfold callF
  rw [if_pos hk]
  exact this
theorem k2_any (hk : x.t.kind = 2) :
    Calls Try.prog 29 #[.pointer (some ⟨T, o, none⟩), .int .i64 x.t.most, .int .i64 what, .slice A args.length ca] w (MPost (callF x.t what args) base T (o + 1) (o + 2) x w) := by
  have hc : (what = 3 ∧ args.length = 1) ∨ what = 2 ∨ what = 5 := by
    rw [hk] at har
    simp only [arityK] at har
    rw [if_neg (by decide), if_pos trivial] at har
    repeat (split at har; omega)
    omega
  unfold callF
  rw [if_neg (by omega), if_pos hk]
  rcases hc with ⟨rfl, ha⟩ | rfl | rfl
  · rw [ha] at hA ⊢
    exact queues_push x T o base A ca args w h hok hA ha hbase
  · exact queues_pull x T o base _ _ w h hok hbase
  · exact queues_len x T o base _ _ w h
theorem k3_any (hk : x.t.kind = 3) :
    Calls Try.prog 30 #[.pointer (some ⟨T, o, none⟩), .int .i64 x.t.most, .int .i64 what, .slice A args.length ca] w (MPost (callF x.t what args) base T (o + 1) (o + 2) x w) := by
  have hc : ((what = 2 ∧ args.length = 1) ∨ (what = 3 ∧ args.length = 2) ∨ (what = 4 ∧ args.length = 1)) ∨ what = 5 := by
    rw [hk] at har
    simp only [arityK] at har
    rw [if_neg (by decide), if_neg (by decide), if_pos trivial] at har
    repeat (split at har; omega)
    omega
  unfold callF
  rw [if_neg (by omega), if_neg (by omega), if_pos hk]
  rcases hc with hc | rfl
  · have := dicts_key x T o base what A args.length ca args w h hok hk hbase hA rfl hc
    have e : dictF x.t what (args.getD 0 0) (args.getD 1 0) (low Prod.fst x.t.pairs (args.getD 0 0)) (isAt Prod.fst x.t.pairs (args.getD 0 0)) =
        (if what = 2 then getF x.t (args.getD 0 0) else if what = 3 then putF x.t (args.getD 0 0) (args.getD 1 0) else if what = 4 then delF x.t (args.getD 0 0) else wideF x.t) := by
      rcases hc with ⟨rfl, _⟩ | ⟨rfl, _⟩ | ⟨rfl, _⟩ <;> rfl
    rw [← e]
    exact this
  · exact dicts_len x T o base _ _ w h
theorem k4_any (hk : x.t.kind = 4) :
    Calls Try.prog 31 #[.pointer (some ⟨T, o, none⟩), .int .i64 x.t.most, .int .i64 what, .slice A args.length ca] w (MPost (callF x.t what args) base T (o + 1) (o + 2) x w) := by
  have hc : ((what = 1 ∨ what = 4 ∨ what = 6 ∨ what = 8) ∧ args.length = 1) ∨ what = 7 ∨ what = 5 := by
    rw [hk] at har
    simp only [arityK] at har
    rw [if_neg (by decide), if_neg (by decide), if_neg (by decide), if_pos trivial] at har
    repeat (split at har; omega)
    omega
  unfold callF
  rw [if_neg (by omega), if_neg (by omega), if_neg (by omega)]
  rcases hc with ⟨hc, ha⟩ | rfl | rfl
  · have hA1 := hA
    rw [ha] at hA1 ⊢
    have := chains_key x T o base what A ca args w h hok hk hbase hA1 ha hc
    have e : chainF x.t what (args.getD 0 0) =
        (if what = 1 then addF x.t (args.getD 0 0) else if what = 4 then cutF x.t (args.getD 0 0) else if what = 6 then hasF x.t (args.getD 0 0) else if what = 7 then fromF x.t 0 else if what = 8 then nextK x.t (args.getD 0 0) else longF x.t) := by
      rcases hc with rfl | rfl | rfl | rfl <;> rfl
    rw [← e]
    exact this
  · exact chains_least x T o base _ _ w h
  · exact chains_len x T o base _ _ w h
end

/-- The blocks of a state of the document. -/
def RBlk (s g : Nat) (rv : Option Addr) (n : Nat) (rc : Nat × Nat) (tv : Value) (l : List TM) (b : Nat) : Prop := b = s ∨ b = g ∨ (Value.slice rv n rc.1).ownBlock = some b ∨ LBlocks tv l b
def regOf (t : TS) : Reg := ⟨t.kind, t.most⟩
theorem RIs.cel {w : World} {base s g : Nat} {rv : Option Addr} {rc : Nat × Nat} {tv : Value} {c : Cfg} {regs : List Reg} {raw : List Int} {l : List TM} (h : RIs w base s g rv rc tv c regs raw l) {k : Nat} (hk : k < l.length) :
    ∃ T cap, tv = .slice (some ⟨T, 0, none⟩) l.length cap ∧ Cel w base T (k * 3 + 1) (k * 3 + 2) l[k] ∧ T < w.heap.size := by
  obtain ⟨T, cap, htv, hb, hTl⟩ := h.ls.row.form (by omega)
  have hTb : tv.ownBlock = some T := by rw [htv]; rfl
  obtain ⟨cs, hcs⟩ := own_blk h.ls.row hTb
  have hc : ∀ t u, t < 3 → l[k].cells3[t]? = some u → w.cell? ⟨T, k * 3 + t, none⟩ = some u := by
    intro t u ht hu
    have := h.ls.row.cells hTb (k * 3 + t) u (by rw [rows_at TM.cells3 3 (fun _ => rfl) l k t hk ht]; exact hu)
    rw [show ((⟨T, 0, none⟩ : Addr).add (k * 3 + t)) = ⟨T, k * 3 + t, none⟩ by unfold Addr.add; split <;> simp_all] at this
    exact this
  have hth := h.ls.things _ (List.getElem_mem hk)
  exact ⟨T, cap, htv, ⟨hc 1 _ (by omega) rfl, hc 2 _ (by omega) rfl, hcs.frozen _, hcs.frozen _, hth, hTl, own_blk_ne hth.vs hcs (by decide), own_blk_ne hth.ps hcs (by decide), by omega⟩, hTl⟩
theorem RIs.turned {w w' : World} {base s g : Nat} {rv : Option Addr} {rc : Nat × Nat} {tv : Value} {c : Cfg} {regs : List Reg} {raw : List Int} {l : List TM} (h : RIs w base s g rv rc tv c regs raw l) (hsr : ∀ b, (Value.slice rv regs.length rc.1).ownBlock = some b → ¬ LBlocks tv l b) {k : Nat} (hk : k < l.length) {T cap : Nat} (htv : tv = .slice (some ⟨T, 0, none⟩) l.length cap) {t' : TS} (hkind : t'.kind = l[k].t.kind)
    (hp : XPost w w' base T (k * 3 + 1) (k * 3 + 2) l[k] t') : ∃ l', RIs w' base s g rv rc tv c regs raw l' ∧ l'.map TM.t = (l.map TM.t).set k t' ∧ Frm w w' (LBlocks tv l) ∧ (∀ b, LBlocks tv l' b → LBlocks tv l b ∨ w.heap.size ≤ b) := by
  obtain ⟨vv', pv', h1, h2, h3, h4, h5⟩ := hp
  have hrows : rows TM.cells3 (l.set k ⟨t', vv', pv'⟩) = ((rows TM.cells3 l).set (k * 3 + 1) vv').set (k * 3 + 2) pv' :=
    rows_set TM.cells3 3 (fun _ => rfl) l k 1 2 _ vv' pv' hk (by omega) (by omega) (by simp [TM.cells3, hkind])
  obtain ⟨hL, hB, hF⟩ := h.ls.turned hk htv hrows h1 h2 h3 h4 h5 (by decide) (by decide)
  have hns : ¬ LBlocks tv l s := fun hb => h.ls.ne hb h.blk (by decide) (by decide) (by decide) rfl
  have hng : ¬ LBlocks tv l g := by
    rintro (hb | ⟨x, hx, hb | hb⟩)
    · obtain ⟨c, hc⟩ := own_blk h.ls.row hb
      exact hc.ne_ h.rb.choose_spec (by decide) rfl
    · exact h.sepr x hx hb
    · obtain ⟨c, hc⟩ := own_blk (h.ls.things x hx).ps hb
      exact hc.ne_ h.rb.choose_spec (by decide) rfl
  refine ⟨l.set k ⟨t', vv', pv'⟩, ⟨?_, own_keep h.regs fun b hb => hF.block b (h.regs.lt b hb).2 (hsr b hb), ?_, hL, ?_, h.b0, h.b1⟩, by rw [List.map_set], hF, hB⟩
  · exact (hF.block s h.blk.lt hns).trans h.blk
  · exact own_keep h.rawb fun b hb => by injection hb with hb; subst hb; exact hF.block g h.gl hng
  · intro x hx hg
    rcases hB g (.inr ⟨x, hx, .inl hg⟩) with e | e
    · exact hng e
    · have := h.gl
      omega
theorem RIs.regsep {w : World} {base s g : Nat} {rv : Option Addr} {rc : Nat × Nat} {tv : Value} {c : Cfg} {regs : List Reg} {raw : List Int} {l : List TM} (h : RIs w base s g rv rc tv c regs raw l) (b : Nat) (hb : (Value.slice rv regs.length rc.1).ownBlock = some b) : ¬ LBlocks tv l b := fun hl => by
  obtain ⟨cs, hc⟩ := own_blk h.regs hb
  exact h.ls.ne hl hc (by decide) (by decide) (by decide) rfl

def RCallPost (r : List TS × Int × Int × Int) (base s g : Nat) (rv : Option Addr) (rc : Nat × Nat) (tv : Value) (c : Cfg) (regs : List Reg) (raw : List Int) (l : List TM) (w : World) : Ending → World → Prop := fun e w' =>
  ∃ l', e = .returned (.tuple #[.int .i64 r.2.1, .int .i64 r.2.2.1, .int .i64 r.2.2.2]) ∧ RIs w' base s g rv rc tv c regs raw l' ∧ l'.map TM.t = r.1 ∧ Frm w w' (LBlocks tv l) ∧ (∀ b, LBlocks tv l' b → LBlocks tv l b ∨ w.heap.size ≤ b)

theorem rcall_out (region what : Int) (A : Option Addr) (na ca : Nat) (w : World) {base s g : Nat} {rv : Option Addr} {rc : Nat × Nat} {tv : Value} {c : Cfg} {regs : List Reg} {raw : List Int} {l : List TM} (h : RIs w base s g rv rc tv c regs raw l) (hno : ¬ (0 ≤ region ∧ region.toNat < l.length)) :
    Calls Try.prog 16 #[.pointer (some ⟨s, 0, none⟩), .int .i64 region, .int .i64 what, .slice A na ca] w (RCallPost (l.map TM.t, 0, 0, 1) base s g rv rc tv c regs raw l w) := by
  obtain ⟨V, vc, hvv, hvc, hV⟩ := own_shapes h.ls.row
  have c1 : w.cell? ⟨s, 8, none⟩ = some (.slice V l.length vc) := by rw [← hvv]; exact (h.blk.cell 8).trans rfl
  have H := Lib.hid h
  clear h hvv hV
  by_cases h0 : region < 0
  · have e1 : decide (region < 0) = true := by simp [h0]
    clear hno
    go_enter Try.func16, Try.ntmps16
    go_wp2
    go_ret3
    exact ⟨l, rfl, H.out, rfl, Frm.refl _ _, fun b hb => .inl hb⟩
  · have e1 : decide (region < 0) = false := by simp; omega
    have e2 : decide ((l.length : Int) ≤ region) = true := by simp; omega
    clear hno
    go_enter Try.func16, Try.ntmps16
    go_wp2
    go_ret3
    exact ⟨l, rfl, H.out, rfl, Frm.refl _ _, fun b hb => .inl hb⟩

theorem rcall_end {w W w2 : World} {base s g : Nat} {rv : Option Addr} {rc : Nat × Nat} {tv : Value} {c : Cfg} {regs : List Reg} {raw : List Int} {l : List TM} {k T cap : Nat} {x : TM} {r2 : TS × Int × Int} (h : RIs w base s g rv rc tv c regs raw l) (hk : k < l.length) (htv : tv = .slice (some ⟨T, 0, none⟩) l.length cap) (hx : x = l[k]) (hW : Below w.heap.size w W) (hp : XPost W w2 base T (k * 3 + 1) (k * 3 + 2) x r2.1) (h1 : r2.1.kind = x.t.kind) :
    RCallPost ((l.map TM.t).set k r2.1, r2.2.1, r2.2.2, 0) base s g rv rc tv c regs raw l w (.returned (.tuple #[.int .i64 r2.2.1, .int .i64 r2.2.2, .int .i64 0])) w2 := by
  subst hx
  obtain ⟨l', hP', hmap, hF, hB⟩ := (h.below hW).turned (h.below hW).regsep hk htv h1 hp
  have hs := hW.size
  exact ⟨l', rfl, hP', hmap, (Frm.of_below (S := LBlocks tv l) hW).trans hF fun q hq => .inl hq, fun b hb => (hB b hb).imp id fun e => by omega⟩

set_option maxHeartbeats 2000000 in
theorem rcall_in (k : Nat) (what : Int) (A : Option Addr) (ca : Nat) (args : List Int) (w : World) {base s g : Nat} {rv : Option Addr} {rc : Nat × Nat} {tv : Value} {c : Cfg} {regs : List Reg} {raw : List Int} {l : List TM} (h : RIs w base s g rv rc tv c regs raw l) (hk : k < l.length) (hok : AllOk (l.map TM.t)) (hregs : regs = (l.map TM.t).map regOf) (hna : args.length ≤ 9223372036854775807) (hA : Reads w w.heap.size 1 A args.length (ints args)) (hbase : base ≤ w.heap.size)
    (hl8 : l.length ≤ 1000) (hsep : 0 < args.length → ∀ ad, A = some ad → ¬ RBlk s g rv regs.length rc tv l ad.block) :
    Calls Try.prog 16 #[.pointer (some ⟨s, 0, none⟩), .int .i64 k, .int .i64 what, .slice A args.length ca] w (RCallPost (pcallF (l.map TM.t) k what args) base s g rv rc tv c regs raw l w) := by
  obtain ⟨T, cap, htv, hcel, hTl⟩ := h.cel hk
  have c8 : w.cell? ⟨s, 8, none⟩ = some (.slice (some ⟨T, 0, none⟩) l.length cap) := by rw [← htv]; exact (h.blk.cell 8).trans rfl
  have hrl : regs.length = l.length := by rw [hregs]; simp
  have hkr : k < regs.length := by omega
  obtain ⟨rg, rcap, hrv, hrb, hrgl⟩ := h.regs.form (by omega)
  injection hrv with r1 r2 r3
  have c6 : w.cell? ⟨s, 6, none⟩ = some (.slice (some ⟨rg, 0, none⟩) l.length rc.1) := by rw [← hrl, ← r1]; exact (h.blk.cell 6).trans rfl
  obtain ⟨x, hx⟩ : ∃ x, x = l[k] := ⟨_, rfl⟩
  have hreg : regs[k] = regOf x.t := by rw [hx]; simp [hregs]
  have hrc : ∀ t u, t < 2 → (regOf x.t).cells[t]? = some u → w.cell? ⟨rg, k * 2 + t, none⟩ = some u := by
    intro t u ht hu
    have := h.regs.cells (g := rg) (by rw [r1]; rfl) (k * 2 + t) u (by rw [rows_at Reg.cells 2 (fun _ => rfl) regs k t hkr ht, hreg]; exact hu)
    rw [show ((⟨rg, 0, none⟩ : Addr).add (k * 2 + t)) = ⟨rg, k * 2 + t, none⟩ by unfold Addr.add; split <;> simp_all] at this
    exact this
  have cr0 : w.cell? ⟨rg, k * 2, none⟩ = some (.int .i64 x.t.kind) := by simpa [regOf] using hrc 0 _ (by omega) rfl
  have cr1 : w.cell? ⟨rg, k * 2 + 1, none⟩ = some (.int .i64 x.t.most) := hrc 1 _ (by omega) rfl
  have hxok : TOk x.t := hok _ (List.mem_map.2 ⟨x, by rw [hx]; exact List.getElem_mem hk, rfl⟩)
  rw [← hx] at hcel
  obtain ⟨r, hr⟩ : ∃ r, r = pcallF (l.map TM.t) k what args := ⟨_, rfl⟩
  rw [← hr]
  have hr2 : r = if arityK x.t.kind what = args.length then ((l.map TM.t).set k (callF x.t what args).1, (callF x.t what args).2.1, (callF x.t what args).2.2, 0) else (l.map TM.t, 0, 0, 1) := by
    rw [hr]
    unfold pcallF
    rw [dif_pos ⟨by omega, by simpa using hk⟩]
    simp only [Int.toNat_natCast, List.getElem_map, ← hx]
  have H := Lib.hid h
  have HX := Lib.hid hx
  have HTV := Lib.hid htv
  have hsep2 : 0 < args.length → ∀ ad, A = some ad → x.vv.ownBlock ≠ some ad.block := fun h0 ad ha e => hsep h0 ad ha (.inr (.inr (.inr (.inr ⟨_, List.getElem_mem hk, .inl (by rw [← hx]; exact e)⟩))))
  have hkl : (k : Int) < (l.length : Int) := by omega
  have e1 : decide ((k : Int) < 0) = false := by simp
  have e2 : decide ((l.length : Int) ≤ (k : Int)) = false := by simp; omega
  have hrgw : rg < w.heap.size := hrgl
  have hsl : s < w.heap.size := h.blk.lt
  by_cases har : arityK x.t.kind what = args.length
  · rw [if_pos har] at hr2
    obtain ⟨q, hq⟩ : ∃ q, q = callF x.t what args := ⟨_, rfl⟩
    have hkk : q.1.kind = x.t.kind := by rw [hq]; exact (callF_kind _ _ _).1
    have hne : ((args.length : Int) != (args.length : Int)) = false := by simp
    obtain ⟨kind, hkind⟩ : ∃ kind, kind = x.t.kind := ⟨_, rfl⟩
    obtain ⟨most, hmost⟩ : ∃ most, most = x.t.most := ⟨_, rfl⟩
    have AR := arity_any kind what
    rw [hkind, har] at AR
    have h1k := hxok.k1
    have h4k := hxok.k4
    rw [← hkind] at AR cr0 h1k h4k
    rw [← hmost] at cr1
    have HD1 : ∀ W, Below w.heap.size w W → kind = 1 → Calls Try.prog 28 #[.pointer (some ⟨T, k * 3, none⟩), .int .i64 what, .slice A args.length ca] W (MPost q base T (k * 3 + 1) (k * 3 + 2) x W) := fun W hW hkd => by
      rw [hq]
      exact k1_any x T (k * 3) base what A ca args W (hcel.below hW) hxok ((hA.below hW).more hW.size) (by have := hW.size; omega) hsep2 har (by omega)
    have HD2 : ∀ W, Below w.heap.size w W → kind = 2 → Calls Try.prog 29 #[.pointer (some ⟨T, k * 3, none⟩), .int .i64 most, .int .i64 what, .slice A args.length ca] W (MPost q base T (k * 3 + 1) (k * 3 + 2) x W) := fun W hW hkd => by
      rw [hq, hmost]
      exact k2_any x T (k * 3) base what A ca args W (hcel.below hW) hxok ((hA.below hW).more hW.size) (by have := hW.size; omega) hsep2 har (by omega)
    have HD3 : ∀ W, Below w.heap.size w W → kind = 3 → Calls Try.prog 30 #[.pointer (some ⟨T, k * 3, none⟩), .int .i64 most, .int .i64 what, .slice A args.length ca] W (MPost q base T (k * 3 + 1) (k * 3 + 2) x W) := fun W hW hkd => by
      rw [hq, hmost]
      exact k3_any x T (k * 3) base what A ca args W (hcel.below hW) hxok ((hA.below hW).more hW.size) (by have := hW.size; omega) hsep2 har (by omega)
    have HD4 : ∀ W, Below w.heap.size w W → kind = 4 → Calls Try.prog 31 #[.pointer (some ⟨T, k * 3, none⟩), .int .i64 most, .int .i64 what, .slice A args.length ca] W (MPost q base T (k * 3 + 1) (k * 3 + 2) x W) := fun W hW hkd => by
      rw [hq, hmost]
      exact k4_any x T (k * 3) base what A ca args W (hcel.below hW) hxok ((hA.below hW).more hW.size) (by have := hW.size; omega) hsep2 har (by omega)
    have HKK := Lib.hid hkk
    rw [← hq] at hr2
    subst hr2
    clear h hcel hx htv hsep hsep2 hr har hA hxok hok hregs hreg hrc r1 r3 hrb hrl hkr hmost hkind hq hkk hrgl
    rcases (show kind = 1 ∨ kind = 2 ∨ kind = 3 ∨ kind = 4 by omega) with rfl | rfl | rfl | rfl
    · have HD := fun W hW => HD1 W hW rfl
      clear HD1 HD2 HD3 HD4
      go_enter Try.func16, Try.ntmps16
      go_wp2_with fail
      refine (AR _).mono ?_
      rintro e w1 ⟨rfl, rfl⟩
      go_wp2_with fail
      refine (HD _ (by exact below_new)).mono ?_
      rintro e w2 ⟨rfl, hp⟩
      have HP := Lib.hid hp
      clear hp
      go_wp2_with fail
      go_ret3
      exact rcall_end H.out hk HTV.out HX.out (by exact below_new) HP.out HKK.out
    · have HD := fun W hW => HD2 W hW rfl
      clear HD1 HD2 HD3 HD4
      go_enter Try.func16, Try.ntmps16
      go_wp2_with fail
      refine (AR _).mono ?_
      rintro e w1 ⟨rfl, rfl⟩
      go_wp2_with fail
      refine (HD _ (by exact below_new)).mono ?_
      rintro e w2 ⟨rfl, hp⟩
      have HP := Lib.hid hp
      clear hp
      go_wp2_with fail
      go_ret3
      exact rcall_end H.out hk HTV.out HX.out (by exact below_new) HP.out HKK.out
    · have HD := fun W hW => HD3 W hW rfl
      clear HD1 HD2 HD3 HD4
      go_enter Try.func16, Try.ntmps16
      go_wp2_with fail
      refine (AR _).mono ?_
      rintro e w1 ⟨rfl, rfl⟩
      go_wp2_with fail
      refine (HD _ (by exact below_new)).mono ?_
      rintro e w2 ⟨rfl, hp⟩
      have HP := Lib.hid hp
      clear hp
      go_wp2_with fail
      go_ret3
      exact rcall_end H.out hk HTV.out HX.out (by exact below_new) HP.out HKK.out
    · have HD := fun W hW => HD4 W hW rfl
      clear HD1 HD2 HD3 HD4
      go_enter Try.func16, Try.ntmps16
      go_wp2_with fail
      refine (AR _).mono ?_
      rintro e w1 ⟨rfl, rfl⟩
      go_wp2_with fail
      refine (HD _ (by exact below_new)).mono ?_
      rintro e w2 ⟨rfl, hp⟩
      have HP := Lib.hid hp
      clear hp
      go_wp2_with fail
      go_ret3
      exact rcall_end H.out hk HTV.out HX.out (by exact below_new) HP.out HKK.out
  · rw [if_neg har] at hr2
    subst hr2
    have hne : (arityK x.t.kind what != (args.length : Int)) = true := by simp [har]
    have AR := arity_any x.t.kind what
    obtain ⟨z, hz⟩ : ∃ z, z = arityK x.t.kind what := ⟨_, rfl⟩
    rw [← hz] at hne AR
    clear h hcel hx htv hsep hsep2 hr har hA hxok hok hregs hreg hrc r1 r3 hrb hrl hkr hrgl hz
    go_enter Try.func16, Try.ntmps16
    go_wp2_with fail
    refine (AR _).mono ?_
    rintro e w1 ⟨rfl, rfl⟩
    go_wp2_with fail
    go_ret3
    exact ⟨l, rfl, H.out.below (by exact below_new), rfl, Frm.of_below (by exact below_new), fun b hb => .inl hb⟩
end Go.Proofs.Ytpmpgnhbpneloaa
