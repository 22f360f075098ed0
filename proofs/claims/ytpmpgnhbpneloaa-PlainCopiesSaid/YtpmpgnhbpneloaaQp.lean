/- State.Call of the program. -/
import Derived.Test.YtpmpgnhbpneloaaQo
import Derived.Laws.EntriesVeiled
namespace Go.Proofs.Ytpmpgnhbpneloaa
open Go.RowKit Go.Joins Go.ChangeShapes Go.WideShapes Go.Deep
set_option linter.unusedVariables false
set_option maxRecDepth 100000

def pcallF (ts : List TS) (region what : Int) (args : List Int) : List TS × Int × Int × Int :=
  if h : 0 ≤ region ∧ region.toNat < ts.length then
    (if arityK (ts[region.toNat]'h.2).kind what = args.length then
      (ts.set region.toNat (callF (ts[region.toNat]'h.2) what args).1, (callF (ts[region.toNat]'h.2) what args).2.1, (callF (ts[region.toNat]'h.2) what args).2.2, 0) else (ts, 0, 0, 1))
  else (ts, 0, 0, 1)
def AllOk (ts : List TS) : Prop := ∀ t ∈ ts, TOk t
theorem pcallF_ok {ts : List TS} (h : AllOk ts) (region what : Int) (args : List Int) : AllOk (pcallF ts region what args).1 := by
  unfold pcallF
  split
  · rename_i hh
    split
    · intro t ht
      rcases List.mem_or_eq_of_mem_set ht with ht | rfl
      · exact h t ht
      · exact callF_ok (h _ (List.getElem_mem hh.2)) what args
    · exact h
  · exact h

def PCallPost (r : List TS × Int × Int × Int) (base s g : Nat) (tv : Value) (raw : List Int) (l : List TM) (w : World) : Ending → World → Prop := fun e w' =>
  ∃ l', e = .returned (.tuple #[.int .i64 r.2.1, .int .i64 r.2.2.1, .int .i64 r.2.2.2]) ∧ PIs w' base s g tv raw l' ∧ l'.map TM.t = r.1 ∧ Frm w w' (LBlocks tv l) ∧ (∀ b, LBlocks tv l' b → LBlocks tv l b ∨ w.heap.size ≤ b)

theorem pcall_out (region what : Int) (A : Option Addr) (na ca : Nat) (args : List Int) (w : World) {base s g : Nat} {tv : Value} {raw : List Int} {l : List TM} (h : PIs w base s g tv raw l) (hno : ¬ (0 ≤ region ∧ region.toNat < l.length)) :
    Calls Try.prog 12 #[.pointer (some ⟨s, 0, none⟩), .int .i64 region, .int .i64 what, .slice A na ca] w (PCallPost (l.map TM.t, 0, 0, 1) base s g tv raw l w) := by
  obtain ⟨V, vc, hvv, hvc, hV⟩ := own_shapes h.ls.row
  have c1 : w.cell? ⟨s, 1, none⟩ = some (.slice V l.length vc) := by rw [← hvv]; exact (h.blk.cell 1).trans rfl
  have H := Lib.hid h
  clear h hvv hV
  by_cases h0 : region < 0
  · have e1 : decide (region < 0) = true := by simp [h0]
    clear hno
    go_enter Try.func12, Try.ntmps12
    go_wp2
    go_ret3
    exact ⟨l, rfl, H.out, rfl, Frm.refl _ _, fun b hb => .inl hb⟩
  · have e1 : decide (region < 0) = false := by simp; omega
    have e2 : decide ((l.length : Int) ≤ region) = true := by simp; omega
    clear hno
    go_enter Try.func12, Try.ntmps12
    go_wp2
    go_ret3
    exact ⟨l, rfl, H.out, rfl, Frm.refl _ _, fun b hb => .inl hb⟩

theorem call_end {w W w2 : World} {base s g : Nat} {tv : Value} {raw : List Int} {l : List TM} {k T cap : Nat} {x : TM} {r2 : TS × Int × Int} (h : PIs w base s g tv raw l) (hk : k < l.length) (htv : tv = .slice (some ⟨T, 0, none⟩) l.length cap) (hx : x = l[k]) (hW : Below w.heap.size w W) (hp : XPost W w2 base T (k * 4 + 2) (k * 4 + 3) x r2.1) (h1 : r2.1.kind = x.t.kind) (h2 : r2.1.most = x.t.most) :
    PCallPost ((l.map TM.t).set k r2.1, r2.2.1, r2.2.2, 0) base s g tv raw l w (.returned (.tuple #[.int .i64 r2.2.1, .int .i64 r2.2.2, .int .i64 0])) w2 := by
  subst hx
  obtain ⟨l', hP', hmap, hF, hB⟩ := (h.below hW).turned hk htv h1 h2 hp
  have hs := hW.size
  exact ⟨l', rfl, hP', hmap, (Frm.of_below (S := LBlocks tv l) hW).trans hF fun q hq => .inl hq, fun b hb => (hB b hb).imp id fun e => by omega⟩

set_option maxHeartbeats 2000000 in
theorem pcall_in (k : Nat) (what : Int) (A : Option Addr) (ca : Nat) (args : List Int) (w : World) {base s g : Nat} {tv : Value} {raw : List Int} {l : List TM} (h : PIs w base s g tv raw l) (hk : k < l.length) (hok : AllOk (l.map TM.t)) (hna : args.length ≤ 9223372036854775807) (hA : Reads w w.heap.size 1 A args.length (ints args)) (hbase : base ≤ w.heap.size)
    (hl8 : l.length ≤ 1000) (hsep : 0 < args.length → ∀ ad, A = some ad → ¬ PBlk s g tv l ad.block) :
    Calls Try.prog 12 #[.pointer (some ⟨s, 0, none⟩), .int .i64 k, .int .i64 what, .slice A args.length ca] w (PCallPost (pcallF (l.map TM.t) k what args) base s g tv raw l w) := by
  obtain ⟨T, cap, htv, hcel, ck, cm, hTl⟩ := h.cel hk
  have c1 : w.cell? ⟨s, 1, none⟩ = some (.slice (some ⟨T, 0, none⟩) l.length cap) := by rw [← htv]; exact (h.blk.cell 1).trans rfl
  obtain ⟨x, hx⟩ : ∃ x, x = l[k] := ⟨_, rfl⟩
  have hxok : TOk x.t := hok _ (List.mem_map.2 ⟨x, by rw [hx]; exact List.getElem_mem hk, rfl⟩)
  rw [← hx] at hcel ck cm
  obtain ⟨kind, hkind⟩ : ∃ kind, kind = x.t.kind := ⟨_, rfl⟩
  rw [← hkind] at ck
  obtain ⟨r, hr⟩ : ∃ r, r = pcallF (l.map TM.t) k what args := ⟨_, rfl⟩
  rw [← hr]
  have hr2 : r = if arityK x.t.kind what = args.length then ((l.map TM.t).set k (callF x.t what args).1, (callF x.t what args).2.1, (callF x.t what args).2.2, 0) else (l.map TM.t, 0, 0, 1) := by
    rw [hr]
    unfold pcallF
    rw [dif_pos ⟨by omega, by simpa using hk⟩]
    simp only [Int.toNat_natCast, List.getElem_map, ← hx]
  have HR := Lib.hid hr2
  have H := Lib.hid h
  have HC := Lib.hid hcel
  have HK := Lib.hid hkind
  have HX := Lib.hid hx
  have HTV := Lib.hid htv
  have HSEP : Hid (0 < args.length → ∀ ad, A = some ad → x.vv.ownBlock ≠ some ad.block) := Lib.hid fun h0 ad ha e => hsep h0 ad ha (.inr (.inr (.inr ⟨_, List.getElem_mem hk, .inl (by rw [← hx]; exact e)⟩)))
  have hkl : (k : Int) < (l.length : Int) := by omega
  obtain ⟨na, hnae⟩ : ∃ na, na = args.length := ⟨_, rfl⟩
  have HNA := Lib.hid hnae
  rw [← hnae] at hna ⊢
  have e1 : decide ((k : Int) < 0) = false := by simp
  have e2 : decide ((l.length : Int) ≤ (k : Int)) = false := by simp; omega
  have HA := Lib.hid hA
  have HOK := Lib.hid hxok
  clear h hcel hkind hx htv hsep hr hr2 hA hxok hok hnae
  go_enter Try.func12, Try.ntmps12
  go_wp2_with fail
  refine (calls_any _).mono ?_
  rintro e w1 ⟨rfl, rfl⟩
  have hB := Blk.new w 76 (rows rowC tab).toArray
  have hbel : Below w.heap.size w (w.alloc (.cells (rows rowC tab).toArray 76)) := (Below.refl _ _).alloc (Nat.le_refl _) _
  generalize w.alloc (.cells (rows rowC tab).toArray 76) = W1 at *
  go_wp2_with fail
  go_loopg [39] 15 (fun gk i wr => ∃ j : Nat, i = .int .i64 j ∧ j ≤ 15 ∧ gk = 15 - j ∧ Below w.heap.size w wr ∧ Blk wr w.heap.size 76 (rows rowC tab).toArray ∧ ∀ i (hi : i < tab.length), i < j → ¬ (tab[i].1 = kind ∧ tab[i].2.1 = what ∧ tab[i].2.2.1 = (na : Int)))
  case atStart => exact ⟨0, rfl, by omega, rfl, hbel, hB, fun i _ h => by omega⟩
  case round =>
    obtain ⟨j, rfl, hj, hgj, hbl, hBj, hno⟩ := hrel
    have HGJ := Lib.hid hgj
    have HNO := Lib.hid hno
    clear hgj hno hbel hB
    by_cases hj15 : j < 15
    · have hjt : j < tab.length := hj15
      have hcc : ∀ t u, t < 4 → (rowC tab[j])[t]? = some u → wr.cell? ⟨w.heap.size, j * 4 + t, none⟩ = some u := by
        intro t u ht hu
        rw [hBj.cell]
        have := rows_at rowC 4 (fun _ => rfl) tab j t hjt ht
        rw [hu] at this
        simpa using this
      have hmem : tab[j] ∈ tab := List.getElem_mem hjt
      obtain ⟨rw_, hrw⟩ : ∃ rw_, rw_ = tab[j] := ⟨_, rfl⟩
      rw [← hrw] at hcc hmem
      have hne := fun (a : ¬ (rw_.1 = kind ∧ rw_.2.1 = what ∧ rw_.2.2.1 = (na : Int))) i (hi : i < tab.length) (h : i < j + 1) => (show ¬ (tab[i].1 = kind ∧ tab[i].2.1 = what ∧ tab[i].2.2.1 = (na : Int)) from by
        rcases Nat.lt_or_ge i j with h1 | h1
        · exact HNO.out i hi h1
        · obtain rfl : i = j := by omega
          rw [← hrw]; exact a)
      have HNE := Lib.hid hne
      have HM := Lib.hid hmem
      obtain ⟨kk, cc, aa, f⟩ := rw_
      have d0 : wr.cell? ⟨w.heap.size, j * 4, none⟩ = some (.int .i64 kk) := by simpa using hcc 0 _ (by omega) rfl
      have d1 : wr.cell? ⟨w.heap.size, j * 4 + 1, none⟩ = some (.int .i64 cc) := hcc 1 _ (by omega) rfl
      have d2 : wr.cell? ⟨w.heap.size, j * 4 + 2, none⟩ = some (.int .i64 aa) := hcc 2 _ (by omega) rfl
      have d3 : wr.cell? ⟨w.heap.size, j * 4 + 3, none⟩ = some (.func (.func f) #[] #[]) := hcc 3 _ (by omega) rfl
      have dk : wr.cell? ⟨T, k * 4, none⟩ = some (.int .i64 kind) := (hbl.cell (p := ⟨T, k * 4, none⟩) hTl).trans ck
      have hTw : T < wr.heap.size := by have := hbl.size; omega
      have hji : (j : Int) < 15 := by omega
      clear hcc hrw hne hmem
      by_cases h1 : kk = kind
      · subst h1
        by_cases h2 : cc = what
        · subst h2
          by_cases h3 : aa = (na : Int)
          · subst h3
            have hent : ∀ args w, (callFunc f args).run Try.prog w = .ok (.enter f args) w := fun args w => row_enter HM.out args w
            have HD : Hid (∀ W, Below w.heap.size w W → Calls Try.prog f #[.pointer (some ⟨T, k * 4, none⟩), .slice A na ca] W (MPost (callF x.t cc args) base T (k * 4 + 2) (k * 4 + 3) x W)) := Lib.hid fun W hW => by
              have hC := HC.out.below hW
              have := row_does HM.out x T (k * 4) base A ca args W hC ((hW.cell (p := ⟨T, k * 4 + 1, none⟩) hTl).trans cm) HOK.out (by have := HA.out.below hW; exact this.more hW.size) (by have := hW.size; omega) HSEP.out HK.out (by rw [← HNA.out])
              rw [← HNA.out] at this
              exact this.1
            have har : arityK x.t.kind cc = args.length := (row_does HM.out x T (k * 4) base A ca args w HC.out cm HOK.out HA.out hbase HSEP.out HK.out (by rw [← HNA.out])).2
            have hr3 := HR.out
            rw [if_pos har] at hr3
            subst hr3
            obtain ⟨r2, hr2⟩ : ∃ r2, r2 = callF x.t cc args := ⟨_, rfl⟩
            have hkk : r2.1.kind = x.t.kind ∧ r2.1.most = x.t.most := by rw [hr2]; exact callF_kind _ _ _
            rw [← hr2] at HD ⊢
            have HKK := Lib.hid hkk
            have HR2 := Lib.hid hr2
            have HBL := Lib.hid hbl
            have hbl2 : Below w.heap.size w (wr.alloc (.cells #[.int .i64 kk, .int .i64 cc, .int .i64 na, .func (.func f) #[] #[]] 76)) := hbl.alloc hbl.size _
            have HBL2 := Lib.hid hbl2
            clear hkk hr2 har hbl hbl2 hBj ck cm
            go_wp2_with fail
            go_quiet (fail)
            go_wp2_with fail
            refine (HD.out _ (below_drewN HBL2.out _)).mono ?_
            rintro e w2 ⟨rfl, hp⟩
            have HP := Lib.hid hp
            have hb3 := below_drewN HBL2.out 0
            clear hp hb3
            go_wp2_with fail
            go_ret3
            exact call_end H.out hk HTV.out HX.out (below_drewN HBL2.out _) HP.out HKK.out.1 HKK.out.2
          · have e3 : (aa == (na : Int)) = false := by simp [h3]
            go_wp2_with fail
            go_quiet (fail)
            go_wp2_with fail
            go_roundg (15 - (j + 1))
            case measure => have := HGJ.out; omega
            case rel => exact ⟨j + 1, by go_num, by omega, rfl, below_drewN (hbl.alloc hbl.size _) _, (hBj.alloc _).drewN _, fun i hi h => HNE.out (fun hh => h3 hh.2.2) i hi h⟩
        · have e3 : (cc == what) = false := by simp [h2]
          go_wp2_with fail
          go_quiet (fail)
          go_wp2_with fail
          go_roundg (15 - (j + 1))
          case measure => have := HGJ.out; omega
          case rel => exact ⟨j + 1, by go_num, by omega, rfl, below_drewN (hbl.alloc hbl.size _) _, (hBj.alloc _).drewN _, fun i hi h => HNE.out (fun hh => h2 hh.2.1) i hi h⟩
      · have e3 : (kk == kind) = false := by simp [h1]
        go_wp2_with fail
        go_quiet (fail)
        go_wp2_with fail
        go_roundg (15 - (j + 1))
        case measure => have := HGJ.out; omega
        case rel => exact ⟨j + 1, by go_num, by omega, rfl, below_drewN (hbl.alloc hbl.size _) _, (hBj.alloc _).drewN _, fun i hi h => HNE.out (fun hh => h1 hh.1) i hi h⟩
    · obtain rfl : j = 15 := by omega
      have hna2 : arityK x.t.kind what ≠ args.length := arity_tab _ _ _ fun r hr => by
        obtain ⟨i, hi, rfl⟩ := List.getElem_of_mem hr
        have := HNO.out i hi hi
        rwa [HK.out, HNA.out] at this
      have hr3 := HR.out
      rw [if_neg hna2] at hr3
      subst hr3
      go_wp2_with fail
      go_ret3
      exact ⟨l, rfl, H.out.below hbl, rfl, Frm.of_below hbl, fun b hb => .inl hb⟩
end Go.Proofs.Ytpmpgnhbpneloaa
