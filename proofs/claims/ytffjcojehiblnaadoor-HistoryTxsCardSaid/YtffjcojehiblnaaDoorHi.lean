/- Contracts of errors.As and errors.Is at this program's error (turned from the kit's worked ToyasAs and SentryIs). -/
import Derived.Test.YtffjcojehiblnaaDoorHz1
import Derived.LaidEql
import Derived.Stop.Asserts
import Derived.RowKitTokens
namespace Go.Proofs.YtffjcojehiblnaaDoor
open Go.RowKit Go.Extern.Stop Go.Stop Go.Extern
set_option linter.unusedVariables false
set_option linter.unusedSimpArgs false
set_option maxRecDepth 100000

theorem fas_valueOf27 (t : Addr) (w : World) : (ReflectliteValue.unpack (.iface 56 (.pointer (some t)))).run Tryd.prog w
    = .ok (.agg #[.pointer (some ⟨2, 56, none⟩), .pointer (some ⟨w.heap.size, 0, none⟩), .int .u64 150]) (w.alloc (.cells #[.pointer (some t)] 56)) := by kernel_rfl
theorem fas_type27 (a : Addr) (w : World) : (ReflectliteValue.methodAny (ReflectliteValue.valueError "reflectlite.Value.Type" 0) (fun t _ _ _ => ReflectliteType.toType t) #[.agg #[.pointer (some ⟨2, 56, none⟩), .pointer (some a), .int .u64 150]]).run Tryd.prog w
    = .ok (.iface 108 (.agg #[.pointer (some ⟨2, 56, none⟩)])) w := by kernel_rfl
theorem fas_methodKind (h : Value) (w : World) : (Go.method 291 108 (.agg #[h]) "Kind").run Tryd.prog w = .ok (100, h) w := by kernel_rfl
theorem fas_kind27 (w : World) : ((ReflectliteType.abiMethod fun t => (fun a : Nat => Value.int IntKind.u8 (a : Int)) <$> Rtype.kind t) #[.pointer (some ⟨2, 56, none⟩)]).run Tryd.prog w = .ok (.int .u8 22) w := by kernel_rfl
theorem fas_kind25 (w : World) : ((ReflectliteType.abiMethod fun t => (fun a : Nat => Value.int IntKind.u8 (a : Int)) <$> Rtype.kind t) #[.pointer (some ⟨2, 53, none⟩)]).run Tryd.prog w = .ok (.int .u8 22) w := by kernel_rfl

theorem rlm (z : Sem Value) (f : TypeId → Addr → Nat → Nat → Sem Value) (v : Value) :
    ReflectliteValue.method z f #[v] = (do match ← ReflectliteValue.parts v with | none => z | some (t, a, fl) => f t a fl (fl % 32)) := rfl
theorem fas_parts27 (a : Addr) (w : World) : (ReflectliteValue.parts (.agg #[.pointer (some ⟨2, 56, none⟩), .pointer (some a), .int .u64 150])).run Tryd.prog w = .ok (some (56, a, 150)) w := by kernel_rfl
theorem fas_isNil27 (a p : Addr) (W : World) (ha : W.cell? a = some (.pointer (some p))) :
    (ReflectliteValue.method (ReflectliteValue.valueError "reflectlite.Value.IsNil" 0) ReflectliteValue.isNil #[.agg #[.pointer (some ⟨2, 56, none⟩), .pointer (some a), .int .u64 150]]).run Tryd.prog W = .ok (.bool false) W := by
  rw [rlm]
  simp only [Sem.run_bind, fas_parts27, Result.andThen]
  simp [ReflectliteValue.isNil, loadVar, isAgg, underlying, Tryd.underlying56, ha, Result.andThen]

theorem fas_methodElem (h : Value) (w : World) : (Go.method 291 108 (.agg #[h]) "Elem").run Tryd.prog w = .ok (111, .agg #[h]) w := by kernel_rfl
theorem fas_methodImplements (h : Value) (w : World) : (Go.method 291 108 (.agg #[h]) "Implements").run Tryd.prog w = .ok (112, .agg #[h]) w := by kernel_rfl
theorem fas_methodAssignableTo (h : Value) (w : World) : (Go.method 291 108 (.agg #[h]) "AssignableTo").run Tryd.prog w = .ok (109, .agg #[h]) w := by kernel_rfl
theorem fas_elem27 (w : World) : (ReflectliteType.method ReflectliteType.elem #[.agg #[.pointer (some ⟨2, 56, none⟩)]]).run Tryd.prog w = .ok (.iface 108 (.agg #[.pointer (some ⟨2, 53, none⟩)])) w := by kernel_rfl
theorem fas_implements25 (w : World) : (ReflectliteType.relation "Implements" ReflectliteType.implements_ #[.agg #[.pointer (some ⟨2, 53, none⟩)], .iface 108 (.agg #[.pointer (some ⟨2, 50, none⟩)])]).run Tryd.prog w = .ok (.bool true) w := by kernel_rfl
theorem fas_typeOf25 (v : Value) (w : World) : (ReflectliteType.typeOf #[.iface 53 v]).run Tryd.prog w = .ok (.iface 108 (.agg #[.pointer (some ⟨2, 53, none⟩)])) w := by kernel_rfl
theorem fas_assignable25 (w : World) : (ReflectliteType.relation "AssignableTo" ReflectliteType.assignableTo #[.agg #[.pointer (some ⟨2, 53, none⟩)], .iface 108 (.agg #[.pointer (some ⟨2, 53, none⟩)])]).run Tryd.prog w = .ok (.bool true) w := by kernel_rfl
theorem fas_valueOf25 (e : Addr) (w : World) : (ReflectliteValue.unpack (.iface 53 (.pointer (some e)))).run Tryd.prog w
    = .ok (.agg #[.pointer (some ⟨2, 53, none⟩), .pointer (some ⟨w.heap.size, 0, none⟩), .int .u64 150]) (w.alloc (.cells #[.pointer (some e)] 53)) := by kernel_rfl

theorem fas_elemOf27 (w : World) : (Rtype.elem? 56).run Tryd.prog w = .ok (some 53) w := by kernel_rfl
theorem fas_mk25 (p : Addr) (w : World) : (ReflectliteValue.mk 53 p ReflectliteValue.flagAddr).run Tryd.prog w = .ok (.agg #[.pointer (some ⟨2, 53, none⟩), .pointer (some p), .int .u64 406]) w := by kernel_rfl
theorem fas_elemV27 (a p : Addr) (W : World) (ha : W.cell? a = some (.pointer (some p))) :
    (ReflectliteValue.method (ReflectliteValue.valueError "reflectlite.Value.Elem" 0) ReflectliteValue.elem #[.agg #[.pointer (some ⟨2, 56, none⟩), .pointer (some a), .int .u64 150]]).run Tryd.prog W
      = .ok (.agg #[.pointer (some ⟨2, 53, none⟩), .pointer (some p), .int .u64 406]) W := by
  rw [rlm]
  simp only [Sem.run_bind, fas_parts27, Result.andThen]
  simp [ReflectliteValue.elem, loadVar, isAgg, underlying, Tryd.underlying56, ha, Result.andThen, fas_elemOf27, fas_mk25]
theorem rls (v x : Value) : ReflectliteValue.set #[v, x] = (do
    let (some (dst, a, fl), some (src, b, _)) := (← ReflectliteValue.parts v, ← ReflectliteValue.parts x)
      | unsupported (.noEntry "extern/(internal/reflectlite.Value).Set.zeroValue")
    if fl / ReflectliteValue.flagAddr % 2 == 0 then unsupported (.noEntry "extern/(internal/reflectlite.Value).Set.unaddressable")
    let val ← loadVar src b
    if ← Rtype.directlyAssignable dst src then storeVar dst a val
    else if ← Rtype.implements dst src then
      if (← Rtype.kind src) == 20 then
        match val with
        | .nilIface => unsupported (.noEntry "extern/reflectlite: a nil value of one interface type handed on as a value of another")
        | _ => storeVar dst a val
      else storeVar dst a (.iface src val)
    else panicString ("reflectlite.Set: value of type " ++ (← Rtype.spelt src) ++ " is not assignable to type " ++ (← Rtype.spelt dst))
    pure (.tuple #[])) := rfl
theorem fas_parts25a (a : Addr) (w : World) : (ReflectliteValue.parts (.agg #[.pointer (some ⟨2, 53, none⟩), .pointer (some a), .int .u64 406])).run Tryd.prog w = .ok (some (53, a, 406)) w := by kernel_rfl
theorem fas_parts25 (a : Addr) (w : World) : (ReflectliteValue.parts (.agg #[.pointer (some ⟨2, 53, none⟩), .pointer (some a), .int .u64 150])).run Tryd.prog w = .ok (some (53, a, 150)) w := by kernel_rfl
theorem fas_direct25 (w : World) : (Rtype.directlyAssignable 53 53).run Tryd.prog w = .ok true w := by kernel_rfl
theorem fas_size25 (w : World) : (sizeOf 53).run Tryd.prog w = .ok 1 w := by kernel_rfl
theorem fas_set25 (ta b e : Addr) (old : Value) (W : World) (hb : W.cell? b = some (.pointer (some e))) (ht : W.cell? ta = some old) (hf : W.frozen? ta = false) :
    (ReflectliteValue.set #[.agg #[.pointer (some ⟨2, 53, none⟩), .pointer (some ta), .int .u64 406], .agg #[.pointer (some ⟨2, 53, none⟩), .pointer (some b), .int .u64 150]]).run Tryd.prog W
      = .ok (.tuple #[]) (W.setCell ta (.pointer (some e))) := by
  rw [rls]
  simp only [Sem.run_bind, fas_parts25a, fas_parts25, Result.andThen]
  simp [ReflectliteValue.flagAddr, loadVar, isAgg, underlying, Tryd.underlying53, hb, Result.andThen, fas_direct25, storeVar, Value.cells, storeCells, Addr.add]
  rw [run_store Tryd.prog W ta _ _ (by rfl)]
  simp [ht, hf]

set_option maxHeartbeats 4000000 in
theorem as_hit (e t : Addr) (old : Value) (w : World) (hg : w.cell? ⟨1, 0, none⟩ = some (.iface 108 (.agg #[.pointer (some ⟨2, 50, none⟩)]))) (ht0 : w.cell? t = some old) (hf0 : w.frozen? t = false) :
    Calls Tryd.prog 15 #[.iface 53 (.pointer (some e)), .iface 56 (.pointer (some t))] w fun ev w' => ev = .returned (.bool true) ∧ w' = ((((w.alloc (.cells #[.pointer (some t)] 56)).alloc (.cells #[.pointer (some ⟨2, 56, none⟩), .pointer (some ⟨w.heap.size, 0, none⟩), .int .u64 150] 85)).alloc (.cells #[.pointer (some ⟨2, 56, none⟩), .pointer (some ⟨w.heap.size, 0, none⟩), .int .u64 150] 85)).alloc (.cells #[.pointer (some e)] 53)).setCell t (.pointer (some e)) := by
  have h6 := @run_callFunc_extern Tryd.prog 30 _ (fun args => ReflectliteValue.unpack (args.getD 0 (.tuple #[]))) Tryd.func30 (by kernel_rfl) (by kernel_rfl) (by kernel_rfl) (by kernel_rfl)
  have h7 := @run_callFunc_extern Tryd.prog 31 _ (ReflectliteValue.methodAny (ReflectliteValue.valueError "reflectlite.Value.Type" 0) (fun t _ _ _ => ReflectliteType.toType t)) Tryd.func31 (by kernel_rfl) (by kernel_rfl) (by kernel_rfl) (by kernel_rfl)
  have h8 := @run_callFunc_extern Tryd.prog 32 _ (ReflectliteValue.method (ReflectliteValue.valueError "reflectlite.Value.IsNil" 0) ReflectliteValue.isNil) Tryd.func32 (by kernel_rfl) (by kernel_rfl) (by kernel_rfl) (by kernel_rfl)
  have h27 := @run_callFunc_extern Tryd.prog 100 _ (ReflectliteType.abiMethod fun t => do pure (.int .u8 (← Rtype.kind t))) Tryd.func100 (by kernel_rfl) (by kernel_rfl) (by kernel_rfl) (by kernel_rfl)
  have h37 := @run_callFunc_extern Tryd.prog 111 _ (ReflectliteType.method ReflectliteType.elem) Tryd.func111 (by kernel_rfl) (by kernel_rfl) (by kernel_rfl) (by kernel_rfl)
  have h38 := @run_callFunc_extern Tryd.prog 112 _ (ReflectliteType.relation "Implements" ReflectliteType.implements_) Tryd.func112 (by kernel_rfl) (by kernel_rfl) (by kernel_rfl) (by kernel_rfl)
  have h10 := @run_callFunc_extern Tryd.prog 28 _ ReflectliteType.typeOf Tryd.func28 (by kernel_rfl) (by kernel_rfl) (by kernel_rfl) (by kernel_rfl)
  have h35 := @run_callFunc_extern Tryd.prog 109 _ (ReflectliteType.relation "AssignableTo" ReflectliteType.assignableTo) Tryd.func109 (by kernel_rfl) (by kernel_rfl) (by kernel_rfl) (by kernel_rfl)
  have h11 := @run_callFunc_extern Tryd.prog 45 _ (ReflectliteValue.method (ReflectliteValue.valueError "reflectlite.Value.Elem" 0) ReflectliteValue.elem) Tryd.func45 (by kernel_rfl) (by kernel_rfl) (by kernel_rfl) (by kernel_rfl)
  have h12 := @run_callFunc_extern Tryd.prog 46 _ ReflectliteValue.set Tryd.func46 (by kernel_rfl) (by kernel_rfl) (by kernel_rfl) (by kernel_rfl)
  have tO := fas_typeOf25
  have mA := fas_methodAssignableTo
  have a25 := fas_assignable25
  have v25 := fas_valueOf25
  have f6 := fas_valueOf27
  have f7 := fas_type27
  have mK := fas_methodKind
  have mE := fas_methodElem
  have mI := fas_methodImplements
  have k27 := fas_kind27
  have k25 := fas_kind25
  have e27 := fas_elem27
  have i25 := fas_implements25
  have n8 := fas_isNil27 ⟨w.heap.size, 0, none⟩ t ((w.alloc (.cells #[.pointer (some t)] 56)).alloc (.cells #[.pointer (some ⟨2, 56, none⟩), .pointer (some ⟨w.heap.size, 0, none⟩), .int .u64 150] 85)) (by simp)
  have hlt : 1 < w.heap.size := World.block_lt_of_cell? w _ hg
  have hg2 : ((w.alloc (.cells #[.pointer (some t)] 56)).alloc (.cells #[.pointer (some ⟨2, 56, none⟩), .pointer (some ⟨w.heap.size, 0, none⟩), .int .u64 150] 85)).cell? ⟨1, 0, none⟩ = some (.iface 108 (.agg #[.pointer (some ⟨2, 50, none⟩)])) := by
    rw [World.cell?_alloc_lt _ _ ⟨1, 0, none⟩ (by simp; omega), World.cell?_alloc_lt _ _ ⟨1, 0, none⟩ hlt]; exact hg
  have htl : t.block < w.heap.size := by
    rcases Nat.lt_or_ge t.block w.heap.size with h | h
    · exact h
    · simp [World.cell?, Array.getElem?_eq_none h] at ht0
  have el := fas_elemV27 ⟨w.heap.size, 0, none⟩ t (((w.alloc (.cells #[.pointer (some t)] 56)).alloc (.cells #[.pointer (some ⟨2, 56, none⟩), .pointer (some ⟨w.heap.size, 0, none⟩), .int .u64 150] 85)).alloc (.cells #[.pointer (some ⟨2, 56, none⟩), .pointer (some ⟨w.heap.size, 0, none⟩), .int .u64 150] 85)) (by rw [World.cell?_alloc_lt _ _ ⟨w.heap.size, 0, none⟩ (by simp; omega)]; simp)
  have st := fas_set25 t ⟨w.heap.size + 1 + 1 + 1, 0, none⟩ e old ((((w.alloc (.cells #[.pointer (some t)] 56)).alloc (.cells #[.pointer (some ⟨2, 56, none⟩), .pointer (some ⟨w.heap.size, 0, none⟩), .int .u64 150] 85)).alloc (.cells #[.pointer (some ⟨2, 56, none⟩), .pointer (some ⟨w.heap.size, 0, none⟩), .int .u64 150] 85)).alloc (.cells #[.pointer (some e)] 53))
    (by rw [World.cell?_alloc_at _ _ _ _ (by simp)]; rfl)
    (by rw [World.cell?_alloc_lt _ _ t (by simp; omega), World.cell?_alloc_lt _ _ t (by simp; omega), World.cell?_alloc_lt _ _ t (by simp; omega), World.cell?_alloc_lt _ _ t htl]; exact ht0)
    (by rw [World.frozen?_alloc_old _ _ t (by simp; omega), World.frozen?_alloc_old _ _ t (by simp; omega), World.frozen?_alloc_old _ _ t (by simp; omega), World.frozen?_alloc_old _ _ t (Nat.ne_of_lt htl)]; exact hf0)
  go_enter Tryd.func15, Tryd.ntmps15
  go_wp2
  refine wp_loop_rounds 1 ?_
  rw [rounds_succ]
  go_wp2
  go_ret
  exact ⟨rfl, rfl⟩

theorem fis_isTypeOf (v : Value) (w : World) : (Extern.ReflectliteType.typeOf #[.iface 158 v]).run Tryd.prog w = .ok (.iface 108 (.agg #[.pointer (some ⟨2, 158, none⟩)])) w := by kernel_rfl
def compF : TypeId → Sem Value := fun t => do Rtype.noPackHeld "Comparable" t; pure (.bool (← typeInfo t).comparable)
theorem fis_isComparable (w : World) : (Extern.ReflectliteType.method compF #[.agg #[.pointer (some ⟨2, 158, none⟩)]]).run Tryd.prog w = .ok (.bool true) w := by kernel_rfl
theorem fis_isMethodComparable (v : Value) (w : World) : (Go.method 291 108 v "Comparable").run Tryd.prog w = .ok (110, v) w := by kernel_rfl
theorem fis_isComp : (Tryd.prog.info? 158).map (·.comparable) = some true := by kernel_rfl
theorem fis_isSize : (Tryd.prog.info? 179).map (·.size) = some 1 := by kernel_rfl

theorem fis_noIsE (v : Value) (xT : TypeId) (w : World) : (Instr.typeAssert (.iface 158 v) xT 110 true).run Tryd.prog w = .ok (.tuple #[.nilIface, .bool false]) w := run_typeAssert_lacksB Tryd.underlying110 (by kernel_rfl) (by kernel_rfl) v xT w
theorem fis_noUnwrapE (v : Value) (xT : TypeId) (w : World) : (Instr.typeAssert (.iface 158 v) xT 113 true).run Tryd.prog w = .ok (.tuple #[.nilIface, .bool false]) w := run_typeAssert_lacksB Tryd.underlying113 (by kernel_rfl) (by kernel_rfl) v xT w
theorem fis_noUnwrapsE (v : Value) (xT : TypeId) (w : World) : (Instr.typeAssert (.iface 158 v) xT 115 true).run Tryd.prog w = .ok (.tuple #[.nilIface, .bool false]) w := run_typeAssert_lacksB Tryd.underlying115 (by kernel_rfl) (by kernel_rfl) v xT w
theorem fis_noIsW (v : Value) (xT : TypeId) (w : World) : (Instr.typeAssert (.iface 53 v) xT 110 true).run Tryd.prog w = .ok (.tuple #[.nilIface, .bool false]) w := run_typeAssert_lacksB Tryd.underlying110 (by kernel_rfl) (by kernel_rfl) v xT w
theorem fis_hasUnwrapW (v : Value) (xT : TypeId) (w : World) : (Instr.typeAssert (.iface 53 v) xT 113 true).run Tryd.prog w = .ok (.tuple #[.iface 53 v, .bool true]) w := run_typeAssert_hasB Tryd.underlying113 (by kernel_rfl) v xT w
theorem fis_methodUnwrap (v : Value) (w : World) : (Go.method 291 53 v "Unwrap").run Tryd.prog w = .ok (104, v) w := by kernel_rfl

set_option maxHeartbeats 4000000 in
theorem is_nil (b : Addr) (w : World) :
    Calls Tryd.prog 14 #[.nilIface, .iface 158 (.pointer (some b))] w fun e w' => e = .returned (.bool false) ∧ w' = w := by
  have hn := run_eql_iface_nil_left (P := Tryd.prog) w 158 (.pointer (some b)) Tryd.underlying50
  go_enter Tryd.func14, Tryd.ntmps14
  go_wp2
  go_ret
  exact ⟨rfl, rfl⟩

set_option maxHeartbeats 4000000 in
theorem is_wrap_same (pb po : Nat) (b : Addr) (w : World) (h1 : w.cell? ⟨pb, po + 1, none⟩ = some (.iface 158 (.pointer (some b)))) :
    Calls Tryd.prog 14 #[.iface 53 (.pointer (some ⟨pb, po, none⟩)), .iface 158 (.pointer (some b))] w fun e w' => e = .returned (.bool true) ∧ w' = w := by
  obtain ⟨i, hi, hcmp⟩ := Option.map_eq_some_iff.1 fis_isComp
  obtain ⟨j, hj, hjs⟩ := Option.map_eq_some_iff.1 fis_isSize
  have h8 := @run_callFunc_extern Tryd.prog 28 _ Extern.ReflectliteType.typeOf Tryd.func28 (by kernel_rfl) (by kernel_rfl) (by kernel_rfl) (by kernel_rfl)
  have h32 := @run_callFunc_extern Tryd.prog 110 _ (Extern.ReflectliteType.method compF) Tryd.func110 (by kernel_rfl) (by kernel_rfl) (by kernel_rfl) (by kernel_rfl)
  have tT := fis_isTypeOf
  have cT := fis_isComparable
  have mR := fis_isMethodComparable
  have nE := fis_noIsE
  have uE := fis_noUnwrapE
  have vE := fis_noUnwrapsE
  have nW := fis_noIsW
  have uW := fis_hasUnwrapW
  have mU := fis_methodUnwrap
  have heq := run_eql_iface_ptr_same (P := Tryd.prog) w b Tryd.underlying50 Tryd.underlying158 hi hcmp hj
  have hty := run_eql_iface_types (P := Tryd.prog) 53 158 (.pointer (some ⟨pb, po, none⟩)) (.pointer (some b)) Tryd.underlying50 (by decide) w
  go_enter Tryd.func14, Tryd.ntmps14
  go_wp2
  refine wp_loop_rounds 2 ?_
  rw [rounds_succ]
  go_wp2
  rw [rounds_succ]
  go_wp2
  go_ret
  exact ⟨rfl, rfl⟩

end Go.Proofs.YtffjcojehiblnaaDoor
