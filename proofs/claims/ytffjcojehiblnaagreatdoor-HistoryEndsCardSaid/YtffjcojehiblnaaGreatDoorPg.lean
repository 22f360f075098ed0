/- Contracts of errors.As and errors.Is at this program's error (turned from the kit's worked ToyasAs and SentryIs). -/
import Derived.Test.YtffjcojehiblnaaGreatDoorPf
import Derived.LaidEql
import Derived.Stop.Asserts
import Derived.RowKitTokens
namespace Go.Proofs.YtffjcojehiblnaaGreatDoor
open Go.RowKit Go.Extern.Stop Go.Stop Go.Extern
set_option linter.unusedVariables false
set_option linter.unusedSimpArgs false
set_option maxRecDepth 100000

theorem fas_valueOf27 (t : Addr) (w : World) : (ReflectliteValue.unpack (.iface 71 (.pointer (some t)))).run Tryz.prog w
    = .ok (.agg #[.pointer (some ⟨2, 71, none⟩), .pointer (some ⟨w.heap.size, 0, none⟩), .int .u64 150]) (w.alloc (.cells #[.pointer (some t)] 71)) := by kernel_rfl
theorem fas_type27 (a : Addr) (w : World) : (ReflectliteValue.methodAny (ReflectliteValue.valueError "reflectlite.Value.Type" 0) (fun t _ _ _ => ReflectliteType.toType t) #[.agg #[.pointer (some ⟨2, 71, none⟩), .pointer (some a), .int .u64 150]]).run Tryz.prog w
    = .ok (.iface 129 (.agg #[.pointer (some ⟨2, 71, none⟩)])) w := by kernel_rfl
theorem fas_methodKind (h : Value) (w : World) : (Go.method 298 129 (.agg #[h]) "Kind").run Tryz.prog w = .ok (106, h) w := by kernel_rfl
theorem fas_kind27 (w : World) : ((ReflectliteType.abiMethod fun t => (fun a : Nat => Value.int IntKind.u8 (a : Int)) <$> Rtype.kind t) #[.pointer (some ⟨2, 71, none⟩)]).run Tryz.prog w = .ok (.int .u8 22) w := by kernel_rfl
theorem fas_kind25 (w : World) : ((ReflectliteType.abiMethod fun t => (fun a : Nat => Value.int IntKind.u8 (a : Int)) <$> Rtype.kind t) #[.pointer (some ⟨2, 68, none⟩)]).run Tryz.prog w = .ok (.int .u8 22) w := by kernel_rfl

theorem rlm (z : Sem Value) (f : TypeId → Addr → Nat → Nat → Sem Value) (v : Value) :
    ReflectliteValue.method z f #[v] = (do match ← ReflectliteValue.parts v with | none => z | some (t, a, fl) => f t a fl (fl % 32)) := rfl
theorem fas_parts27 (a : Addr) (w : World) : (ReflectliteValue.parts (.agg #[.pointer (some ⟨2, 71, none⟩), .pointer (some a), .int .u64 150])).run Tryz.prog w = .ok (some (71, a, 150)) w := by kernel_rfl
theorem fas_isNil27 (a p : Addr) (W : World) (ha : W.cell? a = some (.pointer (some p))) :
    (ReflectliteValue.method (ReflectliteValue.valueError "reflectlite.Value.IsNil" 0) ReflectliteValue.isNil #[.agg #[.pointer (some ⟨2, 71, none⟩), .pointer (some a), .int .u64 150]]).run Tryz.prog W = .ok (.bool false) W := by
  rw [rlm]
  simp only [Sem.run_bind, fas_parts27, Result.andThen]
  simp [ReflectliteValue.isNil, loadVar, isAgg, underlying, Tryz.underlying71, ha, Result.andThen]

theorem fas_methodElem (h : Value) (w : World) : (Go.method 298 129 (.agg #[h]) "Elem").run Tryz.prog w = .ok (117, .agg #[h]) w := by kernel_rfl
theorem fas_methodImplements (h : Value) (w : World) : (Go.method 298 129 (.agg #[h]) "Implements").run Tryz.prog w = .ok (118, .agg #[h]) w := by kernel_rfl
theorem fas_methodAssignableTo (h : Value) (w : World) : (Go.method 298 129 (.agg #[h]) "AssignableTo").run Tryz.prog w = .ok (115, .agg #[h]) w := by kernel_rfl
theorem fas_elem27 (w : World) : (ReflectliteType.method ReflectliteType.elem #[.agg #[.pointer (some ⟨2, 71, none⟩)]]).run Tryz.prog w = .ok (.iface 129 (.agg #[.pointer (some ⟨2, 68, none⟩)])) w := by kernel_rfl
theorem fas_implements25 (w : World) : (ReflectliteType.relation "Implements" ReflectliteType.implements_ #[.agg #[.pointer (some ⟨2, 68, none⟩)], .iface 129 (.agg #[.pointer (some ⟨2, 53, none⟩)])]).run Tryz.prog w = .ok (.bool true) w := by kernel_rfl
theorem fas_typeOf25 (v : Value) (w : World) : (ReflectliteType.typeOf #[.iface 68 v]).run Tryz.prog w = .ok (.iface 129 (.agg #[.pointer (some ⟨2, 68, none⟩)])) w := by kernel_rfl
theorem fas_assignable25 (w : World) : (ReflectliteType.relation "AssignableTo" ReflectliteType.assignableTo #[.agg #[.pointer (some ⟨2, 68, none⟩)], .iface 129 (.agg #[.pointer (some ⟨2, 68, none⟩)])]).run Tryz.prog w = .ok (.bool true) w := by kernel_rfl
theorem fas_valueOf25 (e : Addr) (w : World) : (ReflectliteValue.unpack (.iface 68 (.pointer (some e)))).run Tryz.prog w
    = .ok (.agg #[.pointer (some ⟨2, 68, none⟩), .pointer (some ⟨w.heap.size, 0, none⟩), .int .u64 150]) (w.alloc (.cells #[.pointer (some e)] 68)) := by kernel_rfl

theorem fas_elemOf27 (w : World) : (Rtype.elem? 71).run Tryz.prog w = .ok (some 68) w := by kernel_rfl
theorem fas_mk25 (p : Addr) (w : World) : (ReflectliteValue.mk 68 p ReflectliteValue.flagAddr).run Tryz.prog w = .ok (.agg #[.pointer (some ⟨2, 68, none⟩), .pointer (some p), .int .u64 406]) w := by kernel_rfl
theorem fas_elemV27 (a p : Addr) (W : World) (ha : W.cell? a = some (.pointer (some p))) :
    (ReflectliteValue.method (ReflectliteValue.valueError "reflectlite.Value.Elem" 0) ReflectliteValue.elem #[.agg #[.pointer (some ⟨2, 71, none⟩), .pointer (some a), .int .u64 150]]).run Tryz.prog W
      = .ok (.agg #[.pointer (some ⟨2, 68, none⟩), .pointer (some p), .int .u64 406]) W := by
  rw [rlm]
  simp only [Sem.run_bind, fas_parts27, Result.andThen]
  simp [ReflectliteValue.elem, loadVar, isAgg, underlying, Tryz.underlying71, ha, Result.andThen, fas_elemOf27, fas_mk25]
theorem rls (v x : Value) : ReflectliteValue.set #[v, x] = (do
    let (some (dst, a, fl), some (src, b, _)) := (← ReflectliteValue.parts v, ← ReflectliteValue.parts x)
      | unsupported (.noEntry "extern/(internal/reflectlite.Value).Set.zeroValue")
    if fl / ReflectliteValue.flagAddr % 2 == 0 then unsupported (.noEntry "extern/(internal/reflectlite.Value).Set.unaddressable")
    let val ← loadVar src b
    if ← Rtype.directlyAssignable dst src then storeVar dst a val
    else if ← Rtype.implements dst src then
      if (← Rtype.kind src) == 20 then
        match val with
        | .nilIface => unsupported (.noEntry "extern/reflectlite: a nil value of one interface type handed on as a value of another")
        | _ => storeVar dst a val
      else storeVar dst a (.iface src val)
    else panicString ("reflectlite.Set: value of type " ++ (← Rtype.spelt src) ++ " is not assignable to type " ++ (← Rtype.spelt dst))
    pure (.tuple #[])) := rfl
theorem fas_parts25a (a : Addr) (w : World) : (ReflectliteValue.parts (.agg #[.pointer (some ⟨2, 68, none⟩), .pointer (some a), .int .u64 406])).run Tryz.prog w = .ok (some (68, a, 406)) w := by kernel_rfl
theorem fas_parts25 (a : Addr) (w : World) : (ReflectliteValue.parts (.agg #[.pointer (some ⟨2, 68, none⟩), .pointer (some a), .int .u64 150])).run Tryz.prog w = .ok (some (68, a, 150)) w := by kernel_rfl
theorem fas_direct25 (w : World) : (Rtype.directlyAssignable 68 68).run Tryz.prog w = .ok true w := by kernel_rfl
theorem fas_size25 (w : World) : (sizeOf 68).run Tryz.prog w = .ok 1 w := by kernel_rfl
theorem fas_set25 (ta b e : Addr) (old : Value) (W : World) (hb : W.cell? b = some (.pointer (some e))) (ht : W.cell? ta = some old) (hf : W.frozen? ta = false) :
    (ReflectliteValue.set #[.agg #[.pointer (some ⟨2, 68, none⟩), .pointer (some ta), .int .u64 406], .agg #[.pointer (some ⟨2, 68, none⟩), .pointer (some b), .int .u64 150]]).run Tryz.prog W
      = .ok (.tuple #[]) (W.setCell ta (.pointer (some e))) := by
  rw [rls]
  simp only [Sem.run_bind, fas_parts25a, fas_parts25, Result.andThen]
  simp [ReflectliteValue.flagAddr, loadVar, isAgg, underlying, Tryz.underlying68, hb, Result.andThen, fas_direct25, storeVar, Value.cells, storeCells, Addr.add]
  rw [run_store Tryz.prog W ta _ _ (by rfl)]
  simp [ht, hf]

set_option maxHeartbeats 4000000 in
theorem as_hit (e t : Addr) (old : Value) (w : World) (hg : w.cell? ⟨1, 0, none⟩ = some (.iface 129 (.agg #[.pointer (some ⟨2, 53, none⟩)]))) (ht0 : w.cell? t = some old) (hf0 : w.frozen? t = false) :
    Calls Tryz.prog 26 #[.iface 68 (.pointer (some e)), .iface 71 (.pointer (some t))] w fun ev w' => ev = .returned (.bool true) ∧ w' = ((((w.alloc (.cells #[.pointer (some t)] 71)).alloc (.cells #[.pointer (some ⟨2, 71, none⟩), .pointer (some ⟨w.heap.size, 0, none⟩), .int .u64 150] 101)).alloc (.cells #[.pointer (some ⟨2, 71, none⟩), .pointer (some ⟨w.heap.size, 0, none⟩), .int .u64 150] 101)).alloc (.cells #[.pointer (some e)] 68)).setCell t (.pointer (some e)) := by
  have h6 := @run_callFunc_extern Tryz.prog 43 _ (fun args => ReflectliteValue.unpack (args.getD 0 (.tuple #[]))) Tryz.func43 (by kernel_rfl) (by kernel_rfl) (by kernel_rfl) (by kernel_rfl)
  have h7 := @run_callFunc_extern Tryz.prog 44 _ (ReflectliteValue.methodAny (ReflectliteValue.valueError "reflectlite.Value.Type" 0) (fun t _ _ _ => ReflectliteType.toType t)) Tryz.func44 (by kernel_rfl) (by kernel_rfl) (by kernel_rfl) (by kernel_rfl)
  have h8 := @run_callFunc_extern Tryz.prog 45 _ (ReflectliteValue.method (ReflectliteValue.valueError "reflectlite.Value.IsNil" 0) ReflectliteValue.isNil) Tryz.func45 (by kernel_rfl) (by kernel_rfl) (by kernel_rfl) (by kernel_rfl)
  have h27 := @run_callFunc_extern Tryz.prog 106 _ (ReflectliteType.abiMethod fun t => do pure (.int .u8 (← Rtype.kind t))) Tryz.func106 (by kernel_rfl) (by kernel_rfl) (by kernel_rfl) (by kernel_rfl)
  have h37 := @run_callFunc_extern Tryz.prog 117 _ (ReflectliteType.method ReflectliteType.elem) Tryz.func117 (by kernel_rfl) (by kernel_rfl) (by kernel_rfl) (by kernel_rfl)
  have h38 := @run_callFunc_extern Tryz.prog 118 _ (ReflectliteType.relation "Implements" ReflectliteType.implements_) Tryz.func118 (by kernel_rfl) (by kernel_rfl) (by kernel_rfl) (by kernel_rfl)
  have h10 := @run_callFunc_extern Tryz.prog 41 _ ReflectliteType.typeOf Tryz.func41 (by kernel_rfl) (by kernel_rfl) (by kernel_rfl) (by kernel_rfl)
  have h35 := @run_callFunc_extern Tryz.prog 115 _ (ReflectliteType.relation "AssignableTo" ReflectliteType.assignableTo) Tryz.func115 (by kernel_rfl) (by kernel_rfl) (by kernel_rfl) (by kernel_rfl)
  have h11 := @run_callFunc_extern Tryz.prog 64 _ (ReflectliteValue.method (ReflectliteValue.valueError "reflectlite.Value.Elem" 0) ReflectliteValue.elem) Tryz.func64 (by kernel_rfl) (by kernel_rfl) (by kernel_rfl) (by kernel_rfl)
  have h12 := @run_callFunc_extern Tryz.prog 65 _ ReflectliteValue.set Tryz.func65 (by kernel_rfl) (by kernel_rfl) (by kernel_rfl) (by kernel_rfl)
  have tO := fas_typeOf25
  have mA := fas_methodAssignableTo
  have a25 := fas_assignable25
  have v25 := fas_valueOf25
  have f6 := fas_valueOf27
  have f7 := fas_type27
  have mK := fas_methodKind
  have mE := fas_methodElem
  have mI := fas_methodImplements
  have k27 := fas_kind27
  have k25 := fas_kind25
  have e27 := fas_elem27
  have i25 := fas_implements25
  have n8 := fas_isNil27 ⟨w.heap.size, 0, none⟩ t ((w.alloc (.cells #[.pointer (some t)] 71)).alloc (.cells #[.pointer (some ⟨2, 71, none⟩), .pointer (some ⟨w.heap.size, 0, none⟩), .int .u64 150] 101)) (by simp)
  have hlt : 1 < w.heap.size := World.block_lt_of_cell? w _ hg
  have hg2 : ((w.alloc (.cells #[.pointer (some t)] 71)).alloc (.cells #[.pointer (some ⟨2, 71, none⟩), .pointer (some ⟨w.heap.size, 0, none⟩), .int .u64 150] 101)).cell? ⟨1, 0, none⟩ = some (.iface 129 (.agg #[.pointer (some ⟨2, 53, none⟩)])) := by
    rw [World.cell?_alloc_lt _ _ ⟨1, 0, none⟩ (by simp; omega), World.cell?_alloc_lt _ _ ⟨1, 0, none⟩ hlt]; exact hg
  have htl : t.block < w.heap.size := by
    rcases Nat.lt_or_ge t.block w.heap.size with h | h
    · exact h
    · simp [World.cell?, Array.getElem?_eq_none h] at ht0
  have el := fas_elemV27 ⟨w.heap.size, 0, none⟩ t (((w.alloc (.cells #[.pointer (some t)] 71)).alloc (.cells #[.pointer (some ⟨2, 71, none⟩), .pointer (some ⟨w.heap.size, 0, none⟩), .int .u64 150] 101)).alloc (.cells #[.pointer (some ⟨2, 71, none⟩), .pointer (some ⟨w.heap.size, 0, none⟩), .int .u64 150] 101)) (by rw [World.cell?_alloc_lt _ _ ⟨w.heap.size, 0, none⟩ (by simp; omega)]; simp)
  have st := fas_set25 t ⟨w.heap.size + 1 + 1 + 1, 0, none⟩ e old ((((w.alloc (.cells #[.pointer (some t)] 71)).alloc (.cells #[.pointer (some ⟨2, 71, none⟩), .pointer (some ⟨w.heap.size, 0, none⟩), .int .u64 150] 101)).alloc (.cells #[.pointer (some ⟨2, 71, none⟩), .pointer (some ⟨w.heap.size, 0, none⟩), .int .u64 150] 101)).alloc (.cells #[.pointer (some e)] 68))
    (by rw [World.cell?_alloc_at _ _ _ _ (by simp)]; rfl)
    (by rw [World.cell?_alloc_lt _ _ t (by simp; omega), World.cell?_alloc_lt _ _ t (by simp; omega), World.cell?_alloc_lt _ _ t (by simp; omega), World.cell?_alloc_lt _ _ t htl]; exact ht0)
    (by rw [World.frozen?_alloc_old _ _ t (by simp; omega), World.frozen?_alloc_old _ _ t (by simp; omega), World.frozen?_alloc_old _ _ t (by simp; omega), World.frozen?_alloc_old _ _ t (Nat.ne_of_lt htl)]; exact hf0)
  go_enter Tryz.func26, Tryz.ntmps26
  go_wp2
  refine wp_loop_rounds 1 ?_
  rw [rounds_succ]
  go_wp2
  go_ret
  exact ⟨rfl, rfl⟩

theorem fis_isTypeOf (v : Value) (w : World) : (Extern.ReflectliteType.typeOf #[.iface 165 v]).run Tryz.prog w = .ok (.iface 129 (.agg #[.pointer (some ⟨2, 165, none⟩)])) w := by kernel_rfl
def compF : TypeId → Sem Value := fun t => do Rtype.noPackHeld "Comparable" t; pure (.bool (← typeInfo t).comparable)
theorem fis_isComparable (w : World) : (Extern.ReflectliteType.method compF #[.agg #[.pointer (some ⟨2, 165, none⟩)]]).run Tryz.prog w = .ok (.bool true) w := by kernel_rfl
theorem fis_isMethodComparable (v : Value) (w : World) : (Go.method 298 129 v "Comparable").run Tryz.prog w = .ok (116, v) w := by kernel_rfl
theorem fis_isComp : (Tryz.prog.info? 165).map (·.comparable) = some true := by kernel_rfl
theorem fis_isSize : (Tryz.prog.info? 186).map (·.size) = some 1 := by kernel_rfl

theorem fis_noIsE (v : Value) (xT : TypeId) (w : World) : (Instr.typeAssert (.iface 165 v) xT 131 true).run Tryz.prog w = .ok (.tuple #[.nilIface, .bool false]) w := run_typeAssert_lacksB Tryz.underlying131 (by kernel_rfl) (by kernel_rfl) v xT w
theorem fis_noUnwrapE (v : Value) (xT : TypeId) (w : World) : (Instr.typeAssert (.iface 165 v) xT 134 true).run Tryz.prog w = .ok (.tuple #[.nilIface, .bool false]) w := run_typeAssert_lacksB Tryz.underlying134 (by kernel_rfl) (by kernel_rfl) v xT w
theorem fis_noUnwrapsE (v : Value) (xT : TypeId) (w : World) : (Instr.typeAssert (.iface 165 v) xT 136 true).run Tryz.prog w = .ok (.tuple #[.nilIface, .bool false]) w := run_typeAssert_lacksB Tryz.underlying136 (by kernel_rfl) (by kernel_rfl) v xT w
theorem fis_noIsW (v : Value) (xT : TypeId) (w : World) : (Instr.typeAssert (.iface 68 v) xT 131 true).run Tryz.prog w = .ok (.tuple #[.nilIface, .bool false]) w := run_typeAssert_lacksB Tryz.underlying131 (by kernel_rfl) (by kernel_rfl) v xT w
theorem fis_hasUnwrapW (v : Value) (xT : TypeId) (w : World) : (Instr.typeAssert (.iface 68 v) xT 134 true).run Tryz.prog w = .ok (.tuple #[.iface 68 v, .bool true]) w := run_typeAssert_hasB Tryz.underlying134 (by kernel_rfl) v xT w
theorem fis_methodUnwrap (v : Value) (w : World) : (Go.method 298 68 v "Unwrap").run Tryz.prog w = .ok (110, v) w := by kernel_rfl

set_option maxHeartbeats 4000000 in
theorem is_nil (b : Addr) (w : World) :
    Calls Tryz.prog 25 #[.nilIface, .iface 165 (.pointer (some b))] w fun e w' => e = .returned (.bool false) ∧ w' = w := by
  have hn := run_eql_iface_nil_left (P := Tryz.prog) w 165 (.pointer (some b)) Tryz.underlying53
  go_enter Tryz.func25, Tryz.ntmps25
  go_wp2
  go_ret
  exact ⟨rfl, rfl⟩

set_option maxHeartbeats 4000000 in
theorem is_wrap_same (pb po : Nat) (b : Addr) (w : World) (h1 : w.cell? ⟨pb, po + 1, none⟩ = some (.iface 165 (.pointer (some b)))) :
    Calls Tryz.prog 25 #[.iface 68 (.pointer (some ⟨pb, po, none⟩)), .iface 165 (.pointer (some b))] w fun e w' => e = .returned (.bool true) ∧ w' = w := by
  obtain ⟨i, hi, hcmp⟩ := Option.map_eq_some_iff.1 fis_isComp
  obtain ⟨j, hj, hjs⟩ := Option.map_eq_some_iff.1 fis_isSize
  have h8 := @run_callFunc_extern Tryz.prog 41 _ Extern.ReflectliteType.typeOf Tryz.func41 (by kernel_rfl) (by kernel_rfl) (by kernel_rfl) (by kernel_rfl)
  have h32 := @run_callFunc_extern Tryz.prog 116 _ (Extern.ReflectliteType.method compF) Tryz.func116 (by kernel_rfl) (by kernel_rfl) (by kernel_rfl) (by kernel_rfl)
  have tT := fis_isTypeOf
  have cT := fis_isComparable
  have mR := fis_isMethodComparable
  have nE := fis_noIsE
  have uE := fis_noUnwrapE
  have vE := fis_noUnwrapsE
  have nW := fis_noIsW
  have uW := fis_hasUnwrapW
  have mU := fis_methodUnwrap
  have heq := run_eql_iface_ptr_same (P := Tryz.prog) w b Tryz.underlying53 Tryz.underlying165 hi hcmp hj
  have hty := run_eql_iface_types (P := Tryz.prog) 68 165 (.pointer (some ⟨pb, po, none⟩)) (.pointer (some b)) Tryz.underlying53 (by decide) w
  go_enter Tryz.func25, Tryz.ntmps25
  go_wp2
  refine wp_loop_rounds 2 ?_
  rw [rounds_succ]
  go_wp2
  rw [rounds_succ]
  go_wp2
  go_ret
  exact ⟨rfl, rfl⟩

end Go.Proofs.YtffjcojehiblnaaGreatDoor

/- The walk of history.Txs. -/
namespace Go.Proofs.YtffjcojehiblnaaGreatDoor
open Go.RowKit Go.Joins Go.ChangeShapes Go.WideShapes Go.Deep
set_option linter.unusedVariables false
set_option linter.unusedSimpArgs false
set_option maxRecDepth 100000

def TxZ.cells (z : TxZ) : List Value := [.int .i64 z.thread, .int .i64 z.begun, .int .i64 z.ended, .int .i64 z.stamp, .int .i64 z.seen, .int .i64 z.err]
def txzs (l : List TxZ) : List Value := rows TxZ.cells l
theorem info_txz : (Tryz.prog.info? 50).map (fun i => (i.zero, i.size, i.bytes)) = some (some (.agg #[.int .i64 0, .int .i64 0, .int .i64 0, .int .i64 0, .int .i64 0, .int .i64 0]), 6, 48) := by kernel_rfl
theorem txz_fill (z : TxZ) : Instr.fill (fun i => some (i * 6, 6)) ((Array.range (1 * 6)).map ((Value.agg #[.int .i64 0, .int .i64 0, .int .i64 0, .int .i64 0, .int .i64 0, .int .i64 0]).cells[· % (Value.agg #[.int .i64 0, .int .i64 0, .int .i64 0, .int .i64 0, .int .i64 0, .int .i64 0]).cells.size]!)) [(0, .agg z.cells.toArray)] = some z.cells.toArray := by kernel_rfl
theorem wpList_build_txz {Q : Exit → Act → World → Prop} {ops : Array Oper} {rest : List Oper} {o : Oper} {a : Act} {w : World} (z : TxZ) (hg : o.guard = none) (x : Operand) (ho : o.op = .buildSlice 44 1 #[(0, x)]) (hx : a.eval x = .agg z.cells.toArray)
    (h : wpList Tryz.prog ops Q rest (a.put o.dst (.slice (some ⟨w.heap.size, 0, none⟩) 1 1)) (w.alloc (.cells z.cells.toArray 50))) : wpList Tryz.prog ops Q (o :: rest) a w := by
  obtain ⟨i0, hi0, hz0, hz1, hz2⟩ := info_parts info_txz
  refine wpList_buildSlice hg 44 50 1 #[(0, x)] ho z.cells.toArray i0 _ Tryz.underlying44 hi0 hz0 (by rw [hz1]; decide) (by rw [hz1]; decide) ?_ h
  simp only [List.map_toArray, List.map_cons, List.map_nil, hx, hz1]
  exact txz_fill z
theorem tx_range {w : World} {base : Nat} {x : TxM} (h : TxAt w base x) : w.rangeAt x.g 0 x.t.z.cells := fun j v hv => by
  rw [Nat.zero_add, h.blk.cell j]
  have hj : j < 6 := (List.getElem?_eq_some_iff.1 hv).1
  have : x.cells[j]? = (TxM.cells x).toList[j]? := by simp
  match j, hj with
  | 0, _ => exact hv
  | 1, _ => exact hv
  | 2, _ => exact hv
  | 3, _ => exact hv
  | 4, _ => exact hv
  | 5, _ => exact hv
def errT : Value := .iface 129 (.agg #[.pointer (some ⟨2, 53, none⟩)])
/-- What stands in the variables that the program reads. -/
structure LaidAt (w : World) (p : Addr) : Prop where
  ev : w.cell? ⟨0, 0, none⟩ = some (.iface 165 (.pointer (some p)))
  et : w.cell? ⟨1, 0, none⟩ = some errT
theorem LaidAt.lt {w : World} {p : Addr} (h : LaidAt w p) : 1 < w.heap.size := World.block_lt_of_cell? w _ h.et
theorem LaidAt.below {w w' : World} {p : Addr} {B : Nat} (h : LaidAt w p) (hb : Below B w w') (hB : 2 ≤ B) : LaidAt w' p :=
  ⟨(hb.cell (p := ⟨0, 0, none⟩) (by show 0 < B; omega)).trans h.ev, (hb.cell (p := ⟨1, 0, none⟩) (by show 1 < B; omega)).trans h.et⟩
def TxsPost (w : World) (l : List Ev) : Ending → World → Prop := fun r w' => match readF book0 0 l with
  | .error k => r = .returned (.tuple #[.slice none 0 0, .int .i64 14, .int .i64 k]) ∧ Below w.heap.size w w'
  | .ok b => ∃ ov, r = .returned (.tuple #[ov, .int .i64 0, .int .i64 0]) ∧ w'.ownsRow w.heap.size 50 6 ov b.l.length (txzs (b.l.map TxP.z)) ∧ Below w.heap.size w w'
set_option maxHeartbeats 400000 in
theorem txs_bad (A : Option Addr) (n nc : Nat) (l : List Ev) (p : Addr) (k : Nat) (w : World) (hl : l.length = n) (hn : n * 152 ≤ 140737488351232) (hR : Reads w w.heap.size 19 A n (evs l)) (hE : LaidAt w p) (hrd : readF book0 0 l = .error k) :
    Calls Tryz.prog 12 #[.slice A n nc] w fun r w' => r = .returned (.tuple #[.slice none 0 0, .int .i64 14, .int .i64 k]) ∧ Below w.heap.size w w' := by
  have HRD := Lib.hid ((read_any A n nc l p w hl hn hR hE.ev (by have := hE.lt; omega)))
  have hw := hE.lt
  have HE := Lib.hid hE
  clear hR hE hn hl
  go_enter Tryz.func12, Tryz.ntmps12
  go_wp2_with (first
    | (go_at_call 15; refine HRD.out.mono ?_; rintro r w1 hq; unfold ReadPost at hq; rw [hrd] at hq; obtain ⟨f, hq, hBf, hbf, hb1⟩ := hq; subst hq; (have HE1 := HE.out.below hb1 (by omega)); (have e0 : ∀ o, (w1.alloc o).cell? ⟨0, 0, none⟩ = some (.iface 165 (.pointer (some p))) := fun o => (World.cell?_alloc_lt _ _ ⟨0, 0, none⟩ (World.block_lt_of_cell? _ _ HE1.ev)).trans HE1.ev); (have f1 : ∀ o, (w1.alloc o).cell? ⟨f, 0 + 1, none⟩ = some (.iface 165 (.pointer (some p))) := fun o => ((hBf.alloc o).cell 1).trans rfl); (have ew : ∀ o, (w1.alloc o).cell? ⟨1, 0, none⟩ = some errT := fun o => (World.cell?_alloc_lt _ _ ⟨1, 0, none⟩ (World.block_lt_of_cell? _ _ HE1.et)).trans HE1.et))
    | (go_at_call 25; refine (is_wrap_same f 0 p _ (f1 _)).mono ?_; rintro r w2 ⟨hq, hw2⟩; subst hq; subst hw2)
    | (go_at_call 26; refine (as_hit ⟨f, 0, none⟩ ⟨w1.heap.size, 0, none⟩ (.pointer none) _ (ew _) (by simp) (by simp)).mono ?_; rintro r w2 ⟨hq, hw2⟩; subst hq; (have hfl := hBf.lt); (have hBt : Blk w2 w1.heap.size 68 #[.pointer (some ⟨f, 0, none⟩)] := by rw [hw2]; exact (((((Blk.new w1 68 #[.pointer none]).alloc _).alloc _).alloc _).alloc _).set_ 0 (.pointer (some ⟨f, 0, none⟩))); (have hB2 : Blk w2 f 73 #[.int .i64 k, evErr p] := by rw [hw2]; exact (((((hBf.alloc _).alloc _).alloc _).alloc _).alloc _).far (p := ⟨w1.heap.size, 0, none⟩) (Nat.ne_of_lt hfl) _); (have hbw := hb1.size); (have hb2 : Below w.heap.size w1 w2 := by rw [hw2]; repeat (first | with_reducible exact Below.refl _ _ | with_reducible refine Below.drew ?_ | with_reducible refine below_drewN ?_ _ | ((with_reducible refine Below.alloc ?_ ?_ _); (rotate_left; focus (first | with_reducible exact Nat.le_refl _ | omega | (simp; done) | (simp; omega) | (simp [World.setCell]; done) | (simp [World.setCell]; omega)))) | ((with_reducible refine Below.setCell ?_ ?_ _); (rotate_left; focus (first | with_reducible exact Nat.le_refl _ | omega | (simp; done) | (simp; omega) | (simp [World.setCell]; done) | (simp [World.setCell]; omega)))))); (have t0 : w2.cell? ⟨w1.heap.size, 0, none⟩ = some (.pointer (some ⟨f, 0, none⟩)) := (hBt.cell 0).trans rfl); (have t1 : w2.cell? ⟨f, 0, none⟩ = some (.int .i64 k) := (hB2.cell 0).trans rfl); clear hw2 hBt hB2 f1 e0 ew hBf))
  have HB := Lib.hid (hb1.trans hb2)
  clear hb1 hb2
  go_region
  all_goals go_wp2_with fail
  all_goals go_ret3
  all_goals exact ⟨rfl, by first | exact HB.out | exact below_drewN HB.out _ | exact Below.drew HB.out⟩
theorem own_base {w : World} {B B' n size : Nat} {e : TypeId} {v : Value} {xs : List Value} (h : w.ownsRow B e size v n xs) (hB : B' ≤ B) : w.ownsRow B' e size v n xs := by
  refine ⟨h.1, ?_⟩
  rcases h.2 with h0 | ⟨g, cap, cur, h1, h2, h3⟩
  · exact .inl h0
  · exact .inr ⟨g, cap, cur, h1, by omega, h3⟩
theorem below_grown {B n size : Nat} {e : TypeId} {v : Value} {xs : List Value} {W w2 : World} (h : W.ownsRow B e size v n xs) (hg : W.grownBy w2 v.ownBlock) (hB : B ≤ W.heap.size) : Below B W w2 :=
  ((Frm.refl W (fun q => v.ownBlock = some q)).grown hg (fun q h => .inl h)).below hB fun q hq => (h.lt q hq).1
theorem txz_len (z : TxZ) : z.cells.length = 6 := rfl
theorem txzs_snoc (l : List TxZ) (z : TxZ) : txzs (l ++ [z]) = txzs l ++ z.cells := rows_snoc TxZ.cells l z
theorem txz_one (z : TxZ) : ∀ u ∈ z.cells, u.oneCell' = true := by simp [TxZ.cells, Value.oneCell']
theorem news_txz (W : World) (z : TxZ) : ∀ j u, z.cells[j]? = some u → (W.alloc (.cells z.cells.toArray 50)).cell? ((⟨W.heap.size, 0, none⟩ : Addr).add j) = some u := by
  have := World.news_of_block (cs := z.cells.toArray) (t := 50) (fr := (0, 0)) (heap_alloc_new W (.cells z.cells.toArray 50))
  simpa using this
set_option maxHeartbeats 400000 in
theorem txs_good (A : Option Addr) (n nc : Nat) (l : List Ev) (p : Addr) (b : Book) (w : World) (hl : l.length = n) (hn : n * 152 ≤ 140737488351232) (hR : Reads w w.heap.size 19 A n (evs l)) (hE : LaidAt w p) (hrd : readF book0 0 l = .ok b) (hbl : b.l.length ≤ n) :
    Calls Tryz.prog 12 #[.slice A n nc] w fun r w' => ∃ ov, r = .returned (.tuple #[ov, .int .i64 0, .int .i64 0]) ∧ w'.ownsRow w.heap.size 50 6 ov b.l.length (txzs (b.l.map TxP.z)) ∧ Below w.heap.size w w' := by
  have HRD := Lib.hid ((read_any A n nc l p w hl hn hR hE.ev (by have := hE.lt; omega)))
  have hw := hE.lt
  have HE := Lib.hid hE
  obtain ⟨i0, hi0, hz0, hz1, hz2⟩ := info_parts info_txz
  obtain ⟨m, hm⟩ : ∃ m, m = b.l.length := ⟨_, rfl⟩
  have hm8 : m ≤ 925904528640 := by omega
  have HM := Lib.hid hm
  clear hR hE hn hl hbl
  go_enter Tryz.func12, Tryz.ntmps12
  go_wp2_with (first
    | (go_at_call 15; refine HRD.out.mono ?_; rintro r w1 hq; unfold ReadPost at hq; rw [hrd] at hq; obtain ⟨lv, s, ll, hq, hBk, hb1⟩ := hq; subst hq; (have HE1 := HE.out.below hb1 (by omega)); (have e0 : ∀ o, (w1.alloc o).cell? ⟨0, 0, none⟩ = some (.iface 165 (.pointer (some p))) := fun o => (World.cell?_alloc_lt _ _ ⟨0, 0, none⟩ (World.block_lt_of_cell? _ _ HE1.ev)).trans HE1.ev); obtain ⟨R, c, hlv, hmc, hRd⟩ := own_shapes hBk.row; (have hll : ll.length = m := by rw [HM.out]; exact hBk.len.symm); rw [hll] at hlv hmc hRd; subst hlv)
    | (go_at_call 25; refine (is_nil p _).mono ?_; rintro r w2 ⟨hq, hw2⟩; subst hq; subst hw2))
  have HB := Lib.hid hb1
  have HK := Lib.hid hBk
  have HRR := Lib.hid hRd
  have HLL := Lib.hid hll
  clear hb1 hBk HE1 e0 hRd hll
  go_loopg [8, 30] m (fun gk ov i wr => ∃ k : Nat, i = .int .i64 k ∧ k ≤ m ∧ gk = m - k ∧ wr.ownsRow w1.heap.size 50 6 ov k (txzs ((b.l.take k).map TxP.z)) ∧ Below w1.heap.size w1 wr)
  case atStart => exact ⟨0, rfl, Nat.zero_le _, rfl, World.ownsRow_nil _ _ _ _, Below.alloc (Below.refl _ _) (Nat.le_refl _) _⟩
  case round =>
    obtain ⟨k, rfl, hk, hgk, hown, hbel⟩ := hrel
    have HG := Lib.hid hgk
    have HBE := Lib.hid hbel
    have HO := Lib.hid hown
    clear hgk hbel hown
    by_cases hkm : k < m
    · have hkl : k < ll.length := by rw [HLL.out]; exact hkm
      obtain ⟨rb, ro, rfl, hrb, hcc⟩ := reads_flat HRR.out (by omega) (by decide)
      obtain ⟨x, hx⟩ : ∃ x, x = ll[k] := ⟨_, rfl⟩
      have hT : TxAt w1 w.heap.size x := hx ▸ HK.out.txs _ (List.getElem_mem hkl)
      have q0 : wr.cell? ⟨rb, ro + k, none⟩ = some (.pointer (some ⟨x.g, 0, none⟩)) := (HBE.out.cell (p := ⟨rb, ro + k, none⟩) hrb).trans (hcc k _ (by rw [List.getElem?_map, List.getElem?_eq_getElem hkl, hx]; rfl))
      have hgl : x.g < w1.heap.size := hT.blk.lt
      have hrg : wr.rangeAt x.g 0 x.t.z.cells := fun j v hv => (HBE.out.cell (p := ⟨x.g, 0 + j, none⟩) hgl).trans (tx_range hT j v hv)
      have hxt : x.t = b.l[k]'(by rw [← HM.out]; exact hkm) := by
        have h1 := HK.out.nth (n := k) (by rw [← HM.out]; exact hkm)
        rw [List.getElem?_eq_getElem hkl, ← hx] at h1
        exact Option.some.inj h1
      have hk8 : k + 1 ≤ 9223372036854775807 := by omega
      have HX := Lib.hid hxt
      have hws := HBE.out.size
      clear hcc hT hx hxt
      go_wp2_with (first
        | (refine wpList_load_mid rfl 50 (.tmp 37) rfl x.g 0 rfl x.t.z.cells _ hrg Tryz.underlying50 rfl (by kernel_rfl) ?_)
        | (refine wpList_build_txz x.t.z rfl (.tmp 38) rfl rfl ?_)
        | (at_builtin; go_must (refine wpList_append_lies _ rfl (.tmp 34) (.tmp 39) 44 rfl w1.heap.size 50 i0 _ 6 48 Tryz.underlying44 hi0 hz0 hz1 hz2 rfl (by decide) _ k _ rfl (HO.out.alloc _) ⟨wr.heap.size, 0, none⟩ 1 1 x.t.z.cells rfl rfl (news_txz wr x.t.z) (txz_one _) (by omega) (by unfold maxLen; omega) (by omega) (by simp; omega) (wr.heap.size + 1) (by simp) ?_; intro gg cap w2 hown2 hgrow hat hlt2)))
      have hgr : Below w1.heap.size w1 w2 := (Below.alloc HBE.out hws _).trans (below_grown (HO.out.alloc _) hgrow (by simp; omega))
      have hrow : txzs ((b.l.take (k + 1)).map TxP.z) = txzs ((b.l.take k).map TxP.z) ++ x.t.z.cells := by
        rw [List.take_succ_eq_append_getElem (by rw [← HM.out]; exact hkm), List.map_append, List.map_cons, List.map_nil, txzs_snoc, HX.out]
      rw [← hrow] at hown2
      clear hgrow hat
      go_wp2_with fail
      go_roundg (m - (k + 1))
      case measure => have := HG.out; omega
      case rel => exact ⟨k + 1, by go_num, by omega, rfl, hown2, hgr⟩
    · have hkk : k = m := by omega
      subst hkk
      go_wp2_with fail
      go_ret3
      refine ⟨_, rfl, ?_, HB.out.trans (HBE.out.mono HB.out.size)⟩
      have := own_base HO.out HB.out.size
      rw [List.take_of_length_le (by rw [HM.out]; exact Nat.le_refl _)] at this
      rw [← HM.out]
      exact this
end Go.Proofs.YtffjcojehiblnaaGreatDoor
