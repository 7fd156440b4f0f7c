/-
  errors.As at a wrapped error (after the worked example ToyasAs). Helper lemmas; no statement of the seat is proved here.
-/
import Derived.Test.YtghhachbnhldoaaDoorT18
import Derived.LaidEql
import Derived.Stop.Asserts
import Derived.RowKitTokens
namespace Go.Proofs.YtghhachbnhldoaaDoor
open Go.RowKit Go.Extern.Stop Go.Stop Go.Extern
set_option maxRecDepth 100000
set_option linter.unusedVariables false
set_option linter.unusedSimpArgs false

theorem rl_valueOf27 (t : Addr) (w : World) : (ReflectliteValue.unpack (.iface 87 (.pointer (some t)))).run Tryd.prog w
    = .ok (.agg #[.pointer (some ⟨1, 87, none⟩), .pointer (some ⟨w.heap.size, 0, none⟩), .int .u64 150]) (w.alloc (.cells #[.pointer (some t)] 87)) := by kernel_rfl
theorem rl_type27 (a : Addr) (w : World) : (ReflectliteValue.methodAny (ReflectliteValue.valueError "reflectlite.Value.Type" 0) (fun t _ _ _ => ReflectliteType.toType t) #[.agg #[.pointer (some ⟨1, 87, none⟩), .pointer (some a), .int .u64 150]]).run Tryd.prog w
    = .ok (.iface 146 (.agg #[.pointer (some ⟨1, 87, none⟩)])) w := by kernel_rfl
theorem rl_methodKind (h : Value) (w : World) : (Go.method 287 146 (.agg #[h]) "Kind").run Tryd.prog w = .ok (94, h) w := by kernel_rfl
theorem rl_kind27 (w : World) : ((ReflectliteType.abiMethod fun t => (fun a : Nat => Value.int IntKind.u8 (a : Int)) <$> Rtype.kind t) #[.pointer (some ⟨1, 87, none⟩)]).run Tryd.prog w = .ok (.int .u8 22) w := by kernel_rfl
theorem rl_kind25 (w : World) : ((ReflectliteType.abiMethod fun t => (fun a : Nat => Value.int IntKind.u8 (a : Int)) <$> Rtype.kind t) #[.pointer (some ⟨1, 85, none⟩)]).run Tryd.prog w = .ok (.int .u8 22) w := by kernel_rfl

theorem rlm (z : Sem Value) (f : TypeId → Addr → Nat → Nat → Sem Value) (v : Value) :
    ReflectliteValue.method z f #[v] = (do match ← ReflectliteValue.parts v with | none => z | some (t, a, fl) => f t a fl (fl % 32)) := rfl
theorem rl_parts27 (a : Addr) (w : World) : (ReflectliteValue.parts (.agg #[.pointer (some ⟨1, 87, none⟩), .pointer (some a), .int .u64 150])).run Tryd.prog w = .ok (some (87, a, 150)) w := by kernel_rfl
/-- (Value).IsNil at the Value of a **p.E that is not nil. -/
theorem rl_isNil27 (a p : Addr) (W : World) (ha : W.cell? a = some (.pointer (some p))) :
    (ReflectliteValue.method (ReflectliteValue.valueError "reflectlite.Value.IsNil" 0) ReflectliteValue.isNil #[.agg #[.pointer (some ⟨1, 87, none⟩), .pointer (some a), .int .u64 150]]).run Tryd.prog W = .ok (.bool false) W := by
  rw [rlm]
  simp only [Sem.run_bind, rl_parts27, Result.andThen]
  simp [ReflectliteValue.isNil, loadVar, isAgg, underlying, Tryd.underlying87, ha, Result.andThen]

theorem rl_methodElem (h : Value) (w : World) : (Go.method 287 146 (.agg #[h]) "Elem").run Tryd.prog w = .ok (106, .agg #[h]) w := by kernel_rfl
theorem rl_methodImplements (h : Value) (w : World) : (Go.method 287 146 (.agg #[h]) "Implements").run Tryd.prog w = .ok (107, .agg #[h]) w := by kernel_rfl
theorem rl_methodAssignableTo (h : Value) (w : World) : (Go.method 287 146 (.agg #[h]) "AssignableTo").run Tryd.prog w = .ok (104, .agg #[h]) w := by kernel_rfl
theorem rl_elem27 (w : World) : (ReflectliteType.method ReflectliteType.elem #[.agg #[.pointer (some ⟨1, 87, none⟩)]]).run Tryd.prog w = .ok (.iface 146 (.agg #[.pointer (some ⟨1, 85, none⟩)])) w := by kernel_rfl
theorem rl_implements25 (w : World) : (ReflectliteType.relation "Implements" ReflectliteType.implements_ #[.agg #[.pointer (some ⟨1, 85, none⟩)], .iface 146 (.agg #[.pointer (some ⟨1, 28, none⟩)])]).run Tryd.prog w = .ok (.bool true) w := by kernel_rfl
theorem rl_typeOf25 (v : Value) (w : World) : (ReflectliteType.typeOf #[.iface 85 v]).run Tryd.prog w = .ok (.iface 146 (.agg #[.pointer (some ⟨1, 85, none⟩)])) w := by kernel_rfl
theorem rl_assignable25 (w : World) : (ReflectliteType.relation "AssignableTo" ReflectliteType.assignableTo #[.agg #[.pointer (some ⟨1, 85, none⟩)], .iface 146 (.agg #[.pointer (some ⟨1, 85, none⟩)])]).run Tryd.prog w = .ok (.bool true) w := by kernel_rfl
theorem rl_valueOf25 (e : Addr) (w : World) : (ReflectliteValue.unpack (.iface 85 (.pointer (some e)))).run Tryd.prog w
    = .ok (.agg #[.pointer (some ⟨1, 85, none⟩), .pointer (some ⟨w.heap.size, 0, none⟩), .int .u64 150]) (w.alloc (.cells #[.pointer (some e)] 85)) := by kernel_rfl

theorem rl_elemOf27 (w : World) : (Rtype.elem? 87).run Tryd.prog w = .ok (some 85) w := by kernel_rfl
theorem rl_mk25 (p : Addr) (w : World) : (ReflectliteValue.mk 85 p ReflectliteValue.flagAddr).run Tryd.prog w = .ok (.agg #[.pointer (some ⟨1, 85, none⟩), .pointer (some p), .int .u64 406]) w := by kernel_rfl
/-- (Value).Elem at the Value of a **p.E that is not nil: the Value of the *p.E variable that it points to, addressable. -/
theorem rl_elemV27 (a p : Addr) (W : World) (ha : W.cell? a = some (.pointer (some p))) :
    (ReflectliteValue.method (ReflectliteValue.valueError "reflectlite.Value.Elem" 0) ReflectliteValue.elem #[.agg #[.pointer (some ⟨1, 87, none⟩), .pointer (some a), .int .u64 150]]).run Tryd.prog W
      = .ok (.agg #[.pointer (some ⟨1, 85, none⟩), .pointer (some p), .int .u64 406]) W := by
  rw [rlm]
  simp only [Sem.run_bind, rl_parts27, Result.andThen]
  simp [ReflectliteValue.elem, loadVar, isAgg, underlying, Tryd.underlying87, ha, Result.andThen, rl_elemOf27, rl_mk25]
theorem rls (v x : Value) : ReflectliteValue.set #[v, x] = (do
    let (some (dst, a, fl), some (src, b, _)) := (← ReflectliteValue.parts v, ← ReflectliteValue.parts x)
      | unsupported (.noEntry "extern/(internal/reflectlite.Value).Set.zeroValue")
    if fl / ReflectliteValue.flagAddr % 2 == 0 then unsupported (.noEntry "extern/(internal/reflectlite.Value).Set.unaddressable")
    let val ← loadVar src b
    if ← Rtype.directlyAssignable dst src then storeVar dst a val
    else if ← Rtype.implements dst src then
      if (← Rtype.kind src) == 20 then
        match val with
        | .nilIface => unsupported (.noEntry "extern/reflectlite: a nil value of one interface type handed on as a value of another")
        | _ => storeVar dst a val
      else storeVar dst a (.iface src val)
    else panicString ("reflectlite.Set: value of type " ++ (← Rtype.spelt src) ++ " is not assignable to type " ++ (← Rtype.spelt dst))
    pure (.tuple #[])) := rfl
theorem rl_parts25a (a : Addr) (w : World) : (ReflectliteValue.parts (.agg #[.pointer (some ⟨1, 85, none⟩), .pointer (some a), .int .u64 406])).run Tryd.prog w = .ok (some (85, a, 406)) w := by kernel_rfl
theorem rl_parts25 (a : Addr) (w : World) : (ReflectliteValue.parts (.agg #[.pointer (some ⟨1, 85, none⟩), .pointer (some a), .int .u64 150])).run Tryd.prog w = .ok (some (85, a, 150)) w := by kernel_rfl
theorem rl_direct25 (w : World) : (Rtype.directlyAssignable 85 85).run Tryd.prog w = .ok true w := by kernel_rfl
theorem rl_size25 (w : World) : (sizeOf 85).run Tryd.prog w = .ok 1 w := by kernel_rfl
/-- (Value).Set: the *p.E variable at 'ta' gets what the Value's own variable 'b' holds. -/
theorem rl_set25 (ta b e : Addr) (old : Value) (W : World) (hb : W.cell? b = some (.pointer (some e))) (ht : W.cell? ta = some old) (hf : W.frozen? ta = false) :
    (ReflectliteValue.set #[.agg #[.pointer (some ⟨1, 85, none⟩), .pointer (some ta), .int .u64 406], .agg #[.pointer (some ⟨1, 85, none⟩), .pointer (some b), .int .u64 150]]).run Tryd.prog W
      = .ok (.tuple #[]) (W.setCell ta (.pointer (some e))) := by
  rw [rls]
  simp only [Sem.run_bind, rl_parts25a, rl_parts25, Result.andThen]
  simp [ReflectliteValue.flagAddr, loadVar, isAgg, underlying, Tryd.underlying85, hb, Result.andThen, rl_direct25, storeVar, Value.cells, storeCells, Addr.add]
  rw [run_store Tryd.prog W ta _ _ (by rfl)]
  simp [ht, hf]

theorem rl_typeOf91 (v : Value) (w : World) : (ReflectliteType.typeOf #[.iface 142 v]).run Tryd.prog w = .ok (.iface 146 (.agg #[.pointer (some ⟨1, 142, none⟩)])) w := by kernel_rfl
theorem rl_assignable91 (w : World) : (ReflectliteType.relation "AssignableTo" ReflectliteType.assignableTo #[.agg #[.pointer (some ⟨1, 142, none⟩)], .iface 146 (.agg #[.pointer (some ⟨1, 85, none⟩)])]).run Tryd.prog w = .ok (.bool false) w := by kernel_rfl
theorem rl_ta1 (a : Addr) (w : World) : (Instr.typeAssert (.iface 142 (.pointer (some a))) 28 151 true).run Tryd.prog w = .ok (.tuple #[.nilIface, .bool false]) w := run_typeAssert_lacksB Tryd.underlying151 (by kernel_rfl) (by kernel_rfl) _ _ w
theorem rl_ta2 (a : Addr) (w : World) : (Instr.typeAssert (.iface 142 (.pointer (some a))) 28 154 true).run Tryd.prog w = .ok (.tuple #[.iface 142 (.pointer (some a)), .bool true]) w := run_typeAssert_hasB Tryd.underlying154 (by kernel_rfl) _ _ w
theorem rl_mU (a : Addr) (w : World) : (Go.method 287 142 (.pointer (some a)) "Unwrap").run Tryd.prog w = .ok (102, .pointer (some a)) w := by kernel_rfl
set_option maxHeartbeats 16000000 in
theorem as_wrapped (b1 b2 : Nat) (t : Addr) (old : Value) (w : World) (hg : w.cell? ⟨0, 0, none⟩ = some (.iface 146 (.agg #[.pointer (some ⟨1, 28, none⟩)]))) (ht0 : w.cell? t = some old) (hf0 : w.frozen? t = false) (hb1 : b1 < w.heap.size) (hu : w.cell? ⟨b1, 1, none⟩ = some (.iface 85 (.pointer (some ⟨b2, 0, none⟩)))) :
    Calls Tryd.prog 36 #[.iface 142 (.pointer (some ⟨b1, 0, none⟩)), .iface 87 (.pointer (some t))] w fun ev w' => ev = .returned (.bool true) ∧ ∃ W, Ext w W ∧ w' = W.setCell t (.pointer (some ⟨b2, 0, none⟩)) := by
  obtain ⟨e, he⟩ : ∃ e : Addr, ⟨b2, 0, none⟩ = e := ⟨_, rfl⟩
  rw [he] at hu ⊢
  have h6 := @run_callFunc_extern Tryd.prog 60 _ (fun args => ReflectliteValue.unpack (args.getD 0 (.tuple #[]))) Tryd.func60 (by kernel_rfl) (by kernel_rfl) (by kernel_rfl) (by kernel_rfl)
  have h7 := @run_callFunc_extern Tryd.prog 61 _ (ReflectliteValue.methodAny (ReflectliteValue.valueError "reflectlite.Value.Type" 0) (fun t _ _ _ => ReflectliteType.toType t)) Tryd.func61 (by kernel_rfl) (by kernel_rfl) (by kernel_rfl) (by kernel_rfl)
  have h8 := @run_callFunc_extern Tryd.prog 62 _ (ReflectliteValue.method (ReflectliteValue.valueError "reflectlite.Value.IsNil" 0) ReflectliteValue.isNil) Tryd.func62 (by kernel_rfl) (by kernel_rfl) (by kernel_rfl) (by kernel_rfl)
  have h27 := @run_callFunc_extern Tryd.prog 94 _ (ReflectliteType.abiMethod fun t => do pure (.int .u8 (← Rtype.kind t))) Tryd.func94 (by kernel_rfl) (by kernel_rfl) (by kernel_rfl) (by kernel_rfl)
  have h37 := @run_callFunc_extern Tryd.prog 106 _ (ReflectliteType.method ReflectliteType.elem) Tryd.func106 (by kernel_rfl) (by kernel_rfl) (by kernel_rfl) (by kernel_rfl)
  have h38 := @run_callFunc_extern Tryd.prog 107 _ (ReflectliteType.relation "Implements" ReflectliteType.implements_) Tryd.func107 (by kernel_rfl) (by kernel_rfl) (by kernel_rfl) (by kernel_rfl)
  have h10 := @run_callFunc_extern Tryd.prog 76 _ ReflectliteType.typeOf Tryd.func76 (by kernel_rfl) (by kernel_rfl) (by kernel_rfl) (by kernel_rfl)
  have h35 := @run_callFunc_extern Tryd.prog 104 _ (ReflectliteType.relation "AssignableTo" ReflectliteType.assignableTo) Tryd.func104 (by kernel_rfl) (by kernel_rfl) (by kernel_rfl) (by kernel_rfl)
  have h11 := @run_callFunc_extern Tryd.prog 77 _ (ReflectliteValue.method (ReflectliteValue.valueError "reflectlite.Value.Elem" 0) ReflectliteValue.elem) Tryd.func77 (by kernel_rfl) (by kernel_rfl) (by kernel_rfl) (by kernel_rfl)
  have h12 := @run_callFunc_extern Tryd.prog 78 _ ReflectliteValue.set Tryd.func78 (by kernel_rfl) (by kernel_rfl) (by kernel_rfl) (by kernel_rfl)
  have tO := rl_typeOf25
  have mA := rl_methodAssignableTo
  have a25 := rl_assignable25
  have v25 := rl_valueOf25
  have f6 := rl_valueOf27
  have f7 := rl_type27
  have mK := rl_methodKind
  have mE := rl_methodElem
  have mI := rl_methodImplements
  have k27 := rl_kind27
  have k25 := rl_kind25
  have e27 := rl_elem27
  have i25 := rl_implements25
  have n8 := rl_isNil27 ⟨w.heap.size, 0, none⟩ t ((w.alloc (.cells #[.pointer (some t)] 87)).alloc (.cells #[.pointer (some ⟨1, 87, none⟩), .pointer (some ⟨w.heap.size, 0, none⟩), .int .u64 150] 116)) (by simp)
  have hlt : 0 < w.heap.size := by
    rcases Nat.eq_zero_or_pos w.heap.size with h0 | h
    · simp [World.cell?, h0] at hg
    · exact h
  have hg2 : ((w.alloc (.cells #[.pointer (some t)] 87)).alloc (.cells #[.pointer (some ⟨1, 87, none⟩), .pointer (some ⟨w.heap.size, 0, none⟩), .int .u64 150] 116)).cell? ⟨0, 0, none⟩ = some (.iface 146 (.agg #[.pointer (some ⟨1, 28, none⟩)])) := by
    rw [World.cell?_alloc_lt _ _ ⟨0, 0, none⟩ (by simp), World.cell?_alloc_lt _ _ ⟨0, 0, none⟩ hlt]; exact hg
  have htl : t.block < w.heap.size := by
    rcases Nat.lt_or_ge t.block w.heap.size with h | h
    · exact h
    · simp [World.cell?, Array.getElem?_eq_none h] at ht0
  have el := rl_elemV27 ⟨w.heap.size, 0, none⟩ t (((w.alloc (.cells #[.pointer (some t)] 87)).alloc (.cells #[.pointer (some ⟨1, 87, none⟩), .pointer (some ⟨w.heap.size, 0, none⟩), .int .u64 150] 116)).alloc (.cells #[.pointer (some ⟨1, 87, none⟩), .pointer (some ⟨w.heap.size, 0, none⟩), .int .u64 150] 116)) (by rw [World.cell?_alloc_lt _ _ ⟨w.heap.size, 0, none⟩ (by simp; omega)]; simp)
  have st := rl_set25 t ⟨w.heap.size + 1 + 1 + 1, 0, none⟩ e old ((((w.alloc (.cells #[.pointer (some t)] 87)).alloc (.cells #[.pointer (some ⟨1, 87, none⟩), .pointer (some ⟨w.heap.size, 0, none⟩), .int .u64 150] 116)).alloc (.cells #[.pointer (some ⟨1, 87, none⟩), .pointer (some ⟨w.heap.size, 0, none⟩), .int .u64 150] 116)).alloc (.cells #[.pointer (some e)] 85))
    (by rw [World.cell?_alloc_at _ _ _ _ (by simp)]; rfl)
    (by rw [World.cell?_alloc_lt _ _ t (by simp; omega), World.cell?_alloc_lt _ _ t (by simp; omega), World.cell?_alloc_lt _ _ t (by simp; omega), World.cell?_alloc_lt _ _ t htl]; exact ht0)
    (by rw [World.frozen?_alloc_old _ _ t (by simp; omega), World.frozen?_alloc_old _ _ t (by simp; omega), World.frozen?_alloc_old _ _ t (by simp; omega), World.frozen?_alloc_old _ _ t (Nat.ne_of_lt htl)]; exact hf0)
  have tO9 := rl_typeOf91
  have a9 := rl_assignable91
  have ta1 := rl_ta1
  have ta2 := rl_ta2
  have mU := rl_mU
  have hu3 : (((w.alloc (.cells #[.pointer (some t)] 87)).alloc (.cells #[.pointer (some ⟨1, 87, none⟩), .pointer (some ⟨w.heap.size, 0, none⟩), .int .u64 150] 116)).alloc (.cells #[.pointer (some ⟨1, 87, none⟩), .pointer (some ⟨w.heap.size, 0, none⟩), .int .u64 150] 116)).cell? ⟨b1, 1, none⟩ = some (.iface 85 (.pointer (some e))) := by
    rw [World.cell?_alloc_lt _ _ ⟨b1, 1, none⟩ (by simp; omega), World.cell?_alloc_lt _ _ ⟨b1, 1, none⟩ (by simp; omega), World.cell?_alloc_lt _ _ ⟨b1, 1, none⟩ hb1]; exact hu
  go_enter Tryd.func36, Tryd.ntmps36
  go_wp2
  refine wp_loop_rounds 2 ?_
  rw [rounds_succ]
  go_wp2
  rw [rounds_succ]
  go_wp2
  go_ret
  exact ⟨rfl, _, ((((Ext.refl w).alloc _).alloc _).alloc _).alloc _, rfl⟩

end Go.Proofs.YtghhachbnhldoaaDoor
