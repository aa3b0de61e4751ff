/- errors.As(err, &f), f a *api.Fault, where err is a sentinel of errors.New's make: false; nothing that was there turns. After the kit's worked text ToyasAs. -/
import Derived.Test.YtehekppkicjimaaDoorIs
namespace Go.Proofs.YtehekppkicjimaaDoor
open Go.RowKit Go.Extern.Stop Go.Stop Go.Extern Go.Proofs.YtehekppkicjimaaDoorW.PrintWords
set_option linter.unusedVariables false

theorem av_valueOf (t : Addr) (w : World) : (ReflectliteValue.unpack (.iface 67 (.pointer (some t)))).run Tryd.prog w
    = .ok (.agg #[.pointer (some ⟨11, 67, none⟩), .pointer (some ⟨w.heap.size, 0, none⟩), .int .u64 150]) (w.alloc (.cells #[.pointer (some t)] 67)) := by kernel_rfl
theorem av_type (a : Addr) (w : World) : (ReflectliteValue.methodAny (ReflectliteValue.valueError "reflectlite.Value.Type" 0) (fun t _ _ _ => ReflectliteType.toType t) #[.agg #[.pointer (some ⟨11, 67, none⟩), .pointer (some a), .int .u64 150]]).run Tryd.prog w
    = .ok (.iface 113 (.agg #[.pointer (some ⟨11, 67, none⟩)])) w := by kernel_rfl
theorem av_methodKind (h : Value) (w : World) : (Go.method 277 113 (.agg #[h]) "Kind").run Tryd.prog w = .ok (84, h) w := by kernel_rfl
theorem av_kindPP (w : World) : ((ReflectliteType.abiMethod fun t => (fun a : Nat => Value.int IntKind.u8 (a : Int)) <$> Rtype.kind t) #[.pointer (some ⟨11, 67, none⟩)]).run Tryd.prog w = .ok (.int .u8 22) w := by kernel_rfl
theorem av_kindP (w : World) : ((ReflectliteType.abiMethod fun t => (fun a : Nat => Value.int IntKind.u8 (a : Int)) <$> Rtype.kind t) #[.pointer (some ⟨11, 65, none⟩)]).run Tryd.prog w = .ok (.int .u8 22) w := by kernel_rfl
theorem av_rlm (z : Sem Value) (f : TypeId → Addr → Nat → Nat → Sem Value) (v : Value) :
    ReflectliteValue.method z f #[v] = (do match ← ReflectliteValue.parts v with | none => z | some (t, a, fl) => f t a fl (fl % 32)) := rfl
theorem av_parts (a : Addr) (w : World) : (ReflectliteValue.parts (.agg #[.pointer (some ⟨11, 67, none⟩), .pointer (some a), .int .u64 150])).run Tryd.prog w = .ok (some (67, a, 150)) w := by kernel_rfl
theorem av_isNil (a p : Addr) (W : World) (ha : W.cell? a = some (.pointer (some p))) :
    (ReflectliteValue.method (ReflectliteValue.valueError "reflectlite.Value.IsNil" 0) ReflectliteValue.isNil #[.agg #[.pointer (some ⟨11, 67, none⟩), .pointer (some a), .int .u64 150]]).run Tryd.prog W = .ok (.bool false) W := by
  rw [av_rlm]
  simp only [Sem.run_bind, av_parts, Result.andThen]
  simp [ReflectliteValue.isNil, loadVar, isAgg, underlying, Tryd.underlying67, ha, Result.andThen]
theorem av_methodElem (h : Value) (w : World) : (Go.method 277 113 (.agg #[h]) "Elem").run Tryd.prog w = .ok (124, .agg #[h]) w := by kernel_rfl
theorem av_methodImplements (h : Value) (w : World) : (Go.method 277 113 (.agg #[h]) "Implements").run Tryd.prog w = .ok (125, .agg #[h]) w := by kernel_rfl
theorem av_methodAssignableTo (h : Value) (w : World) : (Go.method 277 113 (.agg #[h]) "AssignableTo").run Tryd.prog w = .ok (122, .agg #[h]) w := by kernel_rfl
theorem av_elem (w : World) : (ReflectliteType.method ReflectliteType.elem #[.agg #[.pointer (some ⟨11, 67, none⟩)]]).run Tryd.prog w = .ok (.iface 113 (.agg #[.pointer (some ⟨11, 65, none⟩)])) w := by kernel_rfl
theorem av_implements (w : World) : (ReflectliteType.relation "Implements" ReflectliteType.implements_ #[.agg #[.pointer (some ⟨11, 65, none⟩)], .iface 113 (.agg #[.pointer (some ⟨11, 28, none⟩)])]).run Tryd.prog w = .ok (.bool true) w := by kernel_rfl
theorem av_assignable (w : World) : (ReflectliteType.relation "AssignableTo" ReflectliteType.assignableTo #[.agg #[.pointer (some ⟨11, 135, none⟩)], .iface 113 (.agg #[.pointer (some ⟨11, 65, none⟩)])]).run Tryd.prog w = .ok (.bool false) w := by kernel_rfl
theorem av_noAs (v : Value) (xT : TypeId) (w : World) : (Instr.typeAssert (.iface 135 v) xT 124 true).run Tryd.prog w = .ok (.tuple #[.nilIface, .bool false]) w := run_typeAssert_lacksB Tryd.underlying124 (by kernel_rfl) (by kernel_rfl) v xT w

set_option maxHeartbeats 4000000 in
theorem as_miss (e t : Addr) (w : World) (hg : w.cell? ⟨10, 0, none⟩ = some (.iface 113 (.agg #[.pointer (some ⟨11, 28, none⟩)]))) :
    Calls Tryd.prog 36 #[.iface 135 (.pointer (some e)), .iface 67 (.pointer (some t))] w fun ev w' => ev = .returned (.bool false) ∧ Below w.heap.size w w' := by
  have h6 := @run_callFunc_extern Tryd.prog 45 _ (fun args => ReflectliteValue.unpack (args.getD 0 (.tuple #[]))) Tryd.func45 (by kernel_rfl) (by kernel_rfl) (by kernel_rfl) (by kernel_rfl)
  have h7 := @run_callFunc_extern Tryd.prog 46 _ (ReflectliteValue.methodAny (ReflectliteValue.valueError "reflectlite.Value.Type" 0) (fun t _ _ _ => ReflectliteType.toType t)) Tryd.func46 (by kernel_rfl) (by kernel_rfl) (by kernel_rfl) (by kernel_rfl)
  have h8 := @run_callFunc_extern Tryd.prog 47 _ (ReflectliteValue.method (ReflectliteValue.valueError "reflectlite.Value.IsNil" 0) ReflectliteValue.isNil) Tryd.func47 (by kernel_rfl) (by kernel_rfl) (by kernel_rfl) (by kernel_rfl)
  have h27 := @run_callFunc_extern Tryd.prog 84 _ (ReflectliteType.abiMethod fun t => do pure (.int .u8 (← Rtype.kind t))) Tryd.func84 (by kernel_rfl) (by kernel_rfl) (by kernel_rfl) (by kernel_rfl)
  have h37 := @run_callFunc_extern Tryd.prog 124 _ (ReflectliteType.method ReflectliteType.elem) Tryd.func124 (by kernel_rfl) (by kernel_rfl) (by kernel_rfl) (by kernel_rfl)
  have h38 := @run_callFunc_extern Tryd.prog 125 _ (ReflectliteType.relation "Implements" ReflectliteType.implements_) Tryd.func125 (by kernel_rfl) (by kernel_rfl) (by kernel_rfl) (by kernel_rfl)
  have h10 := @run_callFunc_extern Tryd.prog 43 _ ReflectliteType.typeOf Tryd.func43 (by kernel_rfl) (by kernel_rfl) (by kernel_rfl) (by kernel_rfl)
  have h35 := @run_callFunc_extern Tryd.prog 122 _ (ReflectliteType.relation "AssignableTo" ReflectliteType.assignableTo) Tryd.func122 (by kernel_rfl) (by kernel_rfl) (by kernel_rfl) (by kernel_rfl)
  have tO := isTypeOf
  have mA := av_methodAssignableTo
  have aN := av_assignable
  have f6 := av_valueOf
  have f7 := av_type
  have mK := av_methodKind
  have mE := av_methodElem
  have mI := av_methodImplements
  have k27 := av_kindPP
  have k25 := av_kindP
  have e27 := av_elem
  have i25 := av_implements
  have nA := av_noAs
  have nU := noUnwrapE
  have nV := noUnwrapsE
  have n8 := av_isNil ⟨w.heap.size, 0, none⟩ t ((w.alloc (.cells #[.pointer (some t)] 67)).alloc (.cells #[.pointer (some ⟨11, 67, none⟩), .pointer (some ⟨w.heap.size, 0, none⟩), .int .u64 150] 86)) (by simp)
  have hlt : 10 < w.heap.size := World.block_lt_of_cell? w ⟨10, 0, none⟩ hg
  have hg2 : ((w.alloc (.cells #[.pointer (some t)] 67)).alloc (.cells #[.pointer (some ⟨11, 67, none⟩), .pointer (some ⟨w.heap.size, 0, none⟩), .int .u64 150] 86)).cell? ⟨10, 0, none⟩ = some (.iface 113 (.agg #[.pointer (some ⟨11, 28, none⟩)])) := by
    rw [World.cell?_alloc_lt _ _ ⟨10, 0, none⟩ (by simp; omega), World.cell?_alloc_lt _ _ ⟨10, 0, none⟩ hlt]; exact hg
  go_enter Tryd.func36, Tryd.ntmps36
  go_wp2
  refine wp_loop_rounds 1 ?_
  rw [rounds_succ]
  go_wp2
  go_ret
  exact ⟨rfl, by repeat (first | exact Below.refl _ _ | apply below_alloc | apply below_drew)⟩
end Go.Proofs.YtehekppkicjimaaDoor
