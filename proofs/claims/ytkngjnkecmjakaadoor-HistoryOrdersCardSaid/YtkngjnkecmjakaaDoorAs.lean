import Derived.Test.YtkngjnkecmjakaaDoorErr
import Derived.WalkKit
namespace Go.Proofs.YtkngjnkecmjakaaDoor
set_option linter.unusedVariables false
set_option linter.unusedSimpArgs false
open Go.RowKit Go.Extern.Stop Go.Stop Go.Extern

/-! errors.As at a target of type *api.Code, and fault.Code -/
abbrev HT (t : TypeId) : Value := .pointer (some ⟨1, t, none⟩)
/-- what errors.errorType holds -/
abbrev handleV : Value := .iface 94 (.agg #[HT 29])

theorem as_nil (t : Value) (w : World) :
    Calls Tryd.prog 22 #[.nilIface, t] w fun e w' => e = .returned (.bool false) ∧ w' = w := by
  go_enter Tryd.func22, Tryd.ntmps22
  go_wp2_with fail
  go_ret
  exact ⟨rfl, rfl⟩

theorem asValueOfP (t : Addr) (w : World) : (ReflectliteValue.unpack (.iface 58 (.pointer (some t)))).run Tryd.prog w
    = .ok (.agg #[HT 58, .pointer (some ⟨w.heap.size, 0, none⟩), .int .u64 150]) (w.alloc (.cells #[.pointer (some t)] 58)) := by kernel_rfl
theorem asTypeP (a : Addr) (w : World) : (ReflectliteValue.methodAny (ReflectliteValue.valueError "reflectlite.Value.Type" 0) (fun t _ _ _ => ReflectliteType.toType t) #[.agg #[HT 58, .pointer (some a), .int .u64 150]]).run Tryd.prog w
    = .ok (.iface 94 (.agg #[HT 58])) w := by kernel_rfl
theorem asMethodKind (h : Value) (w : World) : (Go.method 240 94 (.agg #[h]) "Kind").run Tryd.prog w = .ok (72, h) w := by kernel_rfl
theorem asKindP (w : World) : ((ReflectliteType.abiMethod fun t => Functor.map (fun a : Nat => Value.int IntKind.u8 (a : Int)) (Rtype.kind t)) #[HT 58]).run Tryd.prog w = .ok (.int .u8 22) w := by kernel_rfl
theorem asKindC (w : World) : ((ReflectliteType.abiMethod fun t => Functor.map (fun a : Nat => Value.int IntKind.u8 (a : Int)) (Rtype.kind t)) #[HT 32]).run Tryd.prog w = .ok (.int .u8 2) w := by kernel_rfl
theorem rlm (z : Sem Value) (f : TypeId → Addr → Nat → Nat → Sem Value) (v : Value) :
    ReflectliteValue.method z f #[v] = (do match ← ReflectliteValue.parts v with | none => z | some (t, a, fl) => f t a fl (fl % 32)) := rfl
theorem asPartsP (a : Addr) (w : World) : (ReflectliteValue.parts (.agg #[HT 58, .pointer (some a), .int .u64 150])).run Tryd.prog w = .ok (some (58, a, 150)) w := by kernel_rfl
theorem asIsNilP (a p : Addr) (W : World) (ha : W.cell? a = some (.pointer (some p))) :
    (ReflectliteValue.method (ReflectliteValue.valueError "reflectlite.Value.IsNil" 0) ReflectliteValue.isNil #[.agg #[HT 58, .pointer (some a), .int .u64 150]]).run Tryd.prog W = .ok (.bool false) W := by
  rw [rlm]
  simp only [Sem.run_bind, asPartsP, Result.andThen]
  simp [ReflectliteValue.isNil, loadVar, isAgg, underlying, Tryd.underlying58, ha, Result.andThen]
theorem asMethodElem (h : Value) (w : World) : (Go.method 240 94 (.agg #[h]) "Elem").run Tryd.prog w = .ok (82, .agg #[h]) w := by kernel_rfl
theorem asMethodImplements (h : Value) (w : World) : (Go.method 240 94 (.agg #[h]) "Implements").run Tryd.prog w = .ok (83, .agg #[h]) w := by kernel_rfl
theorem asMethodAssignableTo (h : Value) (w : World) : (Go.method 240 94 (.agg #[h]) "AssignableTo").run Tryd.prog w = .ok (80, .agg #[h]) w := by kernel_rfl
theorem asElemP (w : World) : (ReflectliteType.method ReflectliteType.elem #[.agg #[HT 58]]).run Tryd.prog w = .ok (.iface 94 (.agg #[HT 32])) w := by kernel_rfl
theorem asImplements (w : World) : (ReflectliteType.relation "Implements" ReflectliteType.implements_ #[.agg #[HT 32], .iface 94 (.agg #[HT 29])]).run Tryd.prog w = .ok (.bool true) w := by kernel_rfl
theorem asTypeOfC (v : Value) (w : World) : (ReflectliteType.typeOf #[.iface 32 v]).run Tryd.prog w = .ok (.iface 94 (.agg #[HT 32])) w := by kernel_rfl
theorem asAssignable (w : World) : (ReflectliteType.relation "AssignableTo" ReflectliteType.assignableTo #[.agg #[HT 32], .iface 94 (.agg #[HT 32])]).run Tryd.prog w = .ok (.bool true) w := by kernel_rfl
theorem asValueOfC (n : Int) (w : World) : (ReflectliteValue.unpack (.iface 32 (.int .i64 n))).run Tryd.prog w
    = .ok (.agg #[HT 32, .pointer (some ⟨w.heap.size, 0, none⟩), .int .u64 130]) (w.alloc (.cells #[.int .i64 n] 32)) := by kernel_rfl
theorem asElemOf (w : World) : (Rtype.elem? 58).run Tryd.prog w = .ok (some 32) w := by kernel_rfl
theorem asMkC (p : Addr) (w : World) : (ReflectliteValue.mk 32 p ReflectliteValue.flagAddr).run Tryd.prog w = .ok (.agg #[HT 32, .pointer (some p), .int .u64 386]) w := by kernel_rfl
theorem asElemV (a p : Addr) (W : World) (ha : W.cell? a = some (.pointer (some p))) :
    (ReflectliteValue.method (ReflectliteValue.valueError "reflectlite.Value.Elem" 0) ReflectliteValue.elem #[.agg #[HT 58, .pointer (some a), .int .u64 150]]).run Tryd.prog W
      = .ok (.agg #[HT 32, .pointer (some p), .int .u64 386]) W := by
  rw [rlm]
  simp only [Sem.run_bind, asPartsP, Result.andThen]
  simp [ReflectliteValue.elem, loadVar, isAgg, underlying, Tryd.underlying58, ha, Result.andThen, asElemOf, asMkC]
theorem rls (v x : Value) : ReflectliteValue.set #[v, x] = (do
    let (some (dst, a, fl), some (src, b, _)) := (← ReflectliteValue.parts v, ← ReflectliteValue.parts x)
      | unsupported (.noEntry "extern/(internal/reflectlite.Value).Set.zeroValue")
    if fl / ReflectliteValue.flagAddr % 2 == 0 then unsupported (.noEntry "extern/(internal/reflectlite.Value).Set.unaddressable")
    let val ← loadVar src b
    if ← Rtype.directlyAssignable dst src then storeVar dst a val
    else if ← Rtype.implements dst src then
      if (← Rtype.kind src) == 20 then
        match val with
        | .nilIface => unsupported (.noEntry "extern/reflectlite: a nil value of one interface type handed on as a value of another")
        | _ => storeVar dst a val
      else storeVar dst a (.iface src val)
    else panicString ("reflectlite.Set: value of type " ++ (← Rtype.spelt src) ++ " is not assignable to type " ++ (← Rtype.spelt dst))
    pure (.tuple #[])) := rfl
theorem asPartsA (a : Addr) (w : World) : (ReflectliteValue.parts (.agg #[HT 32, .pointer (some a), .int .u64 386])).run Tryd.prog w = .ok (some (32, a, 386)) w := by kernel_rfl
theorem asPartsC (a : Addr) (w : World) : (ReflectliteValue.parts (.agg #[HT 32, .pointer (some a), .int .u64 130])).run Tryd.prog w = .ok (some (32, a, 130)) w := by kernel_rfl
theorem asDirect (w : World) : (Rtype.directlyAssignable 32 32).run Tryd.prog w = .ok true w := by kernel_rfl
theorem asSize (w : World) : (sizeOf 32).run Tryd.prog w = .ok 1 w := by kernel_rfl
theorem asSet (ta b : Addr) (n : Int) (old : Value) (W : World) (hb : W.cell? b = some (.int .i64 n)) (ht : W.cell? ta = some old) (hf : W.frozen? ta = false) :
    (ReflectliteValue.set #[.agg #[HT 32, .pointer (some ta), .int .u64 386], .agg #[HT 32, .pointer (some b), .int .u64 130]]).run Tryd.prog W
      = .ok (.tuple #[]) (W.setCell ta (.int .i64 n)) := by
  rw [rls]
  simp only [Sem.run_bind, asPartsA, asPartsC, Result.andThen]
  simp [ReflectliteValue.flagAddr, loadVar, isAgg, underlying, Tryd.underlying32, hb, Result.andThen, asDirect, storeVar, Value.cells, storeCells, Addr.add]
  rw [run_store Tryd.prog W ta _ _ (by rfl)]
  simp [ht, hf]

set_option maxRecDepth 100000 in
set_option maxHeartbeats 4000000 in
theorem as_hit (n : Int) (t : Addr) (old : Value) (w : World) (hg : w.cell? ⟨0, 0, none⟩ = some handleV) (ht0 : w.cell? t = some old) (hf0 : w.frozen? t = false) :
    Calls Tryd.prog 22 #[.iface 32 (.int .i64 n), .iface 58 (.pointer (some t))] w fun ev w' => ev = .returned (.bool true) ∧ w' = ((((w.alloc (.cells #[.pointer (some t)] 58)).alloc (.cells #[HT 58, .pointer (some ⟨w.heap.size, 0, none⟩), .int .u64 150] 73)).alloc (.cells #[HT 58, .pointer (some ⟨w.heap.size, 0, none⟩), .int .u64 150] 73)).alloc (.cells #[.int .i64 n] 32)).setCell t (.int .i64 n) := by
  have h6 := @run_callFunc_extern Tryd.prog 38 _ (fun args => ReflectliteValue.unpack (args.getD 0 (.tuple #[]))) Tryd.func38 (by kernel_rfl) (by kernel_rfl) (by kernel_rfl) (by kernel_rfl)
  have h7 := @run_callFunc_extern Tryd.prog 39 _ (ReflectliteValue.methodAny (ReflectliteValue.valueError "reflectlite.Value.Type" 0) (fun t _ _ _ => ReflectliteType.toType t)) Tryd.func39 (by kernel_rfl) (by kernel_rfl) (by kernel_rfl) (by kernel_rfl)
  have h8 := @run_callFunc_extern Tryd.prog 40 _ (ReflectliteValue.method (ReflectliteValue.valueError "reflectlite.Value.IsNil" 0) ReflectliteValue.isNil) Tryd.func40 (by kernel_rfl) (by kernel_rfl) (by kernel_rfl) (by kernel_rfl)
  have h27 := @run_callFunc_extern Tryd.prog 72 _ (ReflectliteType.abiMethod fun t => do pure (.int .u8 (← Rtype.kind t))) Tryd.func72 (by kernel_rfl) (by kernel_rfl) (by kernel_rfl) (by kernel_rfl)
  have h37 := @run_callFunc_extern Tryd.prog 82 _ (ReflectliteType.method ReflectliteType.elem) Tryd.func82 (by kernel_rfl) (by kernel_rfl) (by kernel_rfl) (by kernel_rfl)
  have h38 := @run_callFunc_extern Tryd.prog 83 _ (ReflectliteType.relation "Implements" ReflectliteType.implements_) Tryd.func83 (by kernel_rfl) (by kernel_rfl) (by kernel_rfl) (by kernel_rfl)
  have h10 := @run_callFunc_extern Tryd.prog 43 _ ReflectliteType.typeOf Tryd.func43 (by kernel_rfl) (by kernel_rfl) (by kernel_rfl) (by kernel_rfl)
  have h35 := @run_callFunc_extern Tryd.prog 80 _ (ReflectliteType.relation "AssignableTo" ReflectliteType.assignableTo) Tryd.func80 (by kernel_rfl) (by kernel_rfl) (by kernel_rfl) (by kernel_rfl)
  have h11 := @run_callFunc_extern Tryd.prog 55 _ (ReflectliteValue.method (ReflectliteValue.valueError "reflectlite.Value.Elem" 0) ReflectliteValue.elem) Tryd.func55 (by kernel_rfl) (by kernel_rfl) (by kernel_rfl) (by kernel_rfl)
  have h12 := @run_callFunc_extern Tryd.prog 56 _ ReflectliteValue.set Tryd.func56 (by kernel_rfl) (by kernel_rfl) (by kernel_rfl) (by kernel_rfl)
  have tO := asTypeOfC
  have mA := asMethodAssignableTo
  have a25 := asAssignable
  have v25 := asValueOfC
  have f6 := asValueOfP
  have f7 := asTypeP
  have mK := asMethodKind
  have mE := asMethodElem
  have mI := asMethodImplements
  have k27 := asKindP
  have k25 := asKindC
  have e27 := asElemP
  have i25 := asImplements
  have n8 := asIsNilP ⟨w.heap.size, 0, none⟩ t ((w.alloc (.cells #[.pointer (some t)] 58)).alloc (.cells #[HT 58, .pointer (some ⟨w.heap.size, 0, none⟩), .int .u64 150] 73)) (((Gr.refl _).alloc _).keep (World.cell?_alloc_new w _ _ 0))
  have hlt : 0 < w.heap.size := by
    rcases Nat.eq_zero_or_pos w.heap.size with h0 | h
    · simp [World.cell?, h0] at hg
    · exact h
  have hg2 : ((w.alloc (.cells #[.pointer (some t)] 58)).alloc (.cells #[HT 58, .pointer (some ⟨w.heap.size, 0, none⟩), .int .u64 150] 73)).cell? ⟨0, 0, none⟩ = some handleV := by
    rw [World.cell?_alloc_lt _ _ ⟨0, 0, none⟩ (by simp), World.cell?_alloc_lt _ _ ⟨0, 0, none⟩ hlt]; exact hg
  have htl : t.block < w.heap.size := by
    rcases Nat.lt_or_ge t.block w.heap.size with h | h
    · exact h
    · simp [World.cell?, Array.getElem?_eq_none h] at ht0
  have el := asElemV ⟨w.heap.size, 0, none⟩ t (((w.alloc (.cells #[.pointer (some t)] 58)).alloc (.cells #[HT 58, .pointer (some ⟨w.heap.size, 0, none⟩), .int .u64 150] 73)).alloc (.cells #[HT 58, .pointer (some ⟨w.heap.size, 0, none⟩), .int .u64 150] 73)) ((((Gr.refl _).alloc _).alloc _).keep (World.cell?_alloc_new w _ _ 0))
  have st := asSet t ⟨w.heap.size + 1 + 1 + 1, 0, none⟩ n old ((((w.alloc (.cells #[.pointer (some t)] 58)).alloc (.cells #[HT 58, .pointer (some ⟨w.heap.size, 0, none⟩), .int .u64 150] 73)).alloc (.cells #[HT 58, .pointer (some ⟨w.heap.size, 0, none⟩), .int .u64 150] 73)).alloc (.cells #[.int .i64 n] 32))
    (by rw [World.cell?_alloc_at _ _ _ _ (by simp)]; rfl)
    (by rw [World.cell?_alloc_lt _ _ t (by simp; omega), World.cell?_alloc_lt _ _ t (by simp; omega), World.cell?_alloc_lt _ _ t (by simp; omega), World.cell?_alloc_lt _ _ t htl]; exact ht0)
    (by rw [World.frozen?_alloc_old _ _ t (by simp; omega), World.frozen?_alloc_old _ _ t (by simp; omega), World.frozen?_alloc_old _ _ t (by simp; omega), World.frozen?_alloc_old _ _ t (Nat.ne_of_lt htl)]; exact hf0)
  go_enter Tryd.func22, Tryd.ntmps22
  go_wp2
  refine wp_loop_rounds 1 ?_
  rw [rounds_succ]
  go_wp2
  go_ret
  exact ⟨rfl, rfl⟩

/-- fault.Code -/
theorem code_nil (w : World) : Calls Tryd.prog 12 #[.nilIface] w fun e w' => e = .returned (.int .i64 0) ∧ Gr w w' := by
  go_enter Tryd.func12, Tryd.ntmps12
  go_wp2_with (go_at_call 22; refine (as_nil _ _).mono ?_; rintro e w' ⟨rfl, rfl⟩)
  go_ret
  exact ⟨rfl, by repeat (first | with_reducible exact Gr.refl _ | with_reducible refine Gr.drewN ?_ _ | with_reducible refine Gr.drew ?_ | with_reducible refine Gr.alloc ?_ _ | with_reducible refine Gr.setCell ?_ ?_ _ | (with_reducible refine Gr.trans ?_ (by assumption)) | omega | (dsimp only; omega))⟩
set_option maxHeartbeats 1000000 in
theorem code_any (n : Int) (w : World) (hg : w.cell? ⟨0, 0, none⟩ = some handleV) : Calls Tryd.prog 12 #[errV n] w fun e w' => e = .returned (.int .i64 n) ∧ Gr w w' := by
  have hA := as_hit n ⟨w.heap.size, 0, none⟩ (.int .i64 0) (w.alloc (.cells #[.int .i64 0] 32)) (((Gr.refl w).alloc _).keep hg) (World.cell?_alloc_new w _ _ 0) (by simp)
  go_enter Tryd.func12, Tryd.ntmps12
  go_wp2_with (go_at_call 22; refine hA.mono ?_; rintro e w' ⟨rfl, rfl⟩)
  go_ret
  exact ⟨rfl, by repeat (first | with_reducible exact Gr.refl _ | with_reducible refine Gr.drewN ?_ _ | with_reducible refine Gr.drew ?_ | with_reducible refine Gr.alloc ?_ _ | with_reducible refine Gr.setCell ?_ ?_ _ | (with_reducible refine Gr.trans ?_ (by assumption)) | omega | (dsimp only; omega))⟩
end Go.Proofs.YtkngjnkecmjakaaDoor
