/- errors.As at a concrete target (a variable of the type *yplaced): a nil error is none; the error that it is, is stored there. Lines of a worked proof turned to this program's numbers. -/
import Derived.Test.YtoifdnnjdohfmaaDoorProg
import Derived.Test.YtoifdnnjdohfmaaDoorWWords
import Derived.WalkKit
import Derived.LaidEql
import Derived.Stop.Asserts
import Derived.RowKitTokens
namespace Go.Proofs.YtoifdnnjdohfmaaDoor.As
open Go Go.RowKit Go.Extern.Stop Go.Stop Go.Extern Go.Proofs.YtoifdnnjdohfmaaDoorW.PrintWords
/-- errors.As(nil, target). -/
theorem as_nil (t : Value) (w : World) :
    Calls Tryd.prog 55 #[.nilIface, t] w fun e w' => e = .returned (.bool false) ∧ w' = w := by
  go_enter Tryd.func55, Tryd.ntmps55
  go_wp2
  go_ret
  exact ⟨rfl, rfl⟩

theorem As_valueOf27 (t : Addr) (w : World) : (ReflectliteValue.unpack (.iface 84 (.pointer (some t)))).run Tryd.prog w
    = .ok (.agg #[.pointer (some ⟨1, 84, none⟩), .pointer (some ⟨w.heap.size, 0, none⟩), .int .u64 150]) (w.alloc (.cells #[.pointer (some t)] 84)) := by kernel_rfl
theorem As_type27 (a : Addr) (w : World) : (ReflectliteValue.methodAny (ReflectliteValue.valueError "reflectlite.Value.Type" 0) (fun t _ _ _ => ReflectliteType.toType t) #[.agg #[.pointer (some ⟨1, 84, none⟩), .pointer (some a), .int .u64 150]]).run Tryd.prog w
    = .ok (.iface 129 (.agg #[.pointer (some ⟨1, 84, none⟩)])) w := by kernel_rfl
theorem As_methodKind (h : Value) (w : World) : (Go.method 282 129 (.agg #[h]) "Kind").run Tryd.prog w = .ok (117, h) w := by kernel_rfl
theorem As_kind27 (w : World) : ((ReflectliteType.abiMethod fun t => (fun a : Nat => Value.int IntKind.u8 (a : Int)) <$> Rtype.kind t) #[.pointer (some ⟨1, 84, none⟩)]).run Tryd.prog w = .ok (.int .u8 22) w := by kernel_rfl
theorem As_kind25 (w : World) : ((ReflectliteType.abiMethod fun t => (fun a : Nat => Value.int IntKind.u8 (a : Int)) <$> Rtype.kind t) #[.pointer (some ⟨1, 82, none⟩)]).run Tryd.prog w = .ok (.int .u8 22) w := by kernel_rfl

theorem rlm (z : Sem Value) (f : TypeId → Addr → Nat → Nat → Sem Value) (v : Value) :
    ReflectliteValue.method z f #[v] = (do match ← ReflectliteValue.parts v with | none => z | some (t, a, fl) => f t a fl (fl % 32)) := rfl
theorem As_parts27 (a : Addr) (w : World) : (ReflectliteValue.parts (.agg #[.pointer (some ⟨1, 84, none⟩), .pointer (some a), .int .u64 150])).run Tryd.prog w = .ok (some (84, a, 150)) w := by kernel_rfl
/-- (Value).IsNil at the Value of a **p.E that is not nil. -/
theorem As_isNil27 (a p : Addr) (W : World) (ha : W.cell? a = some (.pointer (some p))) :
    (ReflectliteValue.method (ReflectliteValue.valueError "reflectlite.Value.IsNil" 0) ReflectliteValue.isNil #[.agg #[.pointer (some ⟨1, 84, none⟩), .pointer (some a), .int .u64 150]]).run Tryd.prog W = .ok (.bool false) W := by
  rw [rlm]
  simp only [Sem.run_bind, As_parts27, Result.andThen]
  simp [ReflectliteValue.isNil, loadVar, isAgg, underlying, Tryd.underlying84, ha, Result.andThen]

theorem As_methodElem (h : Value) (w : World) : (Go.method 282 129 (.agg #[h]) "Elem").run Tryd.prog w = .ok (129, .agg #[h]) w := by kernel_rfl
theorem As_methodImplements (h : Value) (w : World) : (Go.method 282 129 (.agg #[h]) "Implements").run Tryd.prog w = .ok (130, .agg #[h]) w := by kernel_rfl
theorem As_methodAssignableTo (h : Value) (w : World) : (Go.method 282 129 (.agg #[h]) "AssignableTo").run Tryd.prog w = .ok (127, .agg #[h]) w := by kernel_rfl
theorem As_elem27 (w : World) : (ReflectliteType.method ReflectliteType.elem #[.agg #[.pointer (some ⟨1, 84, none⟩)]]).run Tryd.prog w = .ok (.iface 129 (.agg #[.pointer (some ⟨1, 82, none⟩)])) w := by kernel_rfl
theorem As_implements25 (w : World) : (ReflectliteType.relation "Implements" ReflectliteType.implements_ #[.agg #[.pointer (some ⟨1, 82, none⟩)], .iface 129 (.agg #[.pointer (some ⟨1, 53, none⟩)])]).run Tryd.prog w = .ok (.bool true) w := by kernel_rfl
theorem As_typeOf25 (v : Value) (w : World) : (ReflectliteType.typeOf #[.iface 82 v]).run Tryd.prog w = .ok (.iface 129 (.agg #[.pointer (some ⟨1, 82, none⟩)])) w := by kernel_rfl
theorem As_assignable25 (w : World) : (ReflectliteType.relation "AssignableTo" ReflectliteType.assignableTo #[.agg #[.pointer (some ⟨1, 82, none⟩)], .iface 129 (.agg #[.pointer (some ⟨1, 82, none⟩)])]).run Tryd.prog w = .ok (.bool true) w := by kernel_rfl
theorem As_valueOf25 (e : Addr) (w : World) : (ReflectliteValue.unpack (.iface 82 (.pointer (some e)))).run Tryd.prog w
    = .ok (.agg #[.pointer (some ⟨1, 82, none⟩), .pointer (some ⟨w.heap.size, 0, none⟩), .int .u64 150]) (w.alloc (.cells #[.pointer (some e)] 82)) := by kernel_rfl

theorem As_elemOf27 (w : World) : (Rtype.elem? 84).run Tryd.prog w = .ok (some 82) w := by kernel_rfl
theorem As_mk25 (p : Addr) (w : World) : (ReflectliteValue.mk 82 p ReflectliteValue.flagAddr).run Tryd.prog w = .ok (.agg #[.pointer (some ⟨1, 82, none⟩), .pointer (some p), .int .u64 406]) w := by kernel_rfl
/-- (Value).Elem at the Value of a **p.E that is not nil: the Value of the *p.E variable that it points to, addressable. -/
theorem As_elemV27 (a p : Addr) (W : World) (ha : W.cell? a = some (.pointer (some p))) :
    (ReflectliteValue.method (ReflectliteValue.valueError "reflectlite.Value.Elem" 0) ReflectliteValue.elem #[.agg #[.pointer (some ⟨1, 84, none⟩), .pointer (some a), .int .u64 150]]).run Tryd.prog W
      = .ok (.agg #[.pointer (some ⟨1, 82, none⟩), .pointer (some p), .int .u64 406]) W := by
  rw [rlm]
  simp only [Sem.run_bind, As_parts27, Result.andThen]
  simp [ReflectliteValue.elem, loadVar, isAgg, underlying, Tryd.underlying84, ha, Result.andThen, As_elemOf27, As_mk25]
theorem rls (v x : Value) : ReflectliteValue.set #[v, x] = (do
    let (some (dst, a, fl), some (src, b, _)) := (← ReflectliteValue.parts v, ← ReflectliteValue.parts x)
      | unsupported (.noEntry "extern/(internal/reflectlite.Value).Set.zeroValue")
    if fl / ReflectliteValue.flagAddr % 2 == 0 then unsupported (.noEntry "extern/(internal/reflectlite.Value).Set.unaddressable")
    let val ← loadVar src b
    if ← Rtype.directlyAssignable dst src then storeVar dst a val
    else if ← Rtype.implements dst src then
      if (← Rtype.kind src) == 20 then
        match val with
        | .nilIface => unsupported (.noEntry "extern/reflectlite: a nil value of one interface type handed on as a value of another")
        | _ => storeVar dst a val
      else storeVar dst a (.iface src val)
    else panicString ("reflectlite.Set: value of type " ++ (← Rtype.spelt src) ++ " is not assignable to type " ++ (← Rtype.spelt dst))
    pure (.tuple #[])) := rfl
theorem As_parts25a (a : Addr) (w : World) : (ReflectliteValue.parts (.agg #[.pointer (some ⟨1, 82, none⟩), .pointer (some a), .int .u64 406])).run Tryd.prog w = .ok (some (82, a, 406)) w := by kernel_rfl
theorem As_parts25 (a : Addr) (w : World) : (ReflectliteValue.parts (.agg #[.pointer (some ⟨1, 82, none⟩), .pointer (some a), .int .u64 150])).run Tryd.prog w = .ok (some (82, a, 150)) w := by kernel_rfl
theorem As_direct25 (w : World) : (Rtype.directlyAssignable 82 82).run Tryd.prog w = .ok true w := by kernel_rfl
theorem As_size25 (w : World) : (sizeOf 82).run Tryd.prog w = .ok 1 w := by kernel_rfl
/-- (Value).Set: the *p.E variable at 'ta' gets what the Value's own variable 'b' holds. -/
theorem As_set25 (ta b e : Addr) (old : Value) (W : World) (hb : W.cell? b = some (.pointer (some e))) (ht : W.cell? ta = some old) (hf : W.frozen? ta = false) :
    (ReflectliteValue.set #[.agg #[.pointer (some ⟨1, 82, none⟩), .pointer (some ta), .int .u64 406], .agg #[.pointer (some ⟨1, 82, none⟩), .pointer (some b), .int .u64 150]]).run Tryd.prog W
      = .ok (.tuple #[]) (W.setCell ta (.pointer (some e))) := by
  rw [rls]
  simp only [Sem.run_bind, As_parts25a, As_parts25, Result.andThen]
  simp [ReflectliteValue.flagAddr, loadVar, isAgg, underlying, Tryd.underlying82, hb, Result.andThen, As_direct25, storeVar, Value.cells, storeCells, Addr.add]
  rw [run_store Tryd.prog W ta _ _ (by rfl)]
  simp [ht, hf]

set_option maxHeartbeats 8000000 in
set_option maxRecDepth 100000 in
theorem as_hit (e t : Addr) (old : Value) (w : World) (hg : w.cell? ⟨0, 0, none⟩ = some (.iface 129 (.agg #[.pointer (some ⟨1, 53, none⟩)]))) (ht0 : w.cell? t = some old) (hf0 : w.frozen? t = false) :
    Calls Tryd.prog 55 #[.iface 82 (.pointer (some e)), .iface 84 (.pointer (some t))] w fun ev w' => ev = .returned (.bool true) ∧ w' = ((((w.alloc (.cells #[.pointer (some t)] 84)).alloc (.cells #[.pointer (some ⟨1, 84, none⟩), .pointer (some ⟨w.heap.size, 0, none⟩), .int .u64 150] 109)).alloc (.cells #[.pointer (some ⟨1, 84, none⟩), .pointer (some ⟨w.heap.size, 0, none⟩), .int .u64 150] 109)).alloc (.cells #[.pointer (some e)] 82)).setCell t (.pointer (some e)) := by
  have h6 := @run_callFunc_extern Tryd.prog 77 _ (fun args => ReflectliteValue.unpack (args.getD 0 (.tuple #[]))) Tryd.func77 (by kernel_rfl) (by kernel_rfl) (by kernel_rfl) (by kernel_rfl)
  have h7 := @run_callFunc_extern Tryd.prog 78 _ (ReflectliteValue.methodAny (ReflectliteValue.valueError "reflectlite.Value.Type" 0) (fun t _ _ _ => ReflectliteType.toType t)) Tryd.func78 (by kernel_rfl) (by kernel_rfl) (by kernel_rfl) (by kernel_rfl)
  have h8 := @run_callFunc_extern Tryd.prog 79 _ (ReflectliteValue.method (ReflectliteValue.valueError "reflectlite.Value.IsNil" 0) ReflectliteValue.isNil) Tryd.func79 (by kernel_rfl) (by kernel_rfl) (by kernel_rfl) (by kernel_rfl)
  have h27 := @run_callFunc_extern Tryd.prog 117 _ (ReflectliteType.abiMethod fun t => do pure (.int .u8 (← Rtype.kind t))) Tryd.func117 (by kernel_rfl) (by kernel_rfl) (by kernel_rfl) (by kernel_rfl)
  have h37 := @run_callFunc_extern Tryd.prog 129 _ (ReflectliteType.method ReflectliteType.elem) Tryd.func129 (by kernel_rfl) (by kernel_rfl) (by kernel_rfl) (by kernel_rfl)
  have h38 := @run_callFunc_extern Tryd.prog 130 _ (ReflectliteType.relation "Implements" ReflectliteType.implements_) Tryd.func130 (by kernel_rfl) (by kernel_rfl) (by kernel_rfl) (by kernel_rfl)
  have h10 := @run_callFunc_extern Tryd.prog 87 _ ReflectliteType.typeOf Tryd.func87 (by kernel_rfl) (by kernel_rfl) (by kernel_rfl) (by kernel_rfl)
  have h35 := @run_callFunc_extern Tryd.prog 127 _ (ReflectliteType.relation "AssignableTo" ReflectliteType.assignableTo) Tryd.func127 (by kernel_rfl) (by kernel_rfl) (by kernel_rfl) (by kernel_rfl)
  have h11 := @run_callFunc_extern Tryd.prog 88 _ (ReflectliteValue.method (ReflectliteValue.valueError "reflectlite.Value.Elem" 0) ReflectliteValue.elem) Tryd.func88 (by kernel_rfl) (by kernel_rfl) (by kernel_rfl) (by kernel_rfl)
  have h12 := @run_callFunc_extern Tryd.prog 89 _ ReflectliteValue.set Tryd.func89 (by kernel_rfl) (by kernel_rfl) (by kernel_rfl) (by kernel_rfl)
  have tO := As_typeOf25
  have mA := As_methodAssignableTo
  have a25 := As_assignable25
  have v25 := As_valueOf25
  have f6 := As_valueOf27
  have f7 := As_type27
  have mK := As_methodKind
  have mE := As_methodElem
  have mI := As_methodImplements
  have k27 := As_kind27
  have k25 := As_kind25
  have e27 := As_elem27
  have i25 := As_implements25
  have n8 := As_isNil27 ⟨w.heap.size, 0, none⟩ t ((w.alloc (.cells #[.pointer (some t)] 84)).alloc (.cells #[.pointer (some ⟨1, 84, none⟩), .pointer (some ⟨w.heap.size, 0, none⟩), .int .u64 150] 109)) (by simp)
  have hlt : 0 < w.heap.size := by
    rcases Nat.eq_zero_or_pos w.heap.size with h0 | h
    · simp [World.cell?, h0] at hg
    · exact h
  have hg2 : ((w.alloc (.cells #[.pointer (some t)] 84)).alloc (.cells #[.pointer (some ⟨1, 84, none⟩), .pointer (some ⟨w.heap.size, 0, none⟩), .int .u64 150] 109)).cell? ⟨0, 0, none⟩ = some (.iface 129 (.agg #[.pointer (some ⟨1, 53, none⟩)])) := by
    rw [World.cell?_alloc_lt _ _ ⟨0, 0, none⟩ (by simp), World.cell?_alloc_lt _ _ ⟨0, 0, none⟩ hlt]; exact hg
  have htl : t.block < w.heap.size := by
    rcases Nat.lt_or_ge t.block w.heap.size with h | h
    · exact h
    · simp [World.cell?, Array.getElem?_eq_none h] at ht0
  have el := As_elemV27 ⟨w.heap.size, 0, none⟩ t (((w.alloc (.cells #[.pointer (some t)] 84)).alloc (.cells #[.pointer (some ⟨1, 84, none⟩), .pointer (some ⟨w.heap.size, 0, none⟩), .int .u64 150] 109)).alloc (.cells #[.pointer (some ⟨1, 84, none⟩), .pointer (some ⟨w.heap.size, 0, none⟩), .int .u64 150] 109)) (by rw [World.cell?_alloc_lt _ _ ⟨w.heap.size, 0, none⟩ (by simp; omega)]; simp)
  have st := As_set25 t ⟨w.heap.size + 1 + 1 + 1, 0, none⟩ e old ((((w.alloc (.cells #[.pointer (some t)] 84)).alloc (.cells #[.pointer (some ⟨1, 84, none⟩), .pointer (some ⟨w.heap.size, 0, none⟩), .int .u64 150] 109)).alloc (.cells #[.pointer (some ⟨1, 84, none⟩), .pointer (some ⟨w.heap.size, 0, none⟩), .int .u64 150] 109)).alloc (.cells #[.pointer (some e)] 82))
    (by rw [World.cell?_alloc_at _ _ _ _ (by simp)]; rfl)
    (by rw [World.cell?_alloc_lt _ _ t (by simp; omega), World.cell?_alloc_lt _ _ t (by simp; omega), World.cell?_alloc_lt _ _ t (by simp; omega), World.cell?_alloc_lt _ _ t htl]; exact ht0)
    (by rw [World.frozen?_alloc_old _ _ t (by simp; omega), World.frozen?_alloc_old _ _ t (by simp; omega), World.frozen?_alloc_old _ _ t (by simp; omega), World.frozen?_alloc_old _ _ t (Nat.ne_of_lt htl)]; exact hf0)
  go_enter Tryd.func55, Tryd.ntmps55
  go_wp2
  refine wp_loop_rounds 1 ?_
  rw [rounds_succ]
  go_wp2
  go_ret
  exact ⟨rfl, rfl⟩
theorem set_here {w : World} {t : Addr} {old v : Value} (h : w.cell? t = some old) : (w.setCell t v).cell? t = some v := World.cell?_setCell_same w t v h
theorem as_hit' (e t : Addr) (old : Value) (w : World) (hg : w.cell? ⟨0, 0, none⟩ = some (.iface 129 (.agg #[.pointer (some ⟨1, 53, none⟩)]))) (ht0 : w.cell? t = some old) (hf0 : w.frozen? t = false) :
    Calls Tryd.prog 55 #[.iface 82 (.pointer (some e)), .iface 84 (.pointer (some t))] w fun ev w' => ev = .returned (.bool true) ∧ w'.cell? t = some (.pointer (some e)) ∧ (∀ k, k < w.heap.size → k ≠ t.block → w'.heap[k]? = w.heap[k]?) ∧ (∀ B, B ≤ t.block → B ≤ w.heap.size → Below B w w') := by
  refine (as_hit e t old w hg ht0 hf0).mono ?_
  rintro ev w' ⟨he, rfl⟩
  have hA : Below w.heap.size w ((((w.alloc (.cells #[.pointer (some t)] 84)).alloc (.cells #[.pointer (some ⟨1, 84, none⟩), .pointer (some ⟨w.heap.size, 0, none⟩), .int .u64 150] 109)).alloc (.cells #[.pointer (some ⟨1, 84, none⟩), .pointer (some ⟨w.heap.size, 0, none⟩), .int .u64 150] 109)).alloc (.cells #[.pointer (some e)] 82)) := below_alloc (below_alloc (below_alloc (below_alloc (Below.refl _ _) _) _) _) _
  generalize ((((w.alloc (.cells #[.pointer (some t)] 84)).alloc (.cells #[.pointer (some ⟨1, 84, none⟩), .pointer (some ⟨w.heap.size, 0, none⟩), .int .u64 150] 109)).alloc (.cells #[.pointer (some ⟨1, 84, none⟩), .pointer (some ⟨w.heap.size, 0, none⟩), .int .u64 150] 109)).alloc (.cells #[.pointer (some e)] 82)) = A at hA ⊢
  exact ⟨he, set_here (pw_cell_below hA ht0), fun k hk hne => (Below.heap_setCell A t _ k hne).trans (hA.block k hk), fun B hB hw => (hA.mono hw).trans ((Below.refl B A).setCell hB _)⟩
end Go.Proofs.YtoifdnnjdohfmaaDoor.As
