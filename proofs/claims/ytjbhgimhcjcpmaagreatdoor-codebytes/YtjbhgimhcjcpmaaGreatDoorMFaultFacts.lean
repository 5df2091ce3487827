/-
  CLOSED FACTS for the walks of Go's own errors.As and errors.Is at the types of package fault.
-/
import Derived.Test.YtjbhgimhcjcpmaaGreatDoorProg
import Derived.WalkKit
import Derived.WalkSpells
import Derived.WalkLawsBesides
import Derived.LaidEql
import Derived.Stop.Asserts
import Derived.RowKitTokens
import Derived.Lib.Hide
import Derived.Deep.LoopGhost
set_option linter.unusedSimpArgs false
set_option linter.unusedVariables false
namespace Go.Proofs.YtjbhgimhcjcpmaaGreatDoor
open Go.RowKit Go.Extern.Stop Go.Stop Go.Extern

/-- What the package-level variable errors.errorType holds. -/
def ErrT (w : World) : Prop := w.cell? ⟨0, 0, none⟩ = some (.iface 187 (.agg #[.pointer (some ⟨1, 35, none⟩)]))
theorem ErrT.below {w w' : World} (h : ErrT w) (hb : Below w.heap.size w w') : ErrT w' := cell_later hb h

/-! Closed facts on the model's entries for internal/reflectlite: PP: **place, P: *place, NP: *Errno, N: Errno. -/
@[go_sem] theorem valueOfPP (t : Addr) (w : World) : (ReflectliteValue.unpack (.iface 102 (.pointer (some t)))).run Tryz.prog w
    = .ok (.agg #[.pointer (some ⟨1, 102, none⟩), .pointer (some ⟨w.heap.size, 0, none⟩), .int .u64 150]) (w.alloc (.cells #[.pointer (some t)] 102)) := by kernel_rfl
@[go_sem] theorem typePP (a : Addr) (w : World) : (ReflectliteValue.methodAny (ReflectliteValue.valueError "reflectlite.Value.Type" 0) (fun t _ _ _ => ReflectliteType.toType t) #[.agg #[.pointer (some ⟨1, 102, none⟩), .pointer (some a), .int .u64 150]]).run Tryz.prog w
    = .ok (.iface 187 (.agg #[.pointer (some ⟨1, 102, none⟩)])) w := by kernel_rfl
theorem partsPP (a : Addr) (w : World) : (ReflectliteValue.parts (.agg #[.pointer (some ⟨1, 102, none⟩), .pointer (some a), .int .u64 150])).run Tryz.prog w = .ok (some (102, a, 150)) w := by kernel_rfl
@[go_sem] theorem valueOfNP (t : Addr) (w : World) : (ReflectliteValue.unpack (.iface 88 (.pointer (some t)))).run Tryz.prog w
    = .ok (.agg #[.pointer (some ⟨1, 88, none⟩), .pointer (some ⟨w.heap.size, 0, none⟩), .int .u64 150]) (w.alloc (.cells #[.pointer (some t)] 88)) := by kernel_rfl
@[go_sem] theorem typeNP (a : Addr) (w : World) : (ReflectliteValue.methodAny (ReflectliteValue.valueError "reflectlite.Value.Type" 0) (fun t _ _ _ => ReflectliteType.toType t) #[.agg #[.pointer (some ⟨1, 88, none⟩), .pointer (some a), .int .u64 150]]).run Tryz.prog w
    = .ok (.iface 187 (.agg #[.pointer (some ⟨1, 88, none⟩)])) w := by kernel_rfl
theorem partsNP (a : Addr) (w : World) : (ReflectliteValue.parts (.agg #[.pointer (some ⟨1, 88, none⟩), .pointer (some a), .int .u64 150])).run Tryz.prog w = .ok (some (88, a, 150)) w := by kernel_rfl
@[go_sem] theorem kindOfPP (w : World) : ((ReflectliteType.abiMethod fun t => Functor.map (fun a : Nat => Value.int IntKind.u8 (a : Int)) (Rtype.kind t)) #[.pointer (some ⟨1, 102, none⟩)]).run Tryz.prog w = .ok (.int .u8 22) w := by kernel_rfl
@[go_sem] theorem kindOfP (w : World) : ((ReflectliteType.abiMethod fun t => Functor.map (fun a : Nat => Value.int IntKind.u8 (a : Int)) (Rtype.kind t)) #[.pointer (some ⟨1, 101, none⟩)]).run Tryz.prog w = .ok (.int .u8 22) w := by kernel_rfl
@[go_sem] theorem kindOfNP (w : World) : ((ReflectliteType.abiMethod fun t => Functor.map (fun a : Nat => Value.int IntKind.u8 (a : Int)) (Rtype.kind t)) #[.pointer (some ⟨1, 88, none⟩)]).run Tryz.prog w = .ok (.int .u8 22) w := by kernel_rfl
@[go_sem] theorem kindOfN (w : World) : ((ReflectliteType.abiMethod fun t => Functor.map (fun a : Nat => Value.int IntKind.u8 (a : Int)) (Rtype.kind t)) #[.pointer (some ⟨1, 48, none⟩)]).run Tryz.prog w = .ok (.int .u8 2) w := by kernel_rfl
@[go_sem] theorem elemOfPP (w : World) : (ReflectliteType.method ReflectliteType.elem #[.agg #[.pointer (some ⟨1, 102, none⟩)]]).run Tryz.prog w = .ok (.iface 187 (.agg #[.pointer (some ⟨1, 101, none⟩)])) w := by kernel_rfl
@[go_sem] theorem elemOfNP (w : World) : (ReflectliteType.method ReflectliteType.elem #[.agg #[.pointer (some ⟨1, 88, none⟩)]]).run Tryz.prog w = .ok (.iface 187 (.agg #[.pointer (some ⟨1, 48, none⟩)])) w := by kernel_rfl
@[go_sem] theorem implementsP (w : World) : (ReflectliteType.relation "Implements" ReflectliteType.implements_ #[.agg #[.pointer (some ⟨1, 101, none⟩)], .iface 187 (.agg #[.pointer (some ⟨1, 35, none⟩)])]).run Tryz.prog w = .ok (.bool true) w := by kernel_rfl
@[go_sem] theorem typeOfP (v : Value) (w : World) : (ReflectliteType.typeOf #[.iface 101 v]).run Tryz.prog w = .ok (.iface 187 (.agg #[.pointer (some ⟨1, 101, none⟩)])) w := by kernel_rfl
@[go_sem] theorem implementsN (w : World) : (ReflectliteType.relation "Implements" ReflectliteType.implements_ #[.agg #[.pointer (some ⟨1, 48, none⟩)], .iface 187 (.agg #[.pointer (some ⟨1, 35, none⟩)])]).run Tryz.prog w = .ok (.bool true) w := by kernel_rfl
@[go_sem] theorem typeOfN (v : Value) (w : World) : (ReflectliteType.typeOf #[.iface 48 v]).run Tryz.prog w = .ok (.iface 187 (.agg #[.pointer (some ⟨1, 48, none⟩)])) w := by kernel_rfl
@[go_sem] theorem assignPP (w : World) : (ReflectliteType.relation "AssignableTo" ReflectliteType.assignableTo #[.agg #[.pointer (some ⟨1, 101, none⟩)], .iface 187 (.agg #[.pointer (some ⟨1, 101, none⟩)])]).run Tryz.prog w = .ok (.bool true) w := by kernel_rfl
@[go_sem] theorem assignPN (w : World) : (ReflectliteType.relation "AssignableTo" ReflectliteType.assignableTo #[.agg #[.pointer (some ⟨1, 101, none⟩)], .iface 187 (.agg #[.pointer (some ⟨1, 48, none⟩)])]).run Tryz.prog w = .ok (.bool false) w := by kernel_rfl
@[go_sem] theorem assignNP (w : World) : (ReflectliteType.relation "AssignableTo" ReflectliteType.assignableTo #[.agg #[.pointer (some ⟨1, 48, none⟩)], .iface 187 (.agg #[.pointer (some ⟨1, 101, none⟩)])]).run Tryz.prog w = .ok (.bool false) w := by kernel_rfl
@[go_sem] theorem assignNN (w : World) : (ReflectliteType.relation "AssignableTo" ReflectliteType.assignableTo #[.agg #[.pointer (some ⟨1, 48, none⟩)], .iface 187 (.agg #[.pointer (some ⟨1, 48, none⟩)])]).run Tryz.prog w = .ok (.bool true) w := by kernel_rfl
@[go_sem] theorem methodKind (h : Value) (w : World) : (Go.method 361 187 (.agg #[h]) "Kind").run Tryz.prog w = .ok (150, h) w := by kernel_rfl
@[go_sem] theorem methodElem (h : Value) (w : World) : (Go.method 361 187 (.agg #[h]) "Elem").run Tryz.prog w = .ok (168, .agg #[h]) w := by kernel_rfl
@[go_sem] theorem methodImplements (h : Value) (w : World) : (Go.method 361 187 (.agg #[h]) "Implements").run Tryz.prog w = .ok (169, .agg #[h]) w := by kernel_rfl
@[go_sem] theorem methodAssignableTo (h : Value) (w : World) : (Go.method 361 187 (.agg #[h]) "AssignableTo").run Tryz.prog w = .ok (166, .agg #[h]) w := by kernel_rfl
@[go_sem] theorem methodComparable (h : Value) (w : World) : (Go.method 361 187 (.agg #[h]) "Comparable").run Tryz.prog w = .ok (167, .agg #[h]) w := by kernel_rfl
theorem rlm (z : Sem Value) (f : TypeId → Addr → Nat → Nat → Sem Value) (v : Value) :
    ReflectliteValue.method z f #[v] = (do match ← ReflectliteValue.parts v with | none => z | some (t, a, fl) => f t a fl (fl % 32)) := rfl
@[go_sem] theorem isNilPP (a p : Addr) (W : World) (ha : W.cell? a = some (.pointer (some p))) :
    (ReflectliteValue.method (ReflectliteValue.valueError "reflectlite.Value.IsNil" 0) ReflectliteValue.isNil #[.agg #[.pointer (some ⟨1, 102, none⟩), .pointer (some a), .int .u64 150]]).run Tryz.prog W = .ok (.bool false) W := by
  rw [rlm]
  simp only [Sem.run_bind, partsPP, Result.andThen]
  simp [ReflectliteValue.isNil, loadVar, isAgg, underlying, Tryz.underlying102, ha, Result.andThen]
@[go_sem] theorem isNilNP (a p : Addr) (W : World) (ha : W.cell? a = some (.pointer (some p))) :
    (ReflectliteValue.method (ReflectliteValue.valueError "reflectlite.Value.IsNil" 0) ReflectliteValue.isNil #[.agg #[.pointer (some ⟨1, 88, none⟩), .pointer (some a), .int .u64 150]]).run Tryz.prog W = .ok (.bool false) W := by
  rw [rlm]
  simp only [Sem.run_bind, partsNP, Result.andThen]
  simp [ReflectliteValue.isNil, loadVar, isAgg, underlying, Tryz.underlying88, ha, Result.andThen]
@[go_sem] theorem extValueOf (args : Array Value) (w : World) : (callFunc 79 args).run Tryz.prog w = ((ReflectliteValue.unpack (args.getD 0 (.tuple #[])) : Sem Value).run Tryz.prog w).andThen fun v w' => .ok (.value v) w' :=
  run_callFunc_extern (e := (fun args => ReflectliteValue.unpack (args.getD 0 (.tuple #[])))) Tryz.func79 (by kernel_rfl) (by kernel_rfl) (by kernel_rfl) (by kernel_rfl) args w
@[go_sem] theorem extType (args : Array Value) (w : World) : (callFunc 80 args).run Tryz.prog w = (((ReflectliteValue.methodAny (ReflectliteValue.valueError "reflectlite.Value.Type" 0) (fun t _ _ _ => ReflectliteType.toType t)) args : Sem Value).run Tryz.prog w).andThen fun v w' => .ok (.value v) w' :=
  run_callFunc_extern (e := (ReflectliteValue.methodAny (ReflectliteValue.valueError "reflectlite.Value.Type" 0) (fun t _ _ _ => ReflectliteType.toType t))) Tryz.func80 (by kernel_rfl) (by kernel_rfl) (by kernel_rfl) (by kernel_rfl) args w
@[go_sem] theorem extIsNil (args : Array Value) (w : World) : (callFunc 81 args).run Tryz.prog w = (((ReflectliteValue.method (ReflectliteValue.valueError "reflectlite.Value.IsNil" 0) ReflectliteValue.isNil) args : Sem Value).run Tryz.prog w).andThen fun v w' => .ok (.value v) w' :=
  run_callFunc_extern (e := (ReflectliteValue.method (ReflectliteValue.valueError "reflectlite.Value.IsNil" 0) ReflectliteValue.isNil)) Tryz.func81 (by kernel_rfl) (by kernel_rfl) (by kernel_rfl) (by kernel_rfl) args w
@[go_sem] theorem extKind (args : Array Value) (w : World) : (callFunc 150 args).run Tryz.prog w = (((ReflectliteType.abiMethod fun t => do pure (.int .u8 (← Rtype.kind t))) args : Sem Value).run Tryz.prog w).andThen fun v w' => .ok (.value v) w' :=
  run_callFunc_extern (e := (ReflectliteType.abiMethod fun t => do pure (.int .u8 (← Rtype.kind t)))) Tryz.func150 (by kernel_rfl) (by kernel_rfl) (by kernel_rfl) (by kernel_rfl) args w
@[go_sem] theorem extElem (args : Array Value) (w : World) : (callFunc 168 args).run Tryz.prog w = (((ReflectliteType.method ReflectliteType.elem) args : Sem Value).run Tryz.prog w).andThen fun v w' => .ok (.value v) w' :=
  run_callFunc_extern (e := (ReflectliteType.method ReflectliteType.elem)) Tryz.func168 (by kernel_rfl) (by kernel_rfl) (by kernel_rfl) (by kernel_rfl) args w
@[go_sem] theorem extImplements (args : Array Value) (w : World) : (callFunc 169 args).run Tryz.prog w = (((ReflectliteType.relation "Implements" ReflectliteType.implements_) args : Sem Value).run Tryz.prog w).andThen fun v w' => .ok (.value v) w' :=
  run_callFunc_extern (e := (ReflectliteType.relation "Implements" ReflectliteType.implements_)) Tryz.func169 (by kernel_rfl) (by kernel_rfl) (by kernel_rfl) (by kernel_rfl) args w
@[go_sem] theorem extTypeOf (args : Array Value) (w : World) : (callFunc 85 args).run Tryz.prog w = ((ReflectliteType.typeOf args : Sem Value).run Tryz.prog w).andThen fun v w' => .ok (.value v) w' :=
  run_callFunc_extern (e := ReflectliteType.typeOf) Tryz.func85 (by kernel_rfl) (by kernel_rfl) (by kernel_rfl) (by kernel_rfl) args w
@[go_sem] theorem extAssignableTo (args : Array Value) (w : World) : (callFunc 166 args).run Tryz.prog w = (((ReflectliteType.relation "AssignableTo" ReflectliteType.assignableTo) args : Sem Value).run Tryz.prog w).andThen fun v w' => .ok (.value v) w' :=
  run_callFunc_extern (e := (ReflectliteType.relation "AssignableTo" ReflectliteType.assignableTo)) Tryz.func166 (by kernel_rfl) (by kernel_rfl) (by kernel_rfl) (by kernel_rfl) args w
@[go_sem] theorem extVElem (args : Array Value) (w : World) : (callFunc 107 args).run Tryz.prog w = (((ReflectliteValue.method (ReflectliteValue.valueError "reflectlite.Value.Elem" 0) ReflectliteValue.elem) args : Sem Value).run Tryz.prog w).andThen fun v w' => .ok (.value v) w' :=
  run_callFunc_extern (e := (ReflectliteValue.method (ReflectliteValue.valueError "reflectlite.Value.Elem" 0) ReflectliteValue.elem)) Tryz.func107 (by kernel_rfl) (by kernel_rfl) (by kernel_rfl) (by kernel_rfl) args w
@[go_sem] theorem extSet (args : Array Value) (w : World) : (callFunc 108 args).run Tryz.prog w = ((ReflectliteValue.set args : Sem Value).run Tryz.prog w).andThen fun v w' => .ok (.value v) w' :=
  run_callFunc_extern (e := ReflectliteValue.set) Tryz.func108 (by kernel_rfl) (by kernel_rfl) (by kernel_rfl) (by kernel_rfl) args w
@[go_sem] theorem assertsPAs (v : Value) (w : World) : (Instr.typeAssert (.iface 101 v) 35 191 true).run Tryz.prog w = .ok (.tuple #[.nilIface, .bool false]) w := run_typeAssert_lacksB Tryz.underlying191 (by kernel_rfl) (by kernel_rfl) ..
@[go_sem] theorem assertsPUn (v : Value) (w : World) : (Instr.typeAssert (.iface 101 v) 35 194 true).run Tryz.prog w = .ok (.tuple #[.iface 101 v, .bool true]) w := run_typeAssert_hasB Tryz.underlying194 (by kernel_rfl) ..
@[go_sem] theorem assertsPUns (v : Value) (w : World) : (Instr.typeAssert (.iface 101 v) 35 196 true).run Tryz.prog w = .ok (.tuple #[.nilIface, .bool false]) w := run_typeAssert_lacksB Tryz.underlying196 (by kernel_rfl) (by kernel_rfl) ..
@[go_sem] theorem assertsPIs (v : Value) (w : World) : (Instr.typeAssert (.iface 101 v) 35 199 true).run Tryz.prog w = .ok (.tuple #[.nilIface, .bool false]) w := run_typeAssert_lacksB Tryz.underlying199 (by kernel_rfl) (by kernel_rfl) ..
@[go_sem] theorem assertsNAs (v : Value) (w : World) : (Instr.typeAssert (.iface 48 v) 35 191 true).run Tryz.prog w = .ok (.tuple #[.nilIface, .bool false]) w := run_typeAssert_lacksB Tryz.underlying191 (by kernel_rfl) (by kernel_rfl) ..
@[go_sem] theorem assertsNUn (v : Value) (w : World) : (Instr.typeAssert (.iface 48 v) 35 194 true).run Tryz.prog w = .ok (.tuple #[.nilIface, .bool false]) w := run_typeAssert_lacksB Tryz.underlying194 (by kernel_rfl) (by kernel_rfl) ..
@[go_sem] theorem assertsNUns (v : Value) (w : World) : (Instr.typeAssert (.iface 48 v) 35 196 true).run Tryz.prog w = .ok (.tuple #[.nilIface, .bool false]) w := run_typeAssert_lacksB Tryz.underlying196 (by kernel_rfl) (by kernel_rfl) ..
@[go_sem] theorem assertsNIs (v : Value) (w : World) : (Instr.typeAssert (.iface 48 v) 35 199 true).run Tryz.prog w = .ok (.tuple #[.nilIface, .bool false]) w := run_typeAssert_lacksB Tryz.underlying199 (by kernel_rfl) (by kernel_rfl) ..
@[go_sem] theorem methodUnwrap (h : Value) (w : World) : (Go.method 361 101 h "Unwrap").run Tryz.prog w = .ok (156, h) w := by kernel_rfl
end Go.Proofs.YtjbhgimhcjcpmaaGreatDoor

/-
  THE CONTRACTS of package fault: Wrap, Is, Code, over errors that are an Errno or one place round an Errno; Go's own errors.As and errors.Is are walked.
-/
namespace Go.Proofs.YtjbhgimhcjcpmaaGreatDoor
open Go.RowKit Go.Extern.Stop Go.Stop Go.Extern

theorem lt_of_cell {w : World} {a : Addr} {v : Value} (h : w.cell? a = some v) : a.block < w.heap.size := by
  rcases Nat.lt_or_ge a.block w.heap.size with h1 | h1
  · exact h1
  · simp [World.cell?, Array.getElem?_eq_none h1] at h

set_option maxHeartbeats 1000000 in
set_option maxRecDepth 100000 in
theorem as_place_errno (code : Int) (t : Addr) (w : World) (hE : ErrT w) (_ht : w.cell? t = some (.pointer none)) :
    Calls Tryz.prog 41 #[.iface 48 (.int .i64 code), .iface 102 (.pointer (some t))] w fun e w' => e = .returned (.bool false) ∧ Below w.heap.size w w' := by
  unfold ErrT at hE
  have hlt : 0 < w.heap.size := lt_of_cell hE
  go_enter Tryz.func41, Tryz.ntmps41
  go_wp2
  refine wp_loop_rounds 1 ?_
  rw [rounds_succ]
  go_wp2
  go_ret
  exact ⟨rfl, by repeat (first | exact Below.refl _ _ | refine Below.alloc ?_ (by first | simp; done | (simp; omega)) _)⟩

/-- An error value: an Errno, in places (the outmost first). -/
def IsErr (B : Nat) (w : World) : List (ByteArray × Int) → Int → Value → Prop
  | [], code, v => v = .iface 48 (.int .i64 code)
  | (name, at_) :: l, code, v => ∃ b e, v = .iface 101 (.pointer (some ⟨b, 0, none⟩)) ∧ b < B ∧
      w.heap[b]? = some (.cells #[.string name, .int .i64 at_, .int .i64 (l.length + 1 : Nat), e] 104 (0, 0)) ∧ IsErr B w l code e

theorem IsErr.later {B B' : Nat} {w w' : World} (hb : Below B w w') (hB : B ≤ B') : ∀ {l : List (ByteArray × Int)} {code : Int} {v : Value}, IsErr B w l code v → IsErr B' w' l code v
  | [], _, _, h => h
  | (_, _) :: _, _, _, ⟨b, e, hv, hlt, hh, hr⟩ => ⟨b, e, hv, by omega, (hb.block b hlt).trans hh, hr.later hb hB⟩

set_option maxHeartbeats 1000000 in
set_option maxRecDepth 100000 in
theorem wrap_errno (name : ByteArray) (code at_ : Int) (w : World) (hE : ErrT w) :
    Calls Tryz.prog 27 #[.iface 48 (.int .i64 code), .string name, .int .i64 at_] w fun e w' => ∃ v, e = .returned v ∧ IsErr w'.heap.size w' [(name, at_)] code v ∧ Below w.heap.size w w' := by
  go_enter Tryz.func27, Tryz.ntmps27
  go_wp2_with fail
  refine (as_place_errno _ _ _ (hE.below ((Below.refl _ _).alloc (Nat.le_refl _) _)) (by simp)).mono ?_
  rintro e w1 ⟨rfl, hb1⟩
  have hsz := hb1.size
  simp only [World.size_alloc] at hsz
  have hb : Below w.heap.size w w1 := ((Below.refl _ _).alloc (Nat.le_refl _) _).trans (hb1.mono (by simp))
  go_wp2
  go_ret
  exact ⟨_, rfl, ⟨_, _, rfl, by simp, heap_alloc_new _ _, rfl⟩, hb.alloc (by omega) _⟩
end Go.Proofs.YtjbhgimhcjcpmaaGreatDoor

/-
  THE CONTRACT of fault.Is over an Errno in places.
-/
namespace Go.Proofs.YtjbhgimhcjcpmaaGreatDoor
open Go.RowKit Go.Extern.Stop Go.Stop Go.Extern

theorem IsErr.form {B : Nat} {w : World} : ∀ {l : List (ByteArray × Int)} {code : Int} {v : Value}, IsErr B w l code v → ∃ T x, v = .iface T x
  | [], _, _, h => ⟨_, _, h⟩
  | (_, _) :: _, _, _, ⟨_, _, hv, _⟩ => ⟨_, _, hv⟩

theorem run_equalIn_errno (d : Nat) (a b : Int) (w : World) :
    (Op.equalIn (d + 2) 35 (.iface 48 (.int .i64 a)) (.iface 48 (.int .i64 b))).run Tryz.prog w = .ok (a == b) w := by
  obtain ⟨i, hi, hc⟩ : ∃ i, Tryz.prog.info? 48 = some i ∧ i.comparable = true := by
    have : (Tryz.prog.info? 48).map (·.comparable) = some true := by kernel_rfl
    simpa using this
  simp [Op.equalIn, run_underlying Tryz.underlying35, run_underlying Tryz.underlying48, typeInfo, hi, hc]
@[go_sem] theorem eql_errno (a b : Int) (w : World) :
    (binOp .eql 35 (.iface 48 (.int .i64 a)) (.iface 48 (.int .i64 b))).run Tryz.prog w = .ok (.bool (a == b)) w := by
  simp only [binOp]
  simp [Op.equal, Op.maxDepth, run_equalIn_errno 9998 a b w]
@[go_sem] theorem eql_place_errno (a : Value) (b : Value) (w : World) :
    (binOp .eql 35 (.iface 101 a) (.iface 48 b)).run Tryz.prog w = .ok (.bool false) w := run_eql_iface_types _ _ _ _ Tryz.underlying35 (by decide) w
@[go_sem] theorem extComparable (args : Array Value) (w : World) : (callFunc 167 args).run Tryz.prog w = (((ReflectliteType.method fun t => do Rtype.noPackHeld "Comparable" t; pure (.bool (← typeInfo t).comparable)) args : Sem Value).run Tryz.prog w).andThen fun v w' => .ok (.value v) w' :=
  run_callFunc_extern (e := (ReflectliteType.method fun t => do Rtype.noPackHeld "Comparable" t; pure (.bool (← typeInfo t).comparable))) Tryz.func167 (by kernel_rfl) (by kernel_rfl) (by kernel_rfl) (by kernel_rfl) args w
@[go_sem] theorem comparableN (w : World) : ((ReflectliteType.method fun t => do Rtype.noPackHeld "Comparable" t; Functor.map (fun a => Value.bool a.comparable) (typeInfo t)) #[.agg #[.pointer (some ⟨1, 48, none⟩)]]).run Tryz.prog w = .ok (.bool true) w := by kernel_rfl

set_option maxHeartbeats 1000000 in
set_option maxRecDepth 100000 in
theorem is_any (l : List (ByteArray × Int)) (code want : Int) (v : Value) (w : World) (B : Nat) (hv : IsErr B w l code v) :
    Calls Tryz.prog 86 #[v, .iface 48 (.int .i64 want), .bool true] w fun e w' => e = .returned (.bool (code == want)) ∧ w = w' := by
  go_enter Tryz.func86, Tryz.ntmps86
  go_wp2
  go_loopg [0] l.length (fun g x wr => w = wr ∧ ∃ l', l'.length = g ∧ IsErr B w l' code x)
  case atStart => exact ⟨rfl, l, rfl, hv⟩
  case round =>
    obtain ⟨rfl, l', hl, he⟩ := hrel
    match l', he with
    | [], he =>
      unfold IsErr at he
      subst he
      by_cases hc : code = want
      · have hc' : (code == want) = true := by simpa using hc
        clear hc
        go_wp2
        go_ret
        exact ⟨by rw [hc']; rfl, rfl⟩
      · have hc' : (code == want) = false := by simpa using hc
        clear hc
        go_wp2
        go_ret
        exact ⟨by rw [hc']; rfl, rfl⟩
    | (name, at_) :: l', he =>
      obtain ⟨b, e, rfl, hlt, hh, hr⟩ := he
      obtain ⟨T, x, rfl⟩ := hr.form
      have hc3 : w.cell? ⟨b, 3, none⟩ = some (.iface T x) := by simp [World.cell?, hh]
      have HR := Lib.hid hr
      simp only [List.length_cons] at hl
      have HL := Lib.hid hl
      clear hh hr hl
      go_wp2
      go_roundg l'.length
      case measure => have := HL.out; omega
      case rel => exact ⟨rfl, l', rfl, HR.out⟩

set_option maxHeartbeats 1000000 in
set_option maxRecDepth 100000 in
theorem Is_any (l : List (ByteArray × Int)) (code want : Int) (v : Value) (w : World) (B : Nat) (hv : IsErr B w l code v) :
    Calls Tryz.prog 17 #[v, .int .i64 want] w fun e w' => e = .returned (.bool (code == want)) ∧ w = w' := by
  have HV := Lib.hid hv
  obtain ⟨T, x, rfl⟩ := hv.form
  clear hv
  go_enter Tryz.func17, Tryz.ntmps17
  go_wp2_with (first | (go_at_call 86; refine (is_any l code want _ _ B HV.out).mono ?_; rintro e w' ⟨rfl, rfl⟩) | go_in)
  go_ret
  exact ⟨rfl, rfl⟩
theorem Is_nil (want : Int) (w : World) :
    Calls Tryz.prog 17 #[.nilIface, .int .i64 want] w fun e w' => e = .returned (.bool false) ∧ w = w' := by
  go_enter Tryz.func17, Tryz.ntmps17
  go_wp2
  go_ret
  exact ⟨rfl, rfl⟩
end Go.Proofs.YtjbhgimhcjcpmaaGreatDoor
