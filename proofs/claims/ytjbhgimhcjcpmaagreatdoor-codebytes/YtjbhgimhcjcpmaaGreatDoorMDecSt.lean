/-
  WORDS for code.Decode: the plan that is being made, the error, the cutter; and what stands of the plan.
-/
import Derived.Test.YtjbhgimhcjcpmaaGreatDoorMCutOp
import Derived.Test.YtjbhgimhcjcpmaaGreatDoorMFaultFacts
import Derived.Test.YtjbhgimhcjcpmaaGreatDoorMCircTop
import Derived.Tactics
import Derived.Tactics2
import Derived.Defers
import Derived.Recover
import Derived.Laws.Pointers
set_option linter.unusedSimpArgs false
set_option linter.unusedVariables false
namespace Go.Proofs.YtjbhgimhcjcpmaaGreatDoor
open Go.RowKit

def need00 : MNeed := ⟨0, 0, 0, 0, 0, 0, 0, 0⟩
def plan0 : MPlan := ⟨[], 0, 0, [], 0, need00, [], [], []⟩
def nilV : Value := .slice none 0 0
def pv0 : PVals := ⟨.slice none 0 0, .slice none 0 0, .slice none 0 0, .slice none 0 0, .slice none 0 0⟩

/-- The lists of a plan, in memory of one's own. -/
structure PlanOwn (B : Nat) (W : World) (p : MPlan) (v : PVals) : Prop where
  ops : W.ownsRow B 44 6 v.ops p.ops.length (ocells p.ops)
  slots : W.ownsRow B 3 1 v.slots p.slots.length (ints p.slots)
  shapes : OwnSh B W v.shapes p.shapes
  in0 : OwnSh B W v.in0 p.in0
  in1 : OwnSh B W v.in1 p.in1
theorem PlanOwn.kept {B : Nat} {W W' : World} {p : MPlan} {v : PVals} {row : Option Nat} (h : PlanOwn B W p v) (hg : W.grownBy W' row) (h1 : Off W B 44 row) (h2 : Off W B 3 row) (h3 : Off W B 24 row) : PlanOwn B W' p v :=
  ⟨own_off h.ops hg h1, own_off h.slots hg h2, h.shapes.kept hg h3 h2, h.in0.kept hg h3 h2, h.in1.kept hg h3 h2⟩
theorem PlanOwn.zero (B : Nat) (W : World) : PlanOwn B W plan0 pv0 := ⟨World.ownsRow_nil _ _ _ _, World.ownsRow_nil _ _ _ _, OwnSh.nil _ _, OwnSh.nil _ _, OwnSh.nil _ _⟩
theorem PlanOwn.base {B B' : Nat} {W : World} {p : MPlan} {v : PVals} (h : PlanOwn B W p v) (hB : B' ≤ B) : PlanOwn B' W p v := ⟨owns_base h.ops hB, owns_base h.slots hB, h.shapes.base hB, h.in0.base hB, h.in1.base hB⟩
theorem PlanOwn.at {B : Nat} {W : World} {p : MPlan} {v : PVals} (h : PlanOwn B W p v) (l1 : p.ops.length ≤ 1000000) (l3 : p.shapes.length ≤ 1000000000) (l4 : p.in0.length ≤ 1000000000) (l5 : p.in1.length ≤ 1000000000) (hc : ∀ o ∈ p.ops, o.c < 18446744073709551616) : PlanAt W.heap.size W p v :=
  ⟨Arr.of_owns h.ops, by have := Arr.of_owns h.slots; exact this, h.shapes.sh, h.in0.sh, h.in1.sh, l1, l3, l4, l5, hc⟩

/-- The call's own blocks: the plan (16 cells), the error. -/
structure DSt (w : World) (p : MPlan) (v : PVals) (W : World) : Prop where
  plan : W.heap[w.heap.size]? = some (.cells (planArr p v) 30 (0, 0))
  err : W.heap[w.heap.size + 1]? = some (.cells #[.nilIface] 35 (0, 0))
  below : Below w.heap.size w W
  own : PlanOwn w.heap.size W p v
theorem DSt.kept {w : World} {p : MPlan} {v : PVals} {W W' : World} {row : Option Nat} (h : DSt w p v W) (hg : W.grownBy W' row) (hr : ∀ k, row = some k → w.heap.size + 1 < k) (h1 : Off W w.heap.size 44 row) (h2 : Off W w.heap.size 3 row) (h3 : Off W w.heap.size 24 row) : DSt w p v W' :=
  ⟨(hg.block _ (lt_of_block h.plan) (fun e => by have := hr _ e.symm; omega)).trans h.plan, (hg.block _ (lt_of_block h.err) (fun e => by have := hr _ e.symm; omega)).trans h.err,
   h.below.grown hg h.below.size (fun k hk => by have := hr k hk; omega), h.own.kept hg h1 h2 h3⟩
theorem DSt.later {w : World} {p : MPlan} {v : PVals} {W W' : World} (h : DSt w p v W) (hb : Below W.heap.size W W') : DSt w p v W' :=
  h.kept (below_off hb) (fun _ hk => by cases hk) (Off.none _ _ _) (Off.none _ _ _) (Off.none _ _ _)
theorem DSt.cutter {w : World} {p : MPlan} {v : PVals} {W W' : World} {Bc : Nat} {bs : List Nat} (h : DSt w p v W) (hc : Cut w Bc bs W) (hl : w.heap.size + 1 < Bc) (hg : W.grownBy W' (some Bc)) : DSt w p v W' :=
  h.kept hg (fun k hk => by obtain rfl : Bc = k := by simpa using hk
                            exact hl) (hc.off _ (by decide)) (hc.off _ (by decide)) (hc.off _ (by decide))
/-- Its plan's block is written to. -/
theorem DSt.put {w : World} {p p' : MPlan} {v v' : PVals} {W W' : World} (h : DSt w p v W) (hg : W.grownBy W' (some w.heap.size)) (hp : W'.heap[w.heap.size]? = some (.cells (planArr p' v') 30 (0, 0))) (ho : PlanOwn w.heap.size W p' v') : DSt w p' v' W' :=
  ⟨hp, (hg.block _ (lt_of_block h.err) (by simp)).trans h.err, h.below.grown hg h.below.size (fun k hk => by simp at hk; omega),
   ho.kept hg (Off.block h.plan (by decide)) (Off.block h.plan (by decide)) (Off.block h.plan (by decide))⟩
theorem DSt.set1 {w : World} {p p' : MPlan} {v v' : PVals} {W : World} (h : DSt w p v W) (j : Nat) (x : Value) (ha : (planArr p v).setIfInBounds j x = planArr p' v') (ho : PlanOwn w.heap.size W p' v') : DSt w p' v' (W.setCell ⟨w.heap.size, j, none⟩ x) :=
  h.put (grown_set _ _ _ _) (by rw [heap_setCell h.plan, ha]) ho
theorem DSt.set2 {w : World} {p p' : MPlan} {v v' : PVals} {W : World} (h : DSt w p v W) (i j : Nat) (x y : Value) (ha : ((planArr p v).setIfInBounds i x).setIfInBounds j y = planArr p' v') (ho : PlanOwn w.heap.size W p' v') : DSt w p' v' ((W.setCell ⟨w.heap.size, i, none⟩ x).setCell ⟨w.heap.size, j, none⟩ y) :=
  h.put ((grown_set W w.heap.size i x).trans (grown_set _ _ _ _)) (by rw [heap_setCell (heap_setCell h.plan _), ha]) ho
theorem Cut.set_other {w : World} {Bc : Nat} {bs : List Nat} {W : World} (h : Cut w Bc bs W) (b j : Nat) (x : Value) (hb : w.heap.size ≤ b) (hne : b ≠ Bc) : Cut w Bc bs (W.setCell ⟨b, j, none⟩ x) :=
  h.kept (grown_set _ _ _ _) fun k hk => by obtain rfl : b = k := by simpa using hk
                                            exact ⟨hb, hne⟩
theorem DSt.free {w : World} {p : MPlan} {v : PVals} {W : World} (h : DSt w p v W) (j : Nat) : W.frozen? ⟨w.heap.size, j, none⟩ = false := by simp [World.frozen?, h.plan]

/-- .. with the cutter. -/
structure DC (w : World) (p : MPlan) (v : PVals) (Bc : Nat) (bs : List Nat) (W : World) : Prop where
  d : DSt w p v W
  c : Cut w Bc bs W
  lt : w.heap.size + 1 < Bc
theorem DC.step {w : World} {p : MPlan} {v : PVals} {Bc : Nat} {bs r : List Nat} {W W' : World} (h : DC w p v Bc bs W) (hc : Cut w Bc r W') (hg : W.grownBy W' (some Bc)) : DC w p v Bc r W' := ⟨h.d.cutter h.c h.lt hg, hc, h.lt⟩
theorem DC.fail {w : World} {p : MPlan} {v : PVals} {Bc : Nat} {bs : List Nat} {W W' : World} (h : DC w p v Bc bs W) (hg : W.grownBy W' (some Bc)) : DSt w p v W' := h.d.cutter h.c h.lt hg
theorem DC.later {w : World} {p : MPlan} {v : PVals} {Bc : Nat} {bs : List Nat} {W W' : World} (h : DC w p v Bc bs W) (hb : Below W.heap.size W W') : DC w p v Bc bs W' := ⟨h.d.later hb, h.c.later hb, h.lt⟩
theorem DC.set1 {w : World} {p p' : MPlan} {v v' : PVals} {Bc : Nat} {bs : List Nat} {W : World} (h : DC w p v Bc bs W) (j : Nat) (x : Value) (ha : (planArr p v).setIfInBounds j x = planArr p' v') (ho : PlanOwn w.heap.size W p' v') : DC w p' v' Bc bs (W.setCell ⟨w.heap.size, j, none⟩ x) :=
  ⟨h.d.set1 j x ha ho, h.c.set_other _ _ _ (Nat.le_refl _) (by have := h.lt; omega), h.lt⟩
theorem DC.set2 {w : World} {p p' : MPlan} {v v' : PVals} {Bc : Nat} {bs : List Nat} {W : World} (h : DC w p v Bc bs W) (i j : Nat) (x y : Value) (ha : ((planArr p v).setIfInBounds i x).setIfInBounds j y = planArr p' v') (ho : PlanOwn w.heap.size W p' v') : DC w p' v' Bc bs ((W.setCell ⟨w.heap.size, i, none⟩ x).setCell ⟨w.heap.size, j, none⟩ y) :=
  ⟨h.d.set2 i j x y ha ho, (h.c.set_other _ _ _ (Nat.le_refl _) (by have := h.lt; omega)).set_other _ _ _ (Nat.le_refl _) (by have := h.lt; omega), h.lt⟩

/-- An operation more is appended to its list and stored. -/
theorem DC.append {w : World} {p : MPlan} {v : PVals} {Bc : Nat} {bs : List Nat} {W W' : World} (h : DC w p v Bc bs W) (hg : W.grownBy W' v.ops.ownBlock) {o : MOp} {x : Value} (ho : W'.ownsRow w.heap.size 44 6 x (p.ops.length + 1) (ocells p.ops ++ o.arr.toList)) :
    DC w ⟨p.ops ++ [o], p.e0, p.e1, p.slots, p.arena, p.need, p.shapes, p.in0, p.in1⟩ ⟨x, v.slots, v.shapes, v.in0, v.in1⟩ Bc bs (W'.setCell ⟨w.heap.size, 0, none⟩ x) ∧ W'.cell? ⟨w.heap.size, 0, none⟩ = some v.ops ∧ W'.frozen? ⟨w.heap.size, 0, none⟩ = false := by
  have hp : W'.heap[w.heap.size]? = some (.cells (planArr p v) 30 (0, 0)) := (hg.block _ (lt_of_block h.d.plan) (Ne.symm (own_ne h.d.own.ops h.d.plan (by decide)))).trans h.d.plan
  have he : W'.heap[w.heap.size + 1]? = some (.cells #[.nilIface] 35 (0, 0)) := (hg.block _ (lt_of_block h.d.err) (Ne.symm (own_ne h.d.own.ops h.d.err (by decide)))).trans h.d.err
  have hown : PlanOwn w.heap.size W' ⟨p.ops ++ [o], p.e0, p.e1, p.slots, p.arena, p.need, p.shapes, p.in0, p.in1⟩ ⟨x, v.slots, v.shapes, v.in0, v.in1⟩ :=
    ⟨by simpa [ocells, MOp.arr] using ho, own_off h.d.own.slots hg (Off.owned h.d.own.ops (by decide)), h.d.own.shapes.kept hg (Off.owned h.d.own.ops (by decide)) (Off.owned h.d.own.ops (by decide)), h.d.own.in0.kept hg (Off.owned h.d.own.ops (by decide)) (Off.owned h.d.own.ops (by decide)), h.d.own.in1.kept hg (Off.owned h.d.own.ops (by decide)) (Off.owned h.d.own.ops (by decide))⟩
  have hc : Cut w Bc bs W' := h.c.kept_own h.d.own.ops (Nat.le_refl _) (by decide) hg
  have hb : Below w.heap.size w W' := h.d.below.grown hg h.d.below.size fun k hk => (h.d.own.ops.lt k hk).1
  refine ⟨⟨⟨by rw [heap_setCell hp]; rfl, (heap_setCell_other' (by omega) _).trans he, hb.setCell (p := ⟨w.heap.size, 0, none⟩) (Nat.le_refl _) _, ?_⟩, hc.set_other _ _ _ (Nat.le_refl _) (by have := h.lt; omega), h.lt⟩, by simp [World.cell?, hp, planArr], by simp [World.frozen?, hp]⟩
  exact hown.kept (grown_set W' w.heap.size 0 x) (Off.block hp (by decide)) (Off.block hp (by decide)) (Off.block hp (by decide))
theorem DC.put {w : World} {p p' : MPlan} {v v' : PVals} {Bc : Nat} {bs : List Nat} {W W' : World} (h : DC w p v Bc bs W) (hg : W.grownBy W' (some w.heap.size)) (hp : W'.heap[w.heap.size]? = some (.cells (planArr p' v') 30 (0, 0))) (ho : PlanOwn w.heap.size W p' v') : DC w p' v' Bc bs W' :=
  ⟨h.d.put hg hp ho, h.c.kept hg (row_ne (Nat.le_refl _) (by have := h.lt; omega)), h.lt⟩
/-- The last stores: the plan onto itself, no error. -/
theorem DSt.last {w : World} {p : MPlan} {v : PVals} {W : World} (h : DSt w p v W) : DSt w p v ((W.setRow w.heap.size (planArr p v)).setCell ⟨w.heap.size + 1, 0, none⟩ .nilIface) ∧ (W.setRow w.heap.size (planArr p v)).cell? ⟨w.heap.size + 1, 0, none⟩ = some .nilIface ∧ (W.setRow w.heap.size (planArr p v)).frozen? ⟨w.heap.size + 1, 0, none⟩ = false := by
  have h1 : DSt w p v (W.setRow w.heap.size (planArr p v)) := h.put (grown_setRow _ _ _) (setRow_heap _ _ _ _ _ _ h.plan) h.own
  have hg := grown_set (W.setRow w.heap.size (planArr p v)) (w.heap.size + 1) 0 .nilIface
  refine ⟨⟨(heap_setCell_other' (by omega) _).trans h1.plan, by rw [heap_setCell h1.err]; rfl, h1.below.setCell (p := ⟨w.heap.size + 1, 0, none⟩) (Nat.le_succ _) _, h1.own.kept hg (Off.block h1.err (by decide)) (Off.block h1.err (by decide)) (Off.block h1.err (by decide))⟩, by simp [World.cell?, h1.err], by simp [World.frozen?, h1.err]⟩

theorem pOp_c {bs r : List Nat} {o : MOp} (h : pOp bs = some (o, r)) (hb : ∀ x ∈ bs, x < 256) : o.c < 18446744073709551616 := by
  unfold pOp at h
  have sub : ∀ {l r : List Nat} {n : Nat}, pNum l = some (n, r) → (∀ x ∈ l, x < 256) → ∀ x ∈ r, x < 256 := fun h hl x hx => by
    obtain ⟨s, _, _, _, rfl, _⟩ := pNum_some h; exact hl x (List.mem_of_mem_drop hx)
  rcases h1 : pNum bs with _ | ⟨n1, r1⟩
  · rw [h1] at h; cases h
  rw [h1, Option.bind_some] at h
  simp only at h
  rcases h2 : pNum r1 with _ | ⟨n2, r2⟩
  · rw [h2] at h; cases h
  rw [h2, Option.bind_some] at h
  simp only at h
  rcases h3 : pNum r2 with _ | ⟨n3, r3⟩
  · rw [h3] at h; cases h
  rw [h3, Option.bind_some] at h
  simp only at h
  rcases h4 : pNum r3 with _ | ⟨n4, r4⟩
  · rw [h4] at h; cases h
  rw [h4, Option.bind_some] at h
  simp only at h
  rcases h5 : pNum r4 with _ | ⟨n5, r5⟩
  · rw [h5] at h; cases h
  rw [h5, Option.bind_some] at h
  simp only at h
  split at h
  · cases h
  · simp only [Option.some.injEq, Prod.mk.injEq] at h
    obtain ⟨rfl, _⟩ := h
    have h6 := sub h5 (sub h4 (sub h3 (sub h2 (sub h1 hb))))
    have h7 := wh8_lt (r5.take 8) fun x hx => h6 x (List.mem_of_mem_take hx)
    rw [List.length_take, Nat.min_eq_left (by omega)] at h7
    have e : (256 : Nat) ^ 8 = 18446744073709551616 := by decide
    simp only; omega
theorem pShapeN_len : ∀ {n : Nat} {bs r : List Nat} {l : List (List Int)}, pShapeN n bs = some (l, r) → l.length = n
  | 0, bs, r, l, h => by
    simp only [pShapeN, Option.some.injEq, Prod.mk.injEq] at h
    obtain ⟨rfl, _⟩ := h; rfl
  | n + 1, bs, r, l, h => by
    rw [pShapeN] at h
    rcases h1 : pShape bs with _ | ⟨s, r1⟩
    · rw [h1] at h; cases h
    rw [h1, Option.bind_some] at h
    simp only at h
    rcases h2 : pShapeN n r1 with _ | ⟨l2, r2⟩
    · rw [h2] at h; cases h
    rw [h2, Option.bind_some] at h
    simp only [Option.some.injEq, Prod.mk.injEq] at h
    obtain ⟨rfl, _⟩ := h
    rw [List.length_cons, pShapeN_len h2]
theorem pShapes_len {bs r : List Nat} {l : List (List Int)} (h : pShapes bs = some (l, r)) : l.length ≤ bs.length := by
  rw [pShapes] at h
  rcases h1 : pCount bs with _ | ⟨n, r1⟩
  · rw [h1] at h; cases h
  rw [h1, Option.bind_some] at h
  simp only at h
  have h2 := pCount_some h1
  obtain ⟨_, _, _, _, _, _, h3⟩ := pNum_some h2.1
  rw [pShapeN_len h]; omega
theorem pOps_none {n m : Nat} {r0 rest : List Nat} {pre : List MOp} (h : pOps n r0 = (pOps (m + 1) rest).map fun y => (pre ++ y.1, y.2)) (hn : pOp rest = none) : pOps n r0 = none := by
  rw [h, pOps, hn]; rfl
theorem pOps_some {n m : Nat} {r0 rest r2 : List Nat} {d : MOp} {pre : List MOp} (h : pOps n r0 = (pOps (m + 1) rest).map fun y => (pre ++ y.1, y.2)) (hn : pOp rest = some (d, r2)) : pOps n r0 = (pOps m r2).map fun y => (pre ++ [d] ++ y.1, y.2) := by
  rw [h, pOps, hn]
  simp only [Option.bind_some]
  rcases pOps m r2 with _ | y
  · rfl
  · simp
theorem info_opz : (Tryz.prog.info? 44).map (fun i => (i.zero, i.size, i.bytes)) = some (some (.agg #[.int .i64 0, .int .i64 0, .int .i64 0, .int .i64 0, .int .u64 0, .int .i64 0]), 6, 48) := by kernel_rfl
end Go.Proofs.YtjbhgimhcjcpmaaGreatDoor

/-
  THE CONTRACTS of the call that code.Decode defers: where it returns, where it panics.
-/
namespace Go.Proofs.YtjbhgimhcjcpmaaGreatDoor
open Go.RowKit

theorem catch_idle (p q : Addr) (w : World) :
    CallsD Tryz.prog 26 #[.pointer (some p), .pointer (some q)] .returning w fun e u' w' => e = .returned (.tuple #[]) ∧ u' = .returning ∧ w' = w := by
  refine callsD_of_wpS Tryz.func26 rfl fun c₀ cs hu => ?_
  simp only [Tryz.ntmps26, List.size_toArray, List.length_cons, List.length_nil, Nat.reduceAdd, Nat.reduceSub, Array.replicate_succ, Array.replicate_zero, List.push_toArray, List.append_toArray, List.nil_append, List.cons_append]
  apply wpS_seq
  apply wpS_region
  simp [wpOpsS, go_sem, recoverD, hu, Exit.thenS]
  refine wpS_of_wp ?_
  go_wp2_with fail
  cases c₀
  simp_all [bodyPostS, results, Tryz.results26]

/-- The zero plan's cells. -/
def zeroPlan : Array Value := #[.slice none 0 0, .int .i64 0, .int .i64 0, .slice none 0 0, .int .i64 0, .int .i64 0, .int .i64 0, .int .i64 0, .int .i64 0, .int .i64 0, .int .i64 0, .int .i64 0, .int .i64 0, .slice none 0 0, .slice none 0 0, .slice none 0 0]
theorem info_plan : (Tryz.prog.info? 30).map (·.size) = some 16 := by kernel_rfl

@[go_sem] theorem assertShort (v : Value) (w : World) : (Instr.typeAssert (.iface 66 v) 20 66 true).run Tryz.prog w = .ok (.tuple #[v, .bool true]) w := by kernel_rfl

set_option maxHeartbeats 1000000 in
set_option maxRecDepth 100000 in
theorem catch_thrown (bp be : Nat) (n : Nat) (w : World) (cs0 : Array Value) (x : Value) (hp : w.heap[bp]? = some (.cells cs0 30 (0, 0))) (hs : cs0.size = 16) (he : w.heap[be]? = some (.cells #[x] 35 (0, 0))) (hne : bp ≠ be) (hE : ErrT w) :
    CallsD Tryz.prog 26 #[.pointer (some ⟨bp, 0, none⟩), .pointer (some ⟨be, 0, none⟩)] (.panicking [{ v := .iface 66 (.agg #[.int .i64 n]), recovered := false }]) w fun e u' w' =>
      e = .returned (.tuple #[]) ∧ u' = .panicking [{ v := .iface 66 (.agg #[.int .i64 n]), recovered := true }] ∧ ∃ u, w'.heap[bp]? = some (.cells zeroPlan 30 (0, 0)) ∧ w'.heap[be]? = some (.cells #[u] 35 (0, 0)) ∧
        (∃ l, IsErr w'.heap.size w' l 180 u) ∧ Below (min bp be) w w' := by
  have HE := Lib.hid hE
  have HP := Lib.hid hp
  have HQ := Lib.hid he
  clear hp he hE
  refine callsD_of_wpS Tryz.func26 rfl fun c₀ cs hu => ?_
  simp only [Tryz.ntmps26, List.size_toArray, List.length_cons, List.length_nil, Nat.reduceAdd, Nat.reduceSub, Array.replicate_succ, Array.replicate_zero, List.push_toArray, List.append_toArray, List.nil_append, List.cons_append]
  apply wpS_seq
  apply wpS_region
  simp [wpOpsS, go_sem, recoverD, hu, Exit.thenS]
  refine wpS_of_wp ?_
  go_wp2_with (first | (go_at_call 27; go_must (refine (wrap_errno _ _ _ _ (HE.out.below ((Below.refl _ _).alloc (Nat.le_refl _) _))).mono ?_; rintro e w1 ⟨v, rfl, hv, hb⟩; obtain ⟨TT, xx, rfl⟩ := hv.form; have hb2 : Below w.heap.size w w1 := ((Below.refl _ _).alloc (Nat.le_refl _) _).trans (hb.mono (by simp)); have HB2 := Lib.hid hb2; have HV := Lib.hid hv; have HP1 := Lib.hid ((hb2.block _ (lt_of_block HP.out)).trans HP.out); have HQ1 := Lib.hid ((hb2.block _ (lt_of_block HQ.out)).trans HQ.out); clear hb hv hb2)) | ((with_reducible show wpList _ _ _ (⟨_, Op.store _ (.tmp 0) _, _, _, _, _⟩ :: _) _ _); go_must (refine wpList_store_row rfl 30 _ _ rfl bp zeroPlan rfl rfl 30 cs0 HP1.out info_plan (by rw [hs]; rfl) (by simp [Value.oneCell', zeroPlan]) ?_; have HQ2 := Lib.hid ((setRow_other w1 bp be zeroPlan (Ne.symm hne)).trans HQ1.out); have HP2 := Lib.hid (setRow_heap w1 bp cs0 zeroPlan _ _ HP1.out); have HB3 := Lib.hid (below_setRow (B := min bp be) (HB2.out.mono (by have := lt_of_block HP.out; omega)) (Nat.min_le_left _ _) zeroPlan); have HZ := Lib.hid (show (w1.setRow bp zeroPlan).heap.size = w1.heap.size by simp); have HK := Lib.hid (fun k (hk : k ≠ bp) => setRow_other w1 bp k zeroPlan hk); generalize w1.setRow bp zeroPlan = W2 at HQ2 HP2 HB3 HZ HK ⊢; have q0 : W2.cell? ⟨be, 0, none⟩ = some x := (by simp [World.cell?, HQ2.out]); have q1 : W2.frozen? ⟨be, 0, none⟩ = false := (by simp [World.frozen?, HQ2.out])))) 
  refine ⟨rfl, _, rfl, .tuple #[], results_none rfl _ _ _, rfl, rfl, (heap_setCell_other' hne _).trans HP2.out, .iface TT xx, by rw [heap_setCell HQ2.out]; rfl, ⟨[(⟨#[98, 121, 116, 101, 115]⟩, (n : Int))], ?_⟩, HB3.out.setCell (p := ⟨be, 0, none⟩) (Nat.min_le_right _ _) _⟩
  obtain ⟨b, e', hv, hlt, hh, hr⟩ := HV.out
  have h1 : b ≠ bp := by
    rintro rfl; have := HP1.out; rw [hh] at this; cases this
  have h2 : b ≠ be := by
    rintro rfl; have := HQ1.out; rw [hh] at this; cases this
  refine ⟨b, e', hv, by rw [World.size_setCell]; rw [HZ.out]; exact hlt, ?_, hr⟩
  rw [heap_setCell_other' h2, HK.out b h1]; exact hh
end Go.Proofs.YtjbhgimhcjcpmaaGreatDoor
