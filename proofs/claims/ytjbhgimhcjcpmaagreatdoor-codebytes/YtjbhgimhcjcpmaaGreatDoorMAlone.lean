/-
  THE CONTRACT of plan.alone.
-/
import Derived.Test.YtjbhgimhcjcpmaaGreatDoorMSort2
set_option linter.unusedSimpArgs false
set_option linter.unusedVariables false
namespace Go.Proofs.YtjbhgimhcjcpmaaGreatDoor
open Go.RowKit

def opC : MOp := ⟨2, 0, 0, 0, 0, 0⟩
def aloneOp (o : MOp) : MOp :=
  if o.kind = 18 ∨ o.kind = 19 then { o with a := 0, k := 0 } else if o.kind = 17 ∧ o.k = 1 then { o with a := 0 } else { o with a := 0, b := 1 }
/-- A program of an operation and constants. -/
def mAlone (o : MOp) : List MOp := if mWantsW o = false then [] else if o.kind = 1 then [o] else [opC, opC, aloneOp o]
def RetOps (l : List MOp) (w : World) (e : Ending) (w' : World) : Prop := ∃ v, e = .returned v ∧ w'.ownsRow w.heap.size 44 6 v l.length (ocells l) ∧ Below w.heap.size w w'

structure ASt (w : World) (o : MOp) (B1 : Nat) (W : World) : Prop where
  op : W.heap[w.heap.size]? = some (.cells o.arr 44 (0, 0))
  x : W.heap[B1]? = some (.cells opC.arr 44 (0, 0))
  y : W.heap[B1 + 1]? = some (.cells opC.arr 44 (0, 0))
  below : Below w.heap.size w W
  lt : w.heap.size < B1
theorem ASt.later {w : World} {o : MOp} {B1 : Nat} {W W' : World} (h : ASt w o B1 W) (hb : Below W.heap.size W W') : ASt w o B1 W' :=
  ⟨(hb.block _ (lt_of_block' h.op)).trans h.op, (hb.block _ (lt_of_block' h.x)).trans h.x, (hb.block _ (lt_of_block' h.y)).trans h.y, h.below.trans (hb.mono h.below.size), h.lt⟩
theorem ASt.set {w : World} {o p : MOp} {B1 : Nat} {W : World} (h : ASt w o B1 W) (j : Nat) (v : Value) (hp : o.arr.setIfInBounds j v = p.arr) : ASt w p B1 (W.setCell ⟨w.heap.size, j, none⟩ v) :=
  ⟨by rw [heap_setCell h.op, hp], (heap_setCell_other' (by have := h.lt; omega) _).trans h.x, (heap_setCell_other' (by have := h.lt; omega) _).trans h.y, h.below.setCell (p := ⟨w.heap.size, j, none⟩) (Nat.le_refl _) _, h.lt⟩
theorem ASt.start {w w1 : World} {o : MOp} (h : Below (w.alloc (.cells o.arr 44)).heap.size (w.alloc (.cells o.arr 44)) w1) : ASt w o w1.heap.size ((w1.alloc (.cells opC.arr 44)).alloc (.cells opC.arr 44)) := by
  obtain ⟨h0, hb, hz⟩ := after1 h
  exact ⟨old2 _ _ h0, heap_alloc2_old _ _ _, heap_alloc2_new _ _ _, (hb.alloc hb.size _).alloc (by rw [World.size_alloc]; have := hb.size; omega) _, by omega⟩
theorem op_cells2 {w : World} {g : Nat} {o : MOp} {t : TypeId} {fr : Nat × Nat} (h : w.heap[g]? = some (.cells o.arr t fr)) :
    w.cell? ⟨g, 0, none⟩ = some (.int .i64 o.kind) ∧ w.cell? ⟨g, 1, none⟩ = some (.int .i64 o.a) ∧ w.cell? ⟨g, 2, none⟩ = some (.int .i64 o.b) ∧ w.cell? ⟨g, 3, none⟩ = some (.int .i64 o.k) ∧ w.cell? ⟨g, 4, none⟩ = some (.int .u64 o.c) ∧ w.cell? ⟨g, 5, none⟩ = some (.int .i64 o.party) := op_cells1 h
theorem op_free {w : World} {g : Nat} {o : MOp} {t : TypeId} (h : w.heap[g]? = some (.cells o.arr t (0, 0))) (j : Nat) (hj : j < 6) : w.frozen? ⟨g, j, none⟩ = false := by simp [World.frozen?, h]
theorem ASt.done {w : World} {o : MOp} {B1 : Nat} {W : World} (h : ASt w o B1 W) : RetOps [opC, opC, o] w (.returned (.slice (some ⟨W.heap.size, 0, none⟩) 3 3)) (W.alloc (.cells (ocells [opC, opC, o]).toArray 44)) := by
  have h1 := World.ownsRow_lit W (ocells [opC, opC, o]).toArray (e := 44) (size := 6) 3 (Nat.le_refl _) (by unfold maxLen; omega) rfl
  exact ⟨_, rfl, owns_base h1 h.below.size, h.below.alloc h.below.size _⟩

set_option maxHeartbeats 2000000 in
set_option maxRecDepth 100000 in
theorem alone_no (o : MOp) (w : World) (h : mWantsW o = false) : Calls Tryz.prog 91 #[.agg o.arr] w (RetOps [] w) := by
  have HH := Lib.hid h
  obtain ⟨kind, a, b, k, c, party⟩ := o
  clear h
  simp only [MOp.arr]
  go_enter Tryz.func91, Tryz.ntmps91
  go_wp2_with (go_at_call 92; go_must (refine (wantsW_any ⟨kind, a, b, k, c, party⟩ _).mono ?_; unfold RetB; rw [HH.out]; rintro e w1 ⟨rfl, hb1⟩; have HB := Lib.hid (after1 hb1).2.1; clear hb1))
  go_ret
  exact ⟨_, rfl, World.ownsRow_nil _ _ _ _, HB.out⟩
set_option maxHeartbeats 2000000 in
set_option maxRecDepth 100000 in
theorem alone_in (a b k party : Int) (c : Nat) (w : World) : Calls Tryz.prog 91 #[.agg #[.int .i64 1, .int .i64 a, .int .i64 b, .int .i64 k, .int .u64 c, .int .i64 party]] w (RetOps [⟨1, a, b, k, c, party⟩] w) := by
  go_enter Tryz.func91, Tryz.ntmps91
  go_wp2_with (first | (go_at_call 92; go_must (refine (wantsW_k1 a b k party c _).mono ?_; unfold RetB; rintro e w1 ⟨rfl, hb1⟩; have hs1 := ASt.start (o := ⟨1, a, b, k, c, party⟩) hb1; obtain ⟨d0, d1, d2, d3, d4, d5⟩ := op_cells1 (after1 hb1).1; have hz1 := (after1 hb1).2.2; have hz1' : w.heap.size < w1.heap.size := (by omega); have HS1 := Lib.hid hs1; clear hs1 hb1 hz1)) | (go_at_call 60; go_must (refine (wants_k1 a b k party c _).mono ?_; unfold RetInts; rintro e w2 ⟨v2, rfl, hown2, hb2⟩; obtain ⟨ao2, cc2, rfl, hcc2, hy2⟩ := own_open hown2; have hs2 := HS1.out.later hb2; obtain ⟨f0, f1, f2, f3, f4, f5⟩ := op_cells2 hs2.op; have HS2 := Lib.hid hs2; clear hs2 hb2 hown2 hy2)))
  go_ret
  have h1 := World.ownsRow_lit w2 (ocells [(⟨1, a, b, k, c, party⟩ : MOp)]).toArray (e := 44) (size := 6) 1 (Nat.le_refl _) (by unfold maxLen; omega) rfl
  exact ⟨_, rfl, owns_base h1 HS2.out.below.size, HS2.out.below.alloc HS2.out.below.size _⟩
theorem wantsL18 (a b k party : Int) (c : Nat) (w : World) : Calls Tryz.prog 60 #[.agg #[.int .i64 18, .int .i64 a, .int .i64 b, .int .i64 k, .int .u64 c, .int .i64 party]] w (RetInts [a] w) := wantsL_any ⟨18, a, b, k, c, party⟩ w
theorem wantsL19 (a b k party : Int) (c : Nat) (w : World) : Calls Tryz.prog 60 #[.agg #[.int .i64 19, .int .i64 a, .int .i64 b, .int .i64 k, .int .u64 c, .int .i64 party]] w (RetInts [a] w) := wantsL_any ⟨19, a, b, k, c, party⟩ w
set_option maxHeartbeats 2000000 in
set_option maxRecDepth 100000 in
theorem alone_k6 (a b k party : Int) (c : Nat) (w : World)  : Calls Tryz.prog 91 #[.agg #[.int .i64 6, .int .i64 a, .int .i64 b, .int .i64 k, .int .u64 c, .int .i64 party]] w (RetOps [opC, opC, ⟨6, 0, 1, k, c, party⟩] w) := by
  go_enter Tryz.func91, Tryz.ntmps91
  go_upto_region 6 with (first | (go_at_call 92; go_must (refine (wantsW_k6 a b k party c _).mono ?_; unfold RetB; rintro e w1 ⟨rfl, hb1⟩; have hs1 := ASt.start (o := ⟨6, a, b, k, c, party⟩) hb1; obtain ⟨d0, d1, d2, d3, d4, d5⟩ := op_cells1 (after1 hb1).1; have hz1 := (after1 hb1).2.2; have hz1' : w.heap.size < w1.heap.size := (by omega); have HS1 := Lib.hid hs1; clear hs1 hb1 hz1)) | (go_at_call 60; go_must (refine (wants_k6 a b k party c _).mono ?_; unfold RetInts; rintro e w2 ⟨v2, rfl, hown2, hb2⟩; obtain ⟨ao2, cc2, rfl, hcc2, hy2⟩ := own_open hown2; have hs2 := HS1.out.later hb2; have HS2 := Lib.hid hs2; clear hs2 hb2 hown2 hy2)))
  clear d0 d1 d2 d3 d4 d5
  obtain ⟨d0, d1, d2, d3, d4, d5⟩ := op_cells2 HS2.out.op
  have l1 := op_free HS2.out.op 1 (by omega)
  have HS3 := Lib.hid (HS2.out.set (p := ⟨6, 0, b, k, c, party⟩) 1 (.int .i64 0) rfl)
  go_upto_region 8 with (go_at_call 60; go_must (refine (wants_k6 0 b k party c _).mono ?_; unfold RetInts; rintro e w4 ⟨v4, rfl, hown4, hb4⟩; obtain ⟨ao4, cc4, rfl, hcc4, hy4⟩ := own_open hown4; have hs4 := HS3.out.later hb4; have HS4 := Lib.hid hs4; clear hs4 hb4 hown4 hy4))
  clear d0 d1 d2 d3 d4 d5 l1
  obtain ⟨d0, d1, d2, d3, d4, d5⟩ := op_cells2 HS4.out.op
  obtain ⟨e0, e1, e2, e3, e4, e5⟩ := op_cells2 HS4.out.x
  obtain ⟨g0, g1, g2, g3, g4, g5⟩ := op_cells2 HS4.out.y
  have l2 := op_free HS4.out.op 2 (by omega)
  have l3 := op_free HS4.out.op 3 (by omega)
  have hlt := HS4.out.lt
  have hn1 : ¬ w1.heap.size = w.heap.size := by omega
  have hn2 : ¬ w1.heap.size + 1 = w.heap.size := by omega
  have hn3 : ¬ w.heap.size = w1.heap.size := by omega
  have hn4 : ¬ w.heap.size = w1.heap.size + 1 := by omega
  have HSF := Lib.hid (ASt.done (o := ⟨6, 0, 1, k, c, party⟩) (HS4.out.set (p := ⟨6, 0, 1, k, c, party⟩) 2 (.int .i64 1) rfl))
  go_wp2_with fail
  go_ret
  have h := HSF.out
  try simp only [World.size_setCell] at h
  exact h
set_option maxHeartbeats 2000000 in
set_option maxRecDepth 100000 in
theorem alone_k9 (a b k party : Int) (c : Nat) (w : World)  : Calls Tryz.prog 91 #[.agg #[.int .i64 9, .int .i64 a, .int .i64 b, .int .i64 k, .int .u64 c, .int .i64 party]] w (RetOps [opC, opC, ⟨9, 0, 1, k, c, party⟩] w) := by
  go_enter Tryz.func91, Tryz.ntmps91
  go_upto_region 6 with (first | (go_at_call 92; go_must (refine (wantsW_k9 a b k party c _).mono ?_; unfold RetB; rintro e w1 ⟨rfl, hb1⟩; have hs1 := ASt.start (o := ⟨9, a, b, k, c, party⟩) hb1; obtain ⟨d0, d1, d2, d3, d4, d5⟩ := op_cells1 (after1 hb1).1; have hz1 := (after1 hb1).2.2; have hz1' : w.heap.size < w1.heap.size := (by omega); have HS1 := Lib.hid hs1; clear hs1 hb1 hz1)) | (go_at_call 60; go_must (refine (wants_k9 a b k party c _).mono ?_; unfold RetInts; rintro e w2 ⟨v2, rfl, hown2, hb2⟩; obtain ⟨ao2, cc2, rfl, hcc2, hy2⟩ := own_open hown2; have hs2 := HS1.out.later hb2; have HS2 := Lib.hid hs2; clear hs2 hb2 hown2 hy2)))
  clear d0 d1 d2 d3 d4 d5
  obtain ⟨d0, d1, d2, d3, d4, d5⟩ := op_cells2 HS2.out.op
  have l1 := op_free HS2.out.op 1 (by omega)
  have HS3 := Lib.hid (HS2.out.set (p := ⟨9, 0, b, k, c, party⟩) 1 (.int .i64 0) rfl)
  go_upto_region 8 with (go_at_call 60; go_must (refine (wants_k9 0 b k party c _).mono ?_; unfold RetInts; rintro e w4 ⟨v4, rfl, hown4, hb4⟩; obtain ⟨ao4, cc4, rfl, hcc4, hy4⟩ := own_open hown4; have hs4 := HS3.out.later hb4; have HS4 := Lib.hid hs4; clear hs4 hb4 hown4 hy4))
  clear d0 d1 d2 d3 d4 d5 l1
  obtain ⟨d0, d1, d2, d3, d4, d5⟩ := op_cells2 HS4.out.op
  obtain ⟨e0, e1, e2, e3, e4, e5⟩ := op_cells2 HS4.out.x
  obtain ⟨g0, g1, g2, g3, g4, g5⟩ := op_cells2 HS4.out.y
  have l2 := op_free HS4.out.op 2 (by omega)
  have l3 := op_free HS4.out.op 3 (by omega)
  have hlt := HS4.out.lt
  have hn1 : ¬ w1.heap.size = w.heap.size := by omega
  have hn2 : ¬ w1.heap.size + 1 = w.heap.size := by omega
  have hn3 : ¬ w.heap.size = w1.heap.size := by omega
  have hn4 : ¬ w.heap.size = w1.heap.size + 1 := by omega
  have HSF := Lib.hid (ASt.done (o := ⟨9, 0, 1, k, c, party⟩) (HS4.out.set (p := ⟨9, 0, 1, k, c, party⟩) 2 (.int .i64 1) rfl))
  go_wp2_with fail
  go_ret
  have h := HSF.out
  try simp only [World.size_setCell] at h
  exact h
set_option maxHeartbeats 2000000 in
set_option maxRecDepth 100000 in
theorem alone_k17 (a b k party : Int) (c : Nat) (w : World) (hk : k ≠ 1) : Calls Tryz.prog 91 #[.agg #[.int .i64 17, .int .i64 a, .int .i64 b, .int .i64 k, .int .u64 c, .int .i64 party]] w (RetOps [opC, opC, ⟨17, 0, 1, k, c, party⟩] w) := by
  go_enter Tryz.func91, Tryz.ntmps91
  go_upto_region 6 with (first | (go_at_call 92; go_must (refine (wantsW_k17 a b k party c _).mono ?_; unfold RetB; rintro e w1 ⟨rfl, hb1⟩; have hs1 := ASt.start (o := ⟨17, a, b, k, c, party⟩) hb1; obtain ⟨d0, d1, d2, d3, d4, d5⟩ := op_cells1 (after1 hb1).1; have hz1 := (after1 hb1).2.2; have hz1' : w.heap.size < w1.heap.size := (by omega); have HS1 := Lib.hid hs1; clear hs1 hb1 hz1)) | (go_at_call 60; go_must (refine (wants_k17 a b k party c _ hk).mono ?_; unfold RetInts; rintro e w2 ⟨v2, rfl, hown2, hb2⟩; obtain ⟨ao2, cc2, rfl, hcc2, hy2⟩ := own_open hown2; have hs2 := HS1.out.later hb2; have HS2 := Lib.hid hs2; clear hs2 hb2 hown2 hy2)))
  clear d0 d1 d2 d3 d4 d5
  obtain ⟨d0, d1, d2, d3, d4, d5⟩ := op_cells2 HS2.out.op
  have l1 := op_free HS2.out.op 1 (by omega)
  have HS3 := Lib.hid (HS2.out.set (p := ⟨17, 0, b, k, c, party⟩) 1 (.int .i64 0) rfl)
  go_upto_region 8 with (go_at_call 60; go_must (refine (wants_k17 0 b k party c _ hk).mono ?_; unfold RetInts; rintro e w4 ⟨v4, rfl, hown4, hb4⟩; obtain ⟨ao4, cc4, rfl, hcc4, hy4⟩ := own_open hown4; have hs4 := HS3.out.later hb4; have HS4 := Lib.hid hs4; clear hs4 hb4 hown4 hy4))
  clear d0 d1 d2 d3 d4 d5 l1
  obtain ⟨d0, d1, d2, d3, d4, d5⟩ := op_cells2 HS4.out.op
  obtain ⟨e0, e1, e2, e3, e4, e5⟩ := op_cells2 HS4.out.x
  obtain ⟨g0, g1, g2, g3, g4, g5⟩ := op_cells2 HS4.out.y
  have l2 := op_free HS4.out.op 2 (by omega)
  have l3 := op_free HS4.out.op 3 (by omega)
  have hlt := HS4.out.lt
  have hn1 : ¬ w1.heap.size = w.heap.size := by omega
  have hn2 : ¬ w1.heap.size + 1 = w.heap.size := by omega
  have hn3 : ¬ w.heap.size = w1.heap.size := by omega
  have hn4 : ¬ w.heap.size = w1.heap.size + 1 := by omega
  have HSF := Lib.hid (ASt.done (o := ⟨17, 0, 1, k, c, party⟩) (HS4.out.set (p := ⟨17, 0, 1, k, c, party⟩) 2 (.int .i64 1) rfl))
  go_wp2_with fail
  go_ret
  have h := HSF.out
  try simp only [World.size_setCell] at h
  exact h
set_option maxHeartbeats 2000000 in
set_option maxRecDepth 100000 in
theorem alone_k17a (a b party : Int) (c : Nat) (w : World)  : Calls Tryz.prog 91 #[.agg #[.int .i64 17, .int .i64 a, .int .i64 b, .int .i64 1, .int .u64 c, .int .i64 party]] w (RetOps [opC, opC, ⟨17, 0, b, 1, c, party⟩] w) := by
  go_enter Tryz.func91, Tryz.ntmps91
  go_upto_region 6 with (first | (go_at_call 92; go_must (refine (wantsW_k17 a b 1 party c _).mono ?_; unfold RetB; rintro e w1 ⟨rfl, hb1⟩; have hs1 := ASt.start (o := ⟨17, a, b, 1, c, party⟩) hb1; obtain ⟨d0, d1, d2, d3, d4, d5⟩ := op_cells1 (after1 hb1).1; have hz1 := (after1 hb1).2.2; have hz1' : w.heap.size < w1.heap.size := (by omega); have HS1 := Lib.hid hs1; clear hs1 hb1 hz1)) | (go_at_call 60; go_must (refine (wants_k171 a b party c _).mono ?_; unfold RetInts; rintro e w2 ⟨v2, rfl, hown2, hb2⟩; obtain ⟨ao2, cc2, rfl, hcc2, hy2⟩ := own_open hown2; have hs2 := HS1.out.later hb2; have HS2 := Lib.hid hs2; clear hs2 hb2 hown2 hy2)))
  clear d0 d1 d2 d3 d4 d5
  obtain ⟨d0, d1, d2, d3, d4, d5⟩ := op_cells2 HS2.out.op
  have l1 := op_free HS2.out.op 1 (by omega)
  have HS3 := Lib.hid (HS2.out.set (p := ⟨17, 0, b, 1, c, party⟩) 1 (.int .i64 0) rfl)
  go_upto_region 9 with (go_at_call 60; go_must (refine (wants_k171 0 b party c _).mono ?_; unfold RetInts; rintro e w4 ⟨v4, rfl, hown4, hb4⟩; obtain ⟨ao4, cc4, rfl, hcc4, hy4⟩ := own_open hown4; have hs4 := HS3.out.later hb4; have HS4 := Lib.hid hs4; clear hs4 hb4 hown4 hy4))
  clear d0 d1 d2 d3 d4 d5 l1
  obtain ⟨d0, d1, d2, d3, d4, d5⟩ := op_cells2 HS4.out.op
  obtain ⟨e0, e1, e2, e3, e4, e5⟩ := op_cells2 HS4.out.x
  obtain ⟨g0, g1, g2, g3, g4, g5⟩ := op_cells2 HS4.out.y
  have l2 := op_free HS4.out.op 2 (by omega)
  have l3 := op_free HS4.out.op 3 (by omega)
  have hlt := HS4.out.lt
  have hn1 : ¬ w1.heap.size = w.heap.size := by omega
  have hn2 : ¬ w1.heap.size + 1 = w.heap.size := by omega
  have hn3 : ¬ w.heap.size = w1.heap.size := by omega
  have hn4 : ¬ w.heap.size = w1.heap.size + 1 := by omega
  have HSF := Lib.hid (ASt.done (o := ⟨17, 0, b, 1, c, party⟩) HS4.out)
  go_wp2_with fail
  go_ret
  have h := HSF.out
  try simp only [World.size_setCell] at h
  exact h
set_option maxHeartbeats 2000000 in
set_option maxRecDepth 100000 in
theorem alone_k18 (a b k party : Int) (c : Nat) (w : World)  : Calls Tryz.prog 91 #[.agg #[.int .i64 18, .int .i64 a, .int .i64 b, .int .i64 k, .int .u64 c, .int .i64 party]] w (RetOps [opC, opC, ⟨18, 0, b, 0, c, party⟩] w) := by
  go_enter Tryz.func91, Tryz.ntmps91
  go_upto_region 6 with (first | (go_at_call 92; go_must (refine (wantsW_k18 a b k party c _).mono ?_; unfold RetB; rintro e w1 ⟨rfl, hb1⟩; have hs1 := ASt.start (o := ⟨18, a, b, k, c, party⟩) hb1; obtain ⟨d0, d1, d2, d3, d4, d5⟩ := op_cells1 (after1 hb1).1; have hz1 := (after1 hb1).2.2; have hz1' : w.heap.size < w1.heap.size := (by omega); have HS1 := Lib.hid hs1; clear hs1 hb1 hz1)) | (go_at_call 60; go_must (refine (wantsL18 a b k party c _).mono ?_; unfold RetInts; rintro e w2 ⟨v2, rfl, hown2, hb2⟩; obtain ⟨ao2, cc2, rfl, hcc2, hy2⟩ := own_open hown2; have hs2 := HS1.out.later hb2; have HS2 := Lib.hid hs2; clear hs2 hb2 hown2 hy2)))
  clear d0 d1 d2 d3 d4 d5
  obtain ⟨d0, d1, d2, d3, d4, d5⟩ := op_cells2 HS2.out.op
  have l1 := op_free HS2.out.op 1 (by omega)
  have HS3 := Lib.hid (HS2.out.set (p := ⟨18, 0, b, k, c, party⟩) 1 (.int .i64 0) rfl)
  go_upto_region 9 with (go_at_call 60; go_must (refine (wantsL18 0 b k party c _).mono ?_; unfold RetInts; rintro e w4 ⟨v4, rfl, hown4, hb4⟩; obtain ⟨ao4, cc4, rfl, hcc4, hy4⟩ := own_open hown4; have hs4 := HS3.out.later hb4; have HS4 := Lib.hid hs4; clear hs4 hb4 hown4 hy4))
  clear d0 d1 d2 d3 d4 d5 l1
  obtain ⟨d0, d1, d2, d3, d4, d5⟩ := op_cells2 HS4.out.op
  obtain ⟨e0, e1, e2, e3, e4, e5⟩ := op_cells2 HS4.out.x
  obtain ⟨g0, g1, g2, g3, g4, g5⟩ := op_cells2 HS4.out.y
  have l2 := op_free HS4.out.op 2 (by omega)
  have l3 := op_free HS4.out.op 3 (by omega)
  have hlt := HS4.out.lt
  have hn1 : ¬ w1.heap.size = w.heap.size := by omega
  have hn2 : ¬ w1.heap.size + 1 = w.heap.size := by omega
  have hn3 : ¬ w.heap.size = w1.heap.size := by omega
  have hn4 : ¬ w.heap.size = w1.heap.size + 1 := by omega
  have HSF := Lib.hid (ASt.done (o := ⟨18, 0, b, 0, c, party⟩) (HS4.out.set (p := ⟨18, 0, b, 0, c, party⟩) 3 (.int .i64 0) rfl))
  go_wp2_with fail
  go_ret
  have h := HSF.out
  try simp only [World.size_setCell] at h
  exact h
set_option maxHeartbeats 2000000 in
set_option maxRecDepth 100000 in
theorem alone_k19 (a b k party : Int) (c : Nat) (w : World)  : Calls Tryz.prog 91 #[.agg #[.int .i64 19, .int .i64 a, .int .i64 b, .int .i64 k, .int .u64 c, .int .i64 party]] w (RetOps [opC, opC, ⟨19, 0, b, 0, c, party⟩] w) := by
  go_enter Tryz.func91, Tryz.ntmps91
  go_upto_region 6 with (first | (go_at_call 92; go_must (refine (wantsW_k19 a b k party c _).mono ?_; unfold RetB; rintro e w1 ⟨rfl, hb1⟩; have hs1 := ASt.start (o := ⟨19, a, b, k, c, party⟩) hb1; obtain ⟨d0, d1, d2, d3, d4, d5⟩ := op_cells1 (after1 hb1).1; have hz1 := (after1 hb1).2.2; have hz1' : w.heap.size < w1.heap.size := (by omega); have HS1 := Lib.hid hs1; clear hs1 hb1 hz1)) | (go_at_call 60; go_must (refine (wantsL19 a b k party c _).mono ?_; unfold RetInts; rintro e w2 ⟨v2, rfl, hown2, hb2⟩; obtain ⟨ao2, cc2, rfl, hcc2, hy2⟩ := own_open hown2; have hs2 := HS1.out.later hb2; have HS2 := Lib.hid hs2; clear hs2 hb2 hown2 hy2)))
  clear d0 d1 d2 d3 d4 d5
  obtain ⟨d0, d1, d2, d3, d4, d5⟩ := op_cells2 HS2.out.op
  have l1 := op_free HS2.out.op 1 (by omega)
  have HS3 := Lib.hid (HS2.out.set (p := ⟨19, 0, b, k, c, party⟩) 1 (.int .i64 0) rfl)
  go_upto_region 9 with (go_at_call 60; go_must (refine (wantsL19 0 b k party c _).mono ?_; unfold RetInts; rintro e w4 ⟨v4, rfl, hown4, hb4⟩; obtain ⟨ao4, cc4, rfl, hcc4, hy4⟩ := own_open hown4; have hs4 := HS3.out.later hb4; have HS4 := Lib.hid hs4; clear hs4 hb4 hown4 hy4))
  clear d0 d1 d2 d3 d4 d5 l1
  obtain ⟨d0, d1, d2, d3, d4, d5⟩ := op_cells2 HS4.out.op
  obtain ⟨e0, e1, e2, e3, e4, e5⟩ := op_cells2 HS4.out.x
  obtain ⟨g0, g1, g2, g3, g4, g5⟩ := op_cells2 HS4.out.y
  have l2 := op_free HS4.out.op 2 (by omega)
  have l3 := op_free HS4.out.op 3 (by omega)
  have hlt := HS4.out.lt
  have hn1 : ¬ w1.heap.size = w.heap.size := by omega
  have hn2 : ¬ w1.heap.size + 1 = w.heap.size := by omega
  have hn3 : ¬ w.heap.size = w1.heap.size := by omega
  have hn4 : ¬ w.heap.size = w1.heap.size + 1 := by omega
  have HSF := Lib.hid (ASt.done (o := ⟨19, 0, b, 0, c, party⟩) (HS4.out.set (p := ⟨19, 0, b, 0, c, party⟩) 3 (.int .i64 0) rfl))
  go_wp2_with fail
  go_ret
  have h := HSF.out
  try simp only [World.size_setCell] at h
  exact h
theorem alone_any (o : MOp) (w : World) : Calls Tryz.prog 91 #[.agg o.arr] w (RetOps (mAlone o) w) := by
  by_cases hw : mWantsW o = false
  · rw [mAlone, if_pos hw]; exact alone_no o w hw
  · rw [mAlone, if_neg hw]
    obtain ⟨kind, a, b, k, c, party⟩ := o
    simp only [MOp.arr]
    by_cases h1 : kind = 1
    · subst h1; exact alone_in a b k party c w
    · simp only [if_neg h1]
      have hk : kind = 6 ∨ kind = 9 ∨ kind = 17 ∨ kind = 18 ∨ kind = 19 := by
        simp only [mWantsW, Bool.not_eq_false, Bool.or_eq_true, beq_iff_eq] at hw; omega
      rcases hk with rfl | rfl | rfl | rfl | rfl
      · exact alone_k6 a b k party c w
      · exact alone_k9 a b k party c w
      · by_cases hk : k = 1
        · subst hk; exact alone_k17a a b party c w
        · rw [show aloneOp ⟨17, a, b, k, c, party⟩ = ⟨17, 0, 1, k, c, party⟩ by simp [aloneOp, hk]]
          exact alone_k17 a b k party c w hk
      · exact alone_k18 a b k party c w
      · exact alone_k19 a b k party c w
end Go.Proofs.YtjbhgimhcjcpmaaGreatDoor
