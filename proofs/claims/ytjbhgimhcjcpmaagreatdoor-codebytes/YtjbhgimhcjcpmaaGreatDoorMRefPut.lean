/-
  THE CONTRACT of twainref09.put: gates on an owned row.
-/
import Derived.Test.YtjbhgimhcjcpmaaGreatDoorMCircLess
import Derived.Test.YtjbhgimhcjcpmaaGreatDoorMCircTop
import Derived.Maps.Range
import Derived.Deep.DeepCutAuto
import Derived.Deep.RegionWith
import Derived.Deep.RegionHeld3
import Derived.Deep.LoopGhost
import Derived.Deep.RegionLaw
set_option linter.unusedSimpArgs false
set_option linter.unusedVariables false
namespace Go.Proofs.YtjbhgimhcjcpmaaGreatDoor
open Go.RowKit

theorem info_gate9 : (Tryz.prog.info? 217).map (fun i => (i.zero, i.size, i.bytes)) = some (some (.agg #[.int .i64 0, .int .i64 0, .int .i64 0]), 3, 24) := by kernel_rfl
theorem info_circ9 : (Tryz.prog.info? 184).map (·.size) = some 3 := by kernel_rfl

theorem own_keep9 {w w' : World} {base : Nat} {e : TypeId} {k : Nat} {v : Value} {n : Nat} {xs : List Value} (h : w.ownsRow base e k v n xs) (hk : ∀ j, v.ownBlock = some j → w'.heap[j]? = w.heap[j]?) : w'.ownsRow base e k v n xs := by
  rcases h.2 with h0 | ⟨g, cap, cur, hv, hb, hg, hr⟩
  · exact ⟨h.1, .inl h0⟩
  · exact ⟨h.1, .inr ⟨g, cap, cur, hv, hb, (hk g (by rw [hv]; rfl)).trans hg, hr⟩⟩
/-- From w to w' the row of gates gv became gv', which reads as gs; nothing else that there was changed. -/
structure GStep (base : Nat) (w w' : World) (gs : List Gate) (gv gv' : Value) : Prop where
  own : w'.ownsRow base 217 3 gv' gs.length (gcells gs)
  fr : w.grownBy w' gv.ownBlock
  lies : ∀ j, gv'.ownBlock = some j → gv.ownBlock = some j ∨ w.heap.size ≤ j
theorem GStep.refl {base : Nat} {w : World} {gs : List Gate} {gv : Value} (h : w.ownsRow base 217 3 gv gs.length (gcells gs)) : GStep base w w gs gv gv := ⟨h, World.grownBy.refl _ _, fun _ h => .inl h⟩
theorem GStep.trans {base : Nat} {w w1 w2 : World} {gs1 gs2 : List Gate} {gv gv1 gv2 : Value} (h : GStep base w w1 gs1 gv gv1) (k : GStep base w1 w2 gs2 gv1 gv2) : GStep base w w2 gs2 gv gv2 :=
  ⟨k.own, h.fr.andThen k.fr fun j hj => (h.lies j hj).elim .inr .inl, fun j hj => (k.lies j hj).elim (h.lies j) fun hl => .inr (Nat.le_trans h.fr.size hl)⟩
theorem GStep.ne {base : Nat} {w w1 : World} {gs : List Gate} {gv gv1 : Value} (h : GStep base w w1 gs gv gv1) {b : Nat} {cs : Array Value} {t : TypeId} {fr : Nat × Nat} (hb : w1.heap[b]? = some (.cells cs t fr)) (ht : t ≠ 217) : gv1.ownBlock ≠ some b := by
  intro e
  rcases h.own.2 with ⟨rfl, _⟩ | ⟨g, cap, cur, rfl, _, hg, _⟩
  · simp [Value.ownBlock] at e
  · simp only [Value.ownBlock, Option.some.injEq] at e
    subst e
    rw [hb] at hg
    simp only [Option.some.injEq, Obj.cells.injEq] at hg
    exact ht hg.2.1
theorem GStep.setRow {base : Nat} {w w1 : World} {gs : List Gate} {gv gv1 : Value} (h : GStep base w w1 gs gv gv1) {b : Nat} (hge : w.heap.size ≤ b) {cs : Array Value} {t : TypeId} {fr : Nat × Nat} (hb : w1.heap[b]? = some (.cells cs t fr)) (ht : t ≠ 217) (cs' : Array Value) :
    GStep base w (w1.setRow b cs') gs gv gv1 := by
  have hne := h.ne hb ht
  refine ⟨own_keep9 h.own fun j hj => setRow_other _ _ _ _ fun e => hne (by rw [hj, e]), ⟨h.fr.os, h.fr.tape, h.fr.output, by simpa using h.fr.size, fun i hi hr => (setRow_other _ _ _ _ (by omega)).trans (h.fr.block i hi hr)⟩, h.lies⟩

theorem set3 {w : World} {b : Nat} {x0 x1 x2 : Value} {t : TypeId} {fr : Nat × Nat} (h : w.heap[b]? = some (.cells #[x0, x1, x2] t fr)) (a c d : Value) :
    (((w.setCell ⟨b, 0, none⟩ a).setCell ⟨b, 1, none⟩ c).setCell ⟨b, 2, none⟩ d).heap[b]? = some (.cells #[a, c, d] t fr) := by
  have h1 := heap_setCell (j := 0) h a
  have h2 := heap_setCell (j := 1) h1 c
  have h3 := heap_setCell (j := 2) h2 d
  simpa using h3
theorem set3_other (w : World) (b : Nat) (a c d : Value) (k : Nat) (h : k ≠ b) : (((w.setCell ⟨b, 0, none⟩ a).setCell ⟨b, 1, none⟩ c).setCell ⟨b, 2, none⟩ d).heap[k]? = w.heap[k]? := by
  rw [heap_setCell_other' h, heap_setCell_other' h, heap_setCell_other' h]
theorem GStep.set3 {base : Nat} {w w1 : World} {gs : List Gate} {gv gv1 : Value} (h : GStep base w w1 gs gv gv1) {b : Nat} (hge : w.heap.size ≤ b) {cs : Array Value} {t : TypeId} {fr : Nat × Nat} (hb : w1.heap[b]? = some (.cells cs t fr)) (ht : t ≠ 217) (a c d : Value) :
    GStep base w (((w1.setCell ⟨b, 0, none⟩ a).setCell ⟨b, 1, none⟩ c).setCell ⟨b, 2, none⟩ d) gs gv gv1 := by
  have hne := h.ne hb ht
  refine ⟨own_keep9 h.own fun j hj => set3_other _ _ _ _ _ _ fun e => hne (by rw [hj, e]), ⟨h.fr.os, h.fr.tape, h.fr.output, by simpa using h.fr.size, fun i hi hr => (set3_other _ _ _ _ _ _ (by omega)).trans (h.fr.block i hi hr)⟩, h.lies⟩
theorem GStep.drew {base : Nat} {w w1 : World} {gs : List Gate} {gv gv1 : Value} (h : GStep base w w1 gs gv gv1) : GStep base w w1.drew gs gv gv1 := ⟨h.own, ⟨h.fr.os, h.fr.tape, h.fr.output, h.fr.size, h.fr.block⟩, h.lies⟩

set_option maxHeartbeats 400000 in
set_option maxRecDepth 100000 in
theorem put9_any (base : Nat) (N : Nat) (gs : List Gate) (gv : Value) (oo : Option Addr) (on oc : Nat) (k a b : Int) (w : World) (hown : w.ownsRow base 217 3 gv gs.length (gcells gs)) (hbase : base ≤ w.heap.size) (hN : N ≤ 1000) (hg : gs.length ≤ 100000) :
    Calls Tryz.prog 125 #[.agg #[.int .i64 N, gv, .slice oo on oc], .int .i64 k, .int .i64 a, .int .i64 b] w fun e w' =>
      ∃ gv', e = .returned (.tuple #[.agg #[.int .i64 N, gv', .slice oo on oc], .int .i64 (N + gs.length : Nat)]) ∧ GStep base w w' (gs ++ [⟨k, a, b⟩]) gv gv' := by
  have hlt : ∀ j, gv.ownBlock = some j → base ≤ j ∧ j < w.heap.size := fun j hj => hown.lt j hj
  obtain ⟨ao, cc, rfl, hcc, hm, hx, hy⟩ := (Arr.of_owns hown).open
  clear hx hy hm
  go_enter Tryz.func125, Tryz.ntmps125
  go_upto_region 1 with fail
  have hx0 := heap_alloc2_old w (.cells #[.int .i64 N, .slice ao gs.length cc, .slice oo on oc] 184) (.cells #[.int .i64 0, .slice none 0 0, .slice none 0 0] 184)
  have hy0 := heap_alloc2_new w (.cells #[.int .i64 N, .slice ao gs.length cc, .slice oo on oc] 184) (.cells #[.int .i64 0, .slice none 0 0, .slice none 0 0] 184)
  have hb0 := below_alloc2 w (.cells #[.int .i64 N, .slice ao gs.length cc, .slice oo on oc] 184) (.cells #[.int .i64 0, .slice none 0 0, .slice none 0 0] 184)
  have hown0 := Below.owns hown hb0
  generalize ((w.alloc _).alloc _) = w0 at hx0 hy0 hb0 hown0 ⊢
  have hz0 : w.heap.size + 2 ≤ w0.heap.size := by have := lt_of_block hy0; omega
  have hc0 : w0.cell? ⟨w.heap.size, 1, none⟩ = some (.slice ao gs.length cc) := by simp [World.cell?, hx0]
  go_wp2_with (at_builtin; refine app_k rfl _ _ 182 rfl 217 _ 3 24 Tryz.underlying182 info_gate9 rfl (by decide) #[_, _, _] _ base _ _ hown0 rfl rfl rfl (by intro u hu; simp at hu; rcases hu with rfl | rfl | rfl <;> rfl) (by omega) (by omega) (by unfold maxLen; omega) ?_; intro v1 w1 hown1 hg1 hb1; go_must (have hz1 := hg1.size; obtain ⟨g1, c1, rfl, hb2, hl1⟩ := hown1.form (by omega); have hx1 := (hg1.block w.heap.size (by omega) (fun e => by have := (hlt _ e.symm).2; omega)).trans hx0; have hy1 := (hg1.block (w.heap.size + 1) (by omega) (fun e => by have := (hlt _ e.symm).2; omega)).trans hy0; have hd1 : w1.cell? ⟨w.heap.size, 1, none⟩ = some (.slice ao gs.length cc) := (by simp [World.cell?, hx1]); have hf1 : w1.frozen? ⟨w.heap.size, 1, none⟩ = false := (by simp [World.frozen?, hx1]); have HX := Lib.hid hx1; have HY := Lib.hid hy1; clear hx1 hy1))
  have hX := heap_setCell (j := 1) HX.out (.slice (some ⟨g1, 0, none⟩) (gs.length + 1) c1)
  have hY := (heap_setCell_other' (w := w1) (b := w.heap.size) (j := 1) (k := w.heap.size + 1) (by omega) (.slice (some ⟨g1, 0, none⟩) (gs.length + 1) c1)).trans HY.out
  have hfr : w.grownBy (w1.setCell ⟨w.heap.size, 1, none⟩ (.slice (some ⟨g1, 0, none⟩) (gs.length + 1) c1)) (Value.slice ao gs.length cc).ownBlock := by
    refine ⟨hg1.os.trans hb0.os, hg1.tape.trans hb0.tape, hg1.output.trans hb0.output, by rw [World.size_setCell]; omega, fun i hi hr => ?_⟩
    rw [heap_setCell_other' (by omega), hg1.block i (by omega) hr, hb0.block i hi]
  have hgne : (g1 < w.heap.size ∧ (Value.slice (some ⟨g1, 0, none⟩) (gs.length + 1) c1).ownBlock = (Value.slice ao gs.length cc).ownBlock) ∨ g1 = w0.heap.size + 1 := by
    rcases hb1 with h | h
    · exact .inl ⟨(hlt g1 (by rw [← h]; rfl)).2, h⟩
    · exact .inr (by simpa [Value.ownBlock] using h)
  have hown2 := ownsRow_setCell_other hown1 (a := ⟨w.heap.size, 1, none⟩) (by simp [Value.ownBlock]; omega) (.slice (some ⟨g1, 0, none⟩) (gs.length + 1) c1)
  generalize w1.setCell ⟨w.heap.size, 1, none⟩ (.slice (some ⟨g1, 0, none⟩) (gs.length + 1) c1) = w2 at hX hY hfr hown2 ⊢
  clear hb1 hown1 hg1 hd1 hf1
  simp only [List.setIfInBounds_toArray, List.set] at hX
  have e0 : w2.cell? ⟨w.heap.size, 0, none⟩ = some (.int .i64 N) := by simp [World.cell?, hX]
  have e1 : w2.cell? ⟨w.heap.size, 1, none⟩ = some (.slice (some ⟨g1, 0, none⟩) (gs.length + 1) c1) := by simp [World.cell?, hX]
  have e2 : w2.cell? ⟨w.heap.size, 2, none⟩ = some (.slice oo on oc) := by simp [World.cell?, hX]
  have f0 : w2.cell? ⟨w.heap.size + 1, 0, none⟩ = some (.int .i64 0) := by simp [World.cell?, hY]
  have f1 : w2.cell? ⟨w.heap.size + 1, 1, none⟩ = some (.slice none 0 0) := by simp [World.cell?, hY]
  have f2 : w2.cell? ⟨w.heap.size + 1, 2, none⟩ = some (.slice none 0 0) := by simp [World.cell?, hY]
  have f3 : w2.frozen? ⟨w.heap.size + 1, 0, none⟩ = false := by simp [World.frozen?, hY]
  have f4 : w2.frozen? ⟨w.heap.size + 1, 1, none⟩ = false := by simp [World.frozen?, hY]
  have f5 : w2.frozen? ⟨w.heap.size + 1, 2, none⟩ = false := by simp [World.frozen?, hY]
  go_region
  go_wp2_with fail
  have hst : GStep base w w2 (gs ++ [⟨k, a, b⟩]) (.slice ao gs.length cc) (.slice (some ⟨g1, 0, none⟩) (gs.length + 1) c1) := by
    refine ⟨by rw [gcells_append, List.length_append]; exact hown2, hfr, fun j hj => ?_⟩
    simp only [Value.ownBlock, Option.some.injEq] at hj
    subst hj
    rcases hgne with h | h
    · exact .inl (by rw [← h.2]; rfl)
    · exact .inr (by omega)
  have hres := set3 hY (.int .i64 N) (.slice (some ⟨g1, 0, none⟩) (gs.length + 1) c1) (.slice oo on oc)
  have hst2 := (hst.set3 (by omega) hY (by decide) (.int .i64 N) (.slice (some ⟨g1, 0, none⟩) (gs.length + 1) c1) (.slice oo on oc)).drew
  refine bodyPost_ret (results_cell_tmp rfl _ _ (w.heap.size + 1) 184 #[_, _, _] _ _ rfl hres Tryz.underlying184 rfl info_circ9) rfl ?_
  refine ⟨_, ?_, hst2⟩
  rw [show ((N + gs.length : Nat) : Int) = (N : Int) + ((gs.length : Int) + 1) - 1 by omega]
  rfl

/-- A circuit that came in by value, in its block; behind it the block of the result. -/
structure Bx9 (w : World) (base N : Nat) (oo : Option Addr) (on oc : Nat) (gv0 : Value) (gs : List Gate) (gv : Value) (W : World) : Prop where
  box : W.heap[w.heap.size]? = some (.cells #[.int .i64 N, gv, .slice oo on oc] 184 (0, 0))
  res : W.heap[w.heap.size + 1]? = some (.cells #[.int .i64 0, .slice none 0 0, .slice none 0 0] 184 (0, 0))
  st : GStep base w W gs gv0 gv
theorem Bx9.start {w : World} {base : Nat} (N : Nat) (oo : Option Addr) (on oc : Nat) {gs : List Gate} {gv : Value} (h : w.ownsRow base 217 3 gv gs.length (gcells gs)) :
    Bx9 w base N oo on oc gv gs gv ((w.alloc (.cells #[.int .i64 N, gv, .slice oo on oc] 184)).alloc (.cells #[.int .i64 0, .slice none 0 0, .slice none 0 0] 184)) :=
  ⟨heap_alloc2_old _ _ _, heap_alloc2_new _ _ _, Below.owns h (below_alloc2 _ _ _), (World.grownBy_alloc _ _ _).trans (World.grownBy_alloc _ _ _), fun _ h => .inl h⟩
theorem Bx9.cells {w : World} {base N : Nat} {oo : Option Addr} {on oc : Nat} {gv0 : Value} {gs : List Gate} {gv : Value} {W : World} (h : Bx9 w base N oo on oc gv0 gs gv W) :
    (W.cell? ⟨w.heap.size, 0, none⟩ = some (.int .i64 N) ∧ W.cell? ⟨w.heap.size, 1, none⟩ = some gv ∧ W.cell? ⟨w.heap.size, 2, none⟩ = some (.slice oo on oc)) ∧ W.frozen? ⟨w.heap.size, 0, none⟩ = false ∧ W.frozen? ⟨w.heap.size, 1, none⟩ = false ∧ W.frozen? ⟨w.heap.size, 2, none⟩ = false := by
  have := h.box
  refine ⟨⟨?_, ?_, ?_⟩, ?_, ?_, ?_⟩ <;> simp [World.cell?, World.frozen?, this]
theorem Bx9.rcells {w : World} {base N : Nat} {oo : Option Addr} {on oc : Nat} {gv0 : Value} {gs : List Gate} {gv : Value} {W : World} (h : Bx9 w base N oo on oc gv0 gs gv W) :
    (W.cell? ⟨w.heap.size + 1, 0, none⟩ = some (.int .i64 0) ∧ W.cell? ⟨w.heap.size + 1, 1, none⟩ = some (.slice none 0 0) ∧ W.cell? ⟨w.heap.size + 1, 2, none⟩ = some (.slice none 0 0)) ∧ W.frozen? ⟨w.heap.size + 1, 0, none⟩ = false ∧ W.frozen? ⟨w.heap.size + 1, 1, none⟩ = false ∧ W.frozen? ⟨w.heap.size + 1, 2, none⟩ = false := by
  have := h.res
  refine ⟨⟨?_, ?_, ?_⟩, ?_, ?_, ?_⟩ <;> simp [World.cell?, World.frozen?, this]
theorem Bx9.lt {w : World} {base N : Nat} {oo : Option Addr} {on oc : Nat} {gv0 : Value} {gs : List Gate} {gv : Value} {W : World} (h : Bx9 w base N oo on oc gv0 gs gv W) : w.heap.size + 1 < W.heap.size := lt_of_block h.res
/-- Behind a call that made gates: the blocks are as they were, the row is longer. -/
structure Mid9 (w : World) (base N : Nat) (oo : Option Addr) (on oc : Nat) (gv0 gv : Value) (gs : List Gate) (gv1 : Value) (W : World) : Prop where
  box : W.heap[w.heap.size]? = some (.cells #[.int .i64 N, gv, .slice oo on oc] 184 (0, 0))
  res : W.heap[w.heap.size + 1]? = some (.cells #[.int .i64 0, .slice none 0 0, .slice none 0 0] 184 (0, 0))
  st : GStep base w W gs gv0 gv1
theorem Bx9.call {w : World} {base N : Nat} {oo : Option Addr} {on oc : Nat} {gv0 : Value} {gs gs1 : List Gate} {gv gv1 : Value} {W W1 : World} (h : Bx9 w base N oo on oc gv0 gs gv W) (k : GStep base W W1 gs1 gv gv1) : Mid9 w base N oo on oc gv0 gv gs1 gv1 W1 :=
  ⟨(k.fr.block _ (by have := h.lt; omega) fun e => h.st.ne h.box (by decide) e.symm).trans h.box, (k.fr.block _ h.lt fun e => h.st.ne h.res (by decide) e.symm).trans h.res, h.st.trans k⟩
theorem Mid9.cells {w : World} {base N : Nat} {oo : Option Addr} {on oc : Nat} {gv0 gv gv1 : Value} {gs : List Gate} {W : World} (h : Mid9 w base N oo on oc gv0 gv gs gv1 W) :
    (W.cell? ⟨w.heap.size, 0, none⟩ = some (.int .i64 N) ∧ W.cell? ⟨w.heap.size, 1, none⟩ = some gv ∧ W.cell? ⟨w.heap.size, 2, none⟩ = some (.slice oo on oc)) ∧ W.frozen? ⟨w.heap.size, 0, none⟩ = false ∧ W.frozen? ⟨w.heap.size, 1, none⟩ = false ∧ W.frozen? ⟨w.heap.size, 2, none⟩ = false := by
  have := h.box
  refine ⟨⟨?_, ?_, ?_⟩, ?_, ?_, ?_⟩ <;> simp [World.cell?, World.frozen?, this]
theorem Mid9.rcells {w : World} {base N : Nat} {oo : Option Addr} {on oc : Nat} {gv0 gv gv1 : Value} {gs : List Gate} {W : World} (h : Mid9 w base N oo on oc gv0 gv gs gv1 W) :
    (W.cell? ⟨w.heap.size + 1, 0, none⟩ = some (.int .i64 0) ∧ W.cell? ⟨w.heap.size + 1, 1, none⟩ = some (.slice none 0 0) ∧ W.cell? ⟨w.heap.size + 1, 2, none⟩ = some (.slice none 0 0)) ∧ W.frozen? ⟨w.heap.size + 1, 0, none⟩ = false ∧ W.frozen? ⟨w.heap.size + 1, 1, none⟩ = false ∧ W.frozen? ⟨w.heap.size + 1, 2, none⟩ = false := by
  have := h.res
  refine ⟨⟨?_, ?_, ?_⟩, ?_, ?_, ?_⟩ <;> simp [World.cell?, World.frozen?, this]
theorem Mid9.store {w : World} {base N : Nat} {oo : Option Addr} {on oc : Nat} {gv0 gv gv1 : Value} {gs : List Gate} {W : World} (h : Mid9 w base N oo on oc gv0 gv gs gv1 W) :
    Bx9 w base N oo on oc gv0 gs gv1 (((W.setCell ⟨w.heap.size, 0, none⟩ (.int .i64 N)).setCell ⟨w.heap.size, 1, none⟩ gv1).setCell ⟨w.heap.size, 2, none⟩ (.slice oo on oc)) :=
  ⟨Go.Proofs.YtjbhgimhcjcpmaaGreatDoor.set3 h.box _ _ _, (set3_other _ _ _ _ _ _ (by omega)).trans h.res, h.st.set3 (Nat.le_refl _) h.box (by decide) _ _ _⟩
theorem Mid9.result {w : World} {base N : Nat} {oo : Option Addr} {on oc : Nat} {gv0 gv gv1 : Value} {gs : List Gate} {W : World} (h : Mid9 w base N oo on oc gv0 gv gs gv1 W) (o' : Value) :
    (((W.setCell ⟨w.heap.size + 1, 0, none⟩ (.int .i64 N)).setCell ⟨w.heap.size + 1, 1, none⟩ gv1).setCell ⟨w.heap.size + 1, 2, none⟩ o').heap[w.heap.size + 1]? = some (.cells #[.int .i64 N, gv1, o'] 184 (0, 0)) ∧
    GStep base w (((W.setCell ⟨w.heap.size + 1, 0, none⟩ (.int .i64 N)).setCell ⟨w.heap.size + 1, 1, none⟩ gv1).setCell ⟨w.heap.size + 1, 2, none⟩ o') gs gv0 gv1 :=
  ⟨Go.Proofs.YtjbhgimhcjcpmaaGreatDoor.set3 h.res _ _ _, h.st.set3 (by omega) h.res (by decide) _ _ _⟩
theorem gate_form {base : Nat} {w w1 : World} {gs : List Gate} {gv gv1 : Value} (h : GStep base w w1 gs gv gv1) : ∃ ao c, gv1 = .slice ao gs.length c := by
  obtain ⟨ao, c, hv, _⟩ := (Arr.of_owns h.own).open
  exact ⟨ao, c, hv⟩
theorem put9_x (base : Nat) (N : Nat) (gs : List Gate) (gv : Value) (oo : Option Addr) (on oc : Nat) (k a b : Int) (w : World) (hown : w.ownsRow base 217 3 gv gs.length (gcells gs)) (hbase : base ≤ w.heap.size) (hN : N ≤ 1000) (hg : gs.length ≤ 100000) :
    Calls Tryz.prog 125 #[.agg #[.int .i64 N, gv, .slice oo on oc], .int .i64 k, .int .i64 a, .int .i64 b] w fun e w' =>
      ∃ (ao : Option Addr) (n c : Nat) (z : Int), e = .returned (.tuple #[.agg #[.int .i64 N, .slice ao n c, .slice oo on oc], .int .i64 z]) ∧ GStep base w w' (gs ++ [⟨k, a, b⟩]) gv (.slice ao n c) :=
  (put9_any base N gs gv oo on oc k a b w hown hbase hN hg).mono fun e w' ⟨gv', he, hs⟩ => by
    obtain ⟨ao, c, rfl⟩ := gate_form hs
    exact ⟨ao, _, c, _, he, hs⟩
end Go.Proofs.YtjbhgimhcjcpmaaGreatDoor

/-
  THE CONTRACT of twainref09.carry.
-/
namespace Go.Proofs.YtjbhgimhcjcpmaaGreatDoor
open Go.RowKit

set_option maxHeartbeats 1000000 in
set_option maxRecDepth 100000 in
theorem carry9_any (base : Nat) (N : Nat) (gs : List Gate) (gv : Value) (oo : Option Addr) (on oc : Nat) (a b c : Int) (w : World) (hown : w.ownsRow base 217 3 gv gs.length (gcells gs)) (hbase : base ≤ w.heap.size) (hN : N ≤ 1000) (hg : gs.length ≤ 90000) :
    Calls Tryz.prog 134 #[.agg #[.int .i64 N, gv, .slice oo on oc], .int .i64 a, .int .i64 b, .int .i64 c] w fun e w' =>
      ∃ (gv' : Value) (z : Int) (g1 g2 g3 g4 : Gate), e = .returned (.tuple #[.agg #[.int .i64 N, gv', .slice oo on oc], .int .i64 z]) ∧ (g1.k = 1 ∧ g2.k = 1 ∧ g3.k = 2 ∧ g4.k = 1) ∧ GStep base w w' ((((gs ++ [g1]) ++ [g2]) ++ [g3]) ++ [g4]) gv gv' := by
  obtain ⟨ao, cc, rfl, hcc, hm, hx, hy⟩ := (Arr.of_owns hown).open
  clear hx hy hm
  have HB0 := Lib.hid (Bx9.start N oo on oc hown)
  clear hown
  go_enter Tryz.func134, Tryz.ntmps134
  go_upto_region 1 with fail
  generalize ((w.alloc (.cells #[.int .i64 N, .slice ao gs.length cc, .slice oo on oc] 184)).alloc (.cells #[.int .i64 0, .slice none 0 0, .slice none 0 0] 184)) = W0 at HB0 ⊢
  obtain ⟨⟨c0, c1, c2⟩, f0, f1, f2⟩ := HB0.out.cells
  go_upto_region 2 with (go_at_call 125; go_must (refine (put9_x base N _ _ oo on oc _ _ _ _ HB0.out.st.own (Nat.le_trans hbase HB0.out.st.fr.size) hN (by first | omega | (simp only [List.length_append, List.length_cons, List.length_nil]; omega))).mono ?_; rintro e w1 ⟨a1, n1, k1, z1, rfl, hs1⟩; have hm := HB0.out.call hs1; have HM1 := Lib.hid hm; obtain ⟨⟨d0, d1, d2⟩, e0, e1, e2⟩ := hm.cells; clear hm hs1 c0 c1 c2 f0 f1 f2))
  have HB1 := Lib.hid HM1.out.store
  clear d0 d1 d2 e0 e1 e2 HM1
  generalize ((w1.setCell ⟨w.heap.size, 0, none⟩ (.int .i64 N)).setCell ⟨w.heap.size, 1, none⟩ (.slice a1 n1 k1)).setCell ⟨w.heap.size, 2, none⟩ (.slice oo on oc) = W1 at HB1 ⊢
  obtain ⟨⟨c0, c1, c2⟩, f0, f1, f2⟩ := HB1.out.cells
  go_upto_region 3 with (go_at_call 125; go_must (refine (put9_x base N _ _ oo on oc _ _ _ _ HB1.out.st.own (Nat.le_trans hbase HB1.out.st.fr.size) hN (by first | omega | (simp only [List.length_append, List.length_cons, List.length_nil]; omega))).mono ?_; rintro e w2 ⟨a2, n2, k2, z2, rfl, hs2⟩; have hm := HB1.out.call hs2; have HM2 := Lib.hid hm; obtain ⟨⟨d0, d1, d2⟩, e0, e1, e2⟩ := hm.cells; clear hm hs2 c0 c1 c2 f0 f1 f2))
  have HB2 := Lib.hid HM2.out.store
  clear d0 d1 d2 e0 e1 e2 HM2
  generalize ((w2.setCell ⟨w.heap.size, 0, none⟩ (.int .i64 N)).setCell ⟨w.heap.size, 1, none⟩ (.slice a2 n2 k2)).setCell ⟨w.heap.size, 2, none⟩ (.slice oo on oc) = W2 at HB2 ⊢
  obtain ⟨⟨c0, c1, c2⟩, f0, f1, f2⟩ := HB2.out.cells
  go_upto_region 4 with (go_at_call 125; go_must (refine (put9_x base N _ _ oo on oc _ _ _ _ HB2.out.st.own (Nat.le_trans hbase HB2.out.st.fr.size) hN (by first | omega | (simp only [List.length_append, List.length_cons, List.length_nil]; omega))).mono ?_; rintro e w3 ⟨a3, n3, k3, z3, rfl, hs3⟩; have hm := HB2.out.call hs3; have HM3 := Lib.hid hm; obtain ⟨⟨d0, d1, d2⟩, e0, e1, e2⟩ := hm.cells; clear hm hs3 c0 c1 c2 f0 f1 f2))
  have HB3 := Lib.hid HM3.out.store
  clear d0 d1 d2 e0 e1 e2 HM3
  generalize ((w3.setCell ⟨w.heap.size, 0, none⟩ (.int .i64 N)).setCell ⟨w.heap.size, 1, none⟩ (.slice a3 n3 k3)).setCell ⟨w.heap.size, 2, none⟩ (.slice oo on oc) = W3 at HB3 ⊢
  obtain ⟨⟨c0, c1, c2⟩, f0, f1, f2⟩ := HB3.out.cells
  go_wp2_with (go_at_call 125; go_must (refine (put9_x base N _ _ oo on oc _ _ _ _ HB3.out.st.own (Nat.le_trans hbase HB3.out.st.fr.size) hN (by first | omega | (simp only [List.length_append, List.length_cons, List.length_nil]; omega))).mono ?_; rintro e w4 ⟨a4, n4, k4, z4, rfl, hs4⟩; have hm := HB3.out.call hs4; have HM4 := Lib.hid hm; obtain ⟨⟨d0, d1, d2⟩, e0, e1, e2⟩ := hm.rcells; clear hm hs4 c0 c1 c2 f0 f1 f2))
  obtain ⟨hr, hst⟩ := HM4.out.result (.slice oo on oc)
  refine bodyPost_ret (results_cell_tmp rfl _ _ (w.heap.size + 1) 184 #[_, _, _] _ _ rfl hr Tryz.underlying184 rfl info_circ9) rfl ?_
  exact ⟨_, _, _, _, _, _, rfl, ⟨rfl, rfl, rfl, rfl⟩, hst⟩
end Go.Proofs.YtjbhgimhcjcpmaaGreatDoor

/-
  THE CONTRACT of twainref09.operand.
-/
namespace Go.Proofs.YtjbhgimhcjcpmaaGreatDoor
open Go.RowKit

theorem GStep.ints {base b2 : Nat} {w w1 : World} {gs gs0 : List Gate} {gv gv1 : Value} (h : GStep base w w1 gs gv gv1) (h0 : w.ownsRow base 217 3 gv gs0.length (gcells gs0)) {x : Value} {n : Nat} {xs : List Value} (hx : w.ownsRow b2 3 1 x n xs) : w1.ownsRow b2 3 1 x n xs := by
  refine own_keep9 hx fun j hj => h.fr.block j (hx.lt j hj).2 fun e => ?_
  rcases h0.2 with ⟨rfl, _⟩ | ⟨g, cap, cur, rfl, _, hg, _⟩
  · simp [Value.ownBlock] at e
  · simp only [Value.ownBlock, Option.some.injEq] at e
    subst e
    rcases hx.2 with ⟨rfl, _⟩ | ⟨g', cap', cur', rfl, _, hg', _⟩
    · simp [Value.ownBlock] at hj
    · simp only [Value.ownBlock, Option.some.injEq] at hj
      subst hj
      rw [hg'] at hg
      simp at hg
theorem ints_ne {w : World} {b2 : Nat} {x : Value} {n : Nat} {xs : List Value} (hx : w.ownsRow b2 3 1 x n xs) {b : Nat} {cs : Array Value} {t : TypeId} {fr : Nat × Nat} (hb : w.heap[b]? = some (.cells cs t fr)) (ht : t ≠ 3) : x.ownBlock ≠ some b := by
  intro e
  rcases hx.2 with ⟨rfl, _⟩ | ⟨g, cap, cur, rfl, _, hg, _⟩
  · simp [Value.ownBlock] at e
  · simp only [Value.ownBlock, Option.some.injEq] at e
    subst e
    rw [hb] at hg
    simp only [Option.some.injEq, Obj.cells.injEq] at hg
    exact ht hg.2.1
/-- New numbers appended elsewhere leave the circuit. -/
theorem GStep.grown {base b2 : Nat} {w w1 w2 : World} {gs : List Gate} {gv gv1 : Value} (h : GStep base w w1 gs gv gv1) {x : Value} {n : Nat} {xs : List Value} (hx : w1.ownsRow b2 3 1 x n xs) (hb2 : w.heap.size ≤ b2) (hg : w1.grownBy w2 x.ownBlock) : GStep base w w2 gs gv gv1 := by
  refine ⟨own_keep9 h.own fun j hj => hg.block j (h.own.lt j hj).2 fun e => ?_, h.fr.andThen hg fun j hj => .inl ?_, h.lies⟩
  · rcases h.own.2 with ⟨rfl, _⟩ | ⟨g, cap, cur, rfl, _, hgg, _⟩
    · simp [Value.ownBlock] at hj
    · simp only [Value.ownBlock, Option.some.injEq] at hj
      subst hj
      exact ints_ne hx hgg (by decide) e.symm
  · have := (hx.lt j hj).1; omega
theorem Bx9.grown {w : World} {base N : Nat} {oo : Option Addr} {on oc : Nat} {gv0 : Value} {gs : List Gate} {gv : Value} {W W1 : World} (h : Bx9 w base N oo on oc gv0 gs gv W) {b2 : Nat} {x : Value} {n : Nat} {xs : List Value} (hx : W.ownsRow b2 3 1 x n xs) (hb2 : w.heap.size ≤ b2) (hg : W.grownBy W1 x.ownBlock) : Bx9 w base N oo on oc gv0 gs gv W1 :=
  ⟨(hg.block _ (by have := h.lt; omega) fun e => ints_ne hx h.box (by decide) e.symm).trans h.box, (hg.block _ h.lt fun e => ints_ne hx h.res (by decide) e.symm).trans h.res, h.st.grown hx hb2 hg⟩
theorem Bx9.ints {w : World} {base N : Nat} {oo : Option Addr} {on oc : Nat} {gv0 : Value} {gs : List Gate} {gv gv1 : Value} {W W1 : World} (h : Bx9 w base N oo on oc gv0 gs gv W) {gs1 : List Gate} (k : GStep base W W1 gs1 gv gv1) {b2 : Nat} {x : Value} {n : Nat} {xs : List Value} (hx : W.ownsRow b2 3 1 x n xs) : W1.ownsRow b2 3 1 x n xs := k.ints h.st.own hx
theorem set3_ints {W : World} {b : Nat} {cs : Array Value} {t : TypeId} {fr : Nat × Nat} (hb : W.heap[b]? = some (.cells cs t fr)) (ht : t ≠ 3) {b2 : Nat} {x : Value} {n : Nat} {xs : List Value} (hx : W.ownsRow b2 3 1 x n xs) (a c d : Value) :
    (((W.setCell ⟨b, 0, none⟩ a).setCell ⟨b, 1, none⟩ c).setCell ⟨b, 2, none⟩ d).ownsRow b2 3 1 x n xs :=
  own_keep9 hx fun j hj => set3_other _ _ _ _ _ _ fun e => ints_ne hx hb ht (by rw [hj, e])
theorem info_int_c : (Tryz.prog.info? 3).map (fun i => (i.zero, i.size, i.bytes)) = some (some (.int .i64 0), 1, 8) := by kernel_rfl
/-- The circuit in its block, besides it k wires. -/
structure Ox9 (w : World) (base N : Nat) (oo : Option Addr) (on oc : Nat) (gv0 : Value) (gs : List Gate) (gv x : Value) (k : Nat) (W : World) : Prop where
  bx : Bx9 w base N oo on oc gv0 gs gv W
  wires : ∃ l : List Int, l.length = k ∧ W.ownsRow (w.heap.size + 2) 3 1 x k (ints l)
theorem Ox9.start {w : World} {base N : Nat} {oo : Option Addr} {on oc : Nat} {gv0 : Value} {gs : List Gate} {gv : Value} {W : World} (h : Bx9 w base N oo on oc gv0 gs gv W) : Ox9 w base N oo on oc gv0 gs gv (.slice none 0 0) 0 W := ⟨h, [], rfl, World.ownsRow_nil _ _ _ _⟩
/-- Behind a call. -/
structure Om9 (w : World) (base N : Nat) (oo : Option Addr) (on oc : Nat) (gv0 gv : Value) (gs : List Gate) (gv1 x : Value) (k : Nat) (W : World) : Prop where
  mid : Mid9 w base N oo on oc gv0 gv gs gv1 W
  wires : ∃ l : List Int, l.length = k ∧ W.ownsRow (w.heap.size + 2) 3 1 x k (ints l)
theorem Ox9.call {w : World} {base N : Nat} {oo : Option Addr} {on oc : Nat} {gv0 : Value} {gs gs1 : List Gate} {gv gv1 x : Value} {k : Nat} {W W1 : World} (h : Ox9 w base N oo on oc gv0 gs gv x k W) (g : GStep base W W1 gs1 gv gv1) : Om9 w base N oo on oc gv0 gv gs1 gv1 x k W1 := by
  obtain ⟨l, hl, hx⟩ := h.wires
  exact ⟨h.bx.call g, l, hl, h.bx.ints g hx⟩
theorem Om9.store {w : World} {base N : Nat} {oo : Option Addr} {on oc : Nat} {gv0 gv gv1 x : Value} {gs : List Gate} {k : Nat} {W : World} (h : Om9 w base N oo on oc gv0 gv gs gv1 x k W) :
    Ox9 w base N oo on oc gv0 gs gv1 x k (((W.setCell ⟨w.heap.size, 0, none⟩ (.int .i64 N)).setCell ⟨w.heap.size, 1, none⟩ gv1).setCell ⟨w.heap.size, 2, none⟩ (.slice oo on oc)) := by
  obtain ⟨l, hl, hx⟩ := h.wires
  exact ⟨h.mid.store, l, hl, set3_ints h.mid.box (by decide) hx _ _ _⟩
theorem Ox9.add {w : World} {base N : Nat} {oo : Option Addr} {on oc : Nat} {gv0 : Value} {gs : List Gate} {gv x y : Value} {k : Nat} {W W1 : World} (h : Ox9 w base N oo on oc gv0 gs gv x k W) (hg : W.grownBy W1 x.ownBlock) {l : List Int} {z : Int} (hy : W1.ownsRow (w.heap.size + 2) 3 1 y (k + 1) (ints l ++ [.int .i64 z])) (hl : l.length = k) : Ox9 w base N oo on oc gv0 gs gv y (k + 1) W1 := by
  obtain ⟨l', hl', hx⟩ := h.wires
  exact ⟨h.bx.grown hx (by omega) hg, l ++ [z], by simp [hl], by simpa [ints] using hy⟩
end Go.Proofs.YtjbhgimhcjcpmaaGreatDoor

/-
  THE WALK of twainref09.operand.
-/
namespace Go.Proofs.YtjbhgimhcjcpmaaGreatDoor
open Go.RowKit

theorem carry9_x (base : Nat) (N : Nat) (gs : List Gate) (gv : Value) (oo : Option Addr) (on oc : Nat) (a b c : Int) (w : World) (hown : w.ownsRow base 217 3 gv gs.length (gcells gs)) (hbase : base ≤ w.heap.size) (hN : N ≤ 1000) (hg : gs.length ≤ 90000) :
    Calls Tryz.prog 134 #[.agg #[.int .i64 N, gv, .slice oo on oc], .int .i64 a, .int .i64 b, .int .i64 c] w fun e w' =>
      ∃ (ao : Option Addr) (n c : Nat) (z : Int) (g1 g2 g3 g4 : Gate), e = .returned (.tuple #[.agg #[.int .i64 N, .slice ao n c, .slice oo on oc], .int .i64 z]) ∧ (g1.k = 1 ∧ g2.k = 1 ∧ g3.k = 2 ∧ g4.k = 1) ∧ GStep base w w' ((((gs ++ [g1]) ++ [g2]) ++ [g3]) ++ [g4]) gv (.slice ao n c) :=
  (carry9_any base N gs gv oo on oc a b c w hown hbase hN hg).mono fun e w' ⟨gv', z, g1, g2, g3, g4, he, hk, hs⟩ => by
    obtain ⟨ao, c, rfl⟩ := gate_form hs
    exact ⟨ao, _, c, z, g1, g2, g3, g4, he, hk, hs⟩
theorem ands_snoc (gs : List Gate) (g : Gate) : ands (gs ++ [g]) = ands gs + if g.k = 2 then 1 else 0 := by
  unfold ands
  rw [List.filter_append]
  by_cases h : g.k = 2 <;> simp [h]
theorem ands_put (gs : List Gate) (k a b : Int) : ands (gs ++ [⟨k, a, b⟩]) = ands gs + if k = 2 then 1 else 0 := ands_snoc _ _
theorem ands_carry (gs : List Gate) (g1 g2 g3 g4 : Gate) (h : g1.k = 1 ∧ g2.k = 1 ∧ g3.k = 2 ∧ g4.k = 1) : ands ((((gs ++ [g1]) ++ [g2]) ++ [g3]) ++ [g4]) = ands gs + 1 := by
  rw [ands_snoc, ands_snoc, ands_snoc, ands_snoc, h.1, h.2.1, h.2.2.1, h.2.2.2]; rfl
theorem len_snoc (gs : List Gate) (g : Gate) : (gs ++ [g]).length = gs.length + 1 := by simp
theorem len_carry (gs : List Gate) (g1 g2 g3 g4 : Gate) : ((((gs ++ [g1]) ++ [g2]) ++ [g3]) ++ [g4]).length = gs.length + 4 := by simp
theorem Bx9.result {w : World} {base N : Nat} {oo : Option Addr} {on oc : Nat} {gv0 : Value} {gs : List Gate} {gv : Value} {W : World} (h : Bx9 w base N oo on oc gv0 gs gv W) :
    (((W.setCell ⟨w.heap.size + 1, 0, none⟩ (.int .i64 N)).setCell ⟨w.heap.size + 1, 1, none⟩ gv).setCell ⟨w.heap.size + 1, 2, none⟩ (.slice oo on oc)).heap[w.heap.size + 1]? = some (.cells #[.int .i64 N, gv, .slice oo on oc] 184 (0, 0)) ∧
    GStep base w (((W.setCell ⟨w.heap.size + 1, 0, none⟩ (.int .i64 N)).setCell ⟨w.heap.size + 1, 1, none⟩ gv).setCell ⟨w.heap.size + 1, 2, none⟩ (.slice oo on oc)) gs gv0 gv :=
  ⟨set3 h.res _ _ _, h.st.set3 (by omega) h.res (by decide) _ _ _⟩
/-- What operand answers: a circuit with more gates, A of them And gates more; 64 wires. -/
def OpPost (base N : Nat) (oo : Option Addr) (on oc : Nat) (gv : Value) (gs : List Gate) (A : Nat) (w : World) (e : Ending) (w' : World) : Prop :=
  ∃ (ao : Option Addr) (n c : Nat) (x : Value) (l : List Int) (gs' : List Gate), e = .returned (.tuple #[.agg #[.int .i64 N, .slice ao n c, .slice oo on oc], x]) ∧ l.length = 64 ∧ w'.ownsRow w.heap.size 3 1 x 64 (ints l) ∧
    ands gs' = ands gs + A ∧ gs'.length ≤ gs.length + 500 ∧ GStep base w w' gs' gv (.slice ao n c)

set_option maxHeartbeats 1000000 in
set_option maxRecDepth 100000 in
theorem operand9_xor (base : Nat) (N : Nat) (gs : List Gate) (gv : Value) (oo : Option Addr) (on oc : Nat) (a b : Nat) (w : World) (hown : w.ownsRow base 217 3 gv gs.length (gcells gs)) (hbase : base ≤ w.heap.size) (hN : N ≤ 1000) (hg : gs.length ≤ 20000) (ha : a ≤ 1000) (hb : b ≤ 1000) :
    Calls Tryz.prog 124 #[.agg #[.int .i64 N, gv, .slice oo on oc], .int .i64 a, .int .i64 b, .bool true] w (OpPost base N oo on oc gv gs 0 w) := by
  obtain ⟨ao, n0, cc, rfl⟩ : ∃ ao n c, gv = .slice ao n c := (by obtain ⟨ao, c, hv, _⟩ := (Arr.of_owns hown).open; exact ⟨ao, _, c, hv⟩)
  have HB0 := Lib.hid (Bx9.start N oo on oc hown)
  clear hown
  go_enter Tryz.func124, Tryz.ntmps124
  go_upto_region 1 with fail
  generalize ((w.alloc (.cells #[.int .i64 N, .slice ao n0 cc, .slice oo on oc] 184)).alloc (.cells #[.int .i64 0, .slice none 0 0, .slice none 0 0] 184)) = W0 at HB0 ⊢
  go_wp2_with fail
  go_loopg [10, 11, 12, 13] 64 (fun g x last kv tv wr => ∃ (k : Nat) (gs1 : List Gate) (ao1 : Option Addr) (n1 c1 : Nat) (z : Int) (tv' : Value), k ≤ 64 ∧ g = 64 - k ∧ kv = .int .i64 k ∧ last = .int .i64 z ∧ tv = tv' ∧ Hid (Ox9 w base N oo on oc (.slice ao n0 cc) gs1 (.slice ao1 n1 c1) x k wr) ∧ Hid (gs1.length ≤ gs.length + 6 * k ∧ ands gs1 = ands gs))
  case atStart => exact ⟨0, gs, ao, n0, cc, 0, _, by omega, rfl, rfl, rfl, rfl, Lib.hid (Ox9.start HB0.out), Lib.hid ⟨by omega, rfl⟩⟩
  case round =>
    obtain ⟨k, gs1, ao1, n1, c1, z, tv', hk, hg', rfl, rfl, rfl, HO1, HL1⟩ := hrel
    have hbl := HO1.out.bx.lt
    by_cases hk64 : k < 64
    · obtain ⟨⟨c0, c1, c2⟩, f0, f1, f2⟩ := HO1.out.bx.cells
      go_upto_region 8 with (go_at_call 125; go_must (refine (put9_x base N _ _ oo on oc _ _ _ _ HO1.out.bx.st.own (Nat.le_trans hbase HO1.out.bx.st.fr.size) hN (by have := HL1.out.1; first | omega | (simp only [len_snoc, len_carry]; omega))).mono ?_; rintro e w2 ⟨a2, n2, k2, z2, rfl, hs2⟩; have hm := HO1.out.call hs2; have HM2 := Lib.hid hm; obtain ⟨⟨d0, d1, d2⟩, e0, e1, e2⟩ := hm.mid.cells; clear hm hs2 c0 c1 c2 f0 f1 f2))
      have HO2 := Lib.hid HM2.out.store
      skip
      clear d0 d1 d2 e0 e1 e2 HM2
      generalize ((w2.setCell ⟨w.heap.size, 0, none⟩ (.int .i64 N)).setCell ⟨w.heap.size, 1, none⟩ (.slice a2 n2 k2)).setCell ⟨w.heap.size, 2, none⟩ (.slice oo on oc) = W2 at HO2 ⊢
      obtain ⟨⟨c0, c1, c2⟩, f0, f1, f2⟩ := HO2.out.bx.cells
      go_wp2_with (at_builtin; obtain ⟨l, hl, hx⟩ := HO2.out.wires; refine app_k rfl _ _ 24 rfl 3 _ 1 8 Tryz.underlying24 info_int_c rfl (by decide) #[_] _ _ _ _ hx rfl rfl rfl (by intro u hu; simp at hu; subst hu; rfl) (by have := HO2.out.bx.lt; omega) (by omega) (by unfold maxLen; omega) ?_; intro y w9 hown9 hg9 _; go_must (have HO9 := Lib.hid (HO2.out.add hg9 hown9 hl); clear hown9 hg9 hx hl))
      go_roundg (64 - (k + 1))
      case measure => omega
      case rel => exact ⟨k + 1, _, a2, n2, k2, z, _, by omega, rfl, by go_num, rfl, rfl, HO9, Lib.hid ⟨by rw [len_snoc]; have := HL1.out.1; omega, by rw [ands_put]; have := HL1.out.2; simpa using this⟩⟩
    · obtain rfl : k = 64 := by omega
      obtain ⟨⟨c0, c1, c2⟩, f0, f1, f2⟩ := HO1.out.bx.cells
      obtain ⟨⟨d0, d1, d2⟩, e0, e1, e2⟩ := HO1.out.bx.rcells
      go_wp2_with fail
      obtain ⟨l, hl, hx⟩ := HO1.out.wires
      obtain ⟨hr, hst⟩ := HO1.out.bx.result
      refine bodyPost_ret (results_cell_tmp rfl _ _ (w.heap.size + 1) 184 #[_, _, _] _ _ rfl hr Tryz.underlying184 rfl info_circ9) rfl ?_
      exact ⟨_, _, _, _, l, gs1, rfl, hl, owns_base (set3_ints HO1.out.bx.res (by decide) hx _ _ _) (by omega), by have := HL1.out.2; omega, by have := HL1.out.1; omega, hst⟩

set_option maxHeartbeats 1000000 in
set_option maxRecDepth 100000 in
theorem operand9_sum (base : Nat) (N : Nat) (gs : List Gate) (gv : Value) (oo : Option Addr) (on oc : Nat) (a b : Nat) (w : World) (hown : w.ownsRow base 217 3 gv gs.length (gcells gs)) (hbase : base ≤ w.heap.size) (hN : N ≤ 1000) (hg : gs.length ≤ 20000) (ha : a ≤ 1000) (hb : b ≤ 1000) :
    Calls Tryz.prog 124 #[.agg #[.int .i64 N, gv, .slice oo on oc], .int .i64 a, .int .i64 b, .bool false] w (OpPost base N oo on oc gv gs 63 w) := by
  obtain ⟨ao, n0, cc, rfl⟩ : ∃ ao n c, gv = .slice ao n c := (by obtain ⟨ao, c, hv, _⟩ := (Arr.of_owns hown).open; exact ⟨ao, _, c, hv⟩)
  have HB0 := Lib.hid (Bx9.start N oo on oc hown)
  clear hown
  go_enter Tryz.func124, Tryz.ntmps124
  go_upto_region 1 with fail
  generalize ((w.alloc (.cells #[.int .i64 N, .slice ao n0 cc, .slice oo on oc] 184)).alloc (.cells #[.int .i64 0, .slice none 0 0, .slice none 0 0] 184)) = W0 at HB0 ⊢
  go_wp2_with fail
  go_loopg [10, 11, 12, 13] 64 (fun g x last kv tv wr => ∃ (k : Nat) (gs1 : List Gate) (ao1 : Option Addr) (n1 c1 : Nat) (z : Int) (tv' : Value), k ≤ 64 ∧ g = 64 - k ∧ kv = .int .i64 k ∧ last = .int .i64 z ∧ tv = tv' ∧ Hid (Ox9 w base N oo on oc (.slice ao n0 cc) gs1 (.slice ao1 n1 c1) x k wr) ∧ Hid (gs1.length ≤ gs.length + 6 * k ∧ ands gs1 = ands gs + min k 63))
  case atStart => exact ⟨0, gs, ao, n0, cc, 0, _, by omega, rfl, rfl, rfl, rfl, Lib.hid (Ox9.start HB0.out), Lib.hid ⟨by omega, by omega⟩⟩
  case round =>
    obtain ⟨k, gs1, ao1, n1, c1, z, tv', hk, hg', rfl, rfl, rfl, HO1, HL1⟩ := hrel
    have hbl := HO1.out.bx.lt
    by_cases hk64 : k < 64
    · obtain ⟨⟨c0, c1, c2⟩, f0, f1, f2⟩ := HO1.out.bx.cells
      go_upto_region 8 with (go_at_call 125; go_must (refine (put9_x base N _ _ oo on oc _ _ _ _ HO1.out.bx.st.own (Nat.le_trans hbase HO1.out.bx.st.fr.size) hN (by have := HL1.out.1; first | omega | (simp only [len_snoc, len_carry]; omega))).mono ?_; rintro e w2 ⟨a2, n2, k2, z2, rfl, hs2⟩; have hm := HO1.out.call hs2; have HM2 := Lib.hid hm; obtain ⟨⟨d0, d1, d2⟩, e0, e1, e2⟩ := hm.mid.cells; clear hm hs2 c0 c1 c2 f0 f1 f2))
      have HO2 := Lib.hid HM2.out.store
      skip
      clear d0 d1 d2 e0 e1 e2 HM2
      generalize ((w2.setCell ⟨w.heap.size, 0, none⟩ (.int .i64 N)).setCell ⟨w.heap.size, 1, none⟩ (.slice a2 n2 k2)).setCell ⟨w.heap.size, 2, none⟩ (.slice oo on oc) = W2 at HO2 ⊢
      obtain ⟨⟨c0, c1, c2⟩, f0, f1, f2⟩ := HO2.out.bx.cells
      by_cases hk0 : k = 0
      · subst hk0
        go_upto_region 15 with (go_at_call 125; go_must (refine (put9_x base N _ _ oo on oc _ _ _ _ HO2.out.bx.st.own (Nat.le_trans hbase HO2.out.bx.st.fr.size) hN (by have := HL1.out.1; first | omega | (simp only [len_snoc, len_carry]; omega))).mono ?_; rintro e w3 ⟨a3, n3, k3, z3, rfl, hs3⟩; have hm := HO2.out.call hs3; have HM3 := Lib.hid hm; obtain ⟨⟨d0, d1, d2⟩, e0, e1, e2⟩ := hm.mid.cells; clear hm hs3 c0 c1 c2 f0 f1 f2))
        have HO3 := Lib.hid HM3.out.store
        skip
        clear d0 d1 d2 e0 e1 e2 HM3
        generalize ((w3.setCell ⟨w.heap.size, 0, none⟩ (.int .i64 N)).setCell ⟨w.heap.size, 1, none⟩ (.slice a3 n3 k3)).setCell ⟨w.heap.size, 2, none⟩ (.slice oo on oc) = W3 at HO3 ⊢
        obtain ⟨⟨c0, c1, c2⟩, f0, f1, f2⟩ := HO3.out.bx.cells
        go_wp2_with (at_builtin; obtain ⟨l, hl, hx⟩ := HO3.out.wires; refine app_k rfl _ _ 24 rfl 3 _ 1 8 Tryz.underlying24 info_int_c rfl (by decide) #[_] _ _ _ _ hx rfl rfl rfl (by intro u hu; simp at hu; subst hu; rfl) (by have := HO3.out.bx.lt; omega) (by omega) (by unfold maxLen; omega) ?_; intro y w9 hown9 hg9 _; go_must (have HO9 := Lib.hid (HO3.out.add hg9 hown9 hl); clear hown9 hg9 hx hl))
        go_roundg (64 - (0 + 1))
        case measure => omega
        case rel => exact ⟨0 + 1, _, a3, n3, k3, _, _, by omega, rfl, by go_num, rfl, rfl, HO9, Lib.hid ⟨by simp only [len_snoc, len_carry]; have := HL1.out.1; omega, by rw [ands_put, ands_put, if_neg (by decide), if_pos rfl]; have := HL1.out.2; omega⟩⟩
      · have hk0' : ((k : Int) == 0) = false := by simp; omega
        go_upto_region 13 with (go_at_call 125; go_must (refine (put9_x base N _ _ oo on oc _ _ _ _ HO2.out.bx.st.own (Nat.le_trans hbase HO2.out.bx.st.fr.size) hN (by have := HL1.out.1; first | omega | (simp only [len_snoc, len_carry]; omega))).mono ?_; rintro e w3 ⟨a3, n3, k3, z3, rfl, hs3⟩; have hm := HO2.out.call hs3; have HM3 := Lib.hid hm; obtain ⟨⟨d0, d1, d2⟩, e0, e1, e2⟩ := hm.mid.cells; clear hm hs3 c0 c1 c2 f0 f1 f2))
        have HO3 := Lib.hid HM3.out.store
        skip
        clear d0 d1 d2 e0 e1 e2 HM3
        generalize ((w3.setCell ⟨w.heap.size, 0, none⟩ (.int .i64 N)).setCell ⟨w.heap.size, 1, none⟩ (.slice a3 n3 k3)).setCell ⟨w.heap.size, 2, none⟩ (.slice oo on oc) = W3 at HO3 ⊢
        obtain ⟨⟨c0, c1, c2⟩, f0, f1, f2⟩ := HO3.out.bx.cells
        by_cases hk63 : k < 63
        · have hd : decide ((k : Int) < 63) = true := by simp; omega
          go_upto_region 15 with (go_at_call 134; go_must (refine (carry9_x base N _ _ oo on oc _ _ _ _ HO3.out.bx.st.own (Nat.le_trans hbase HO3.out.bx.st.fr.size) hN (by have := HL1.out.1; first | omega | (simp only [len_snoc, len_carry]; omega))).mono ?_; rintro e w4 ⟨a4, n4, k4, z4, g1, g2, g3, g4, rfl, hq, hs4⟩; have hm := HO3.out.call hs4; have HM4 := Lib.hid hm; obtain ⟨⟨d0, d1, d2⟩, e0, e1, e2⟩ := hm.mid.cells; clear hm hs4 c0 c1 c2 f0 f1 f2))
          have HO4 := Lib.hid HM4.out.store
          skip
          clear d0 d1 d2 e0 e1 e2 HM4
          generalize ((w4.setCell ⟨w.heap.size, 0, none⟩ (.int .i64 N)).setCell ⟨w.heap.size, 1, none⟩ (.slice a4 n4 k4)).setCell ⟨w.heap.size, 2, none⟩ (.slice oo on oc) = W4 at HO4 ⊢
          obtain ⟨⟨c0, c1, c2⟩, f0, f1, f2⟩ := HO4.out.bx.cells
          go_wp2_with (at_builtin; obtain ⟨l, hl, hx⟩ := HO4.out.wires; refine app_k rfl _ _ 24 rfl 3 _ 1 8 Tryz.underlying24 info_int_c rfl (by decide) #[_] _ _ _ _ hx rfl rfl rfl (by intro u hu; simp at hu; subst hu; rfl) (by have := HO4.out.bx.lt; omega) (by omega) (by unfold maxLen; omega) ?_; intro y w9 hown9 hg9 _; go_must (have HO9 := Lib.hid (HO4.out.add hg9 hown9 hl); clear hown9 hg9 hx hl))
          go_roundg (64 - (k + 1))
          case measure => omega
          case rel => exact ⟨k + 1, _, a4, n4, k4, _, _, by omega, rfl, by go_num, rfl, rfl, HO9, Lib.hid ⟨by simp only [len_snoc, len_carry]; have := HL1.out.1; omega, by rw [ands_carry _ _ _ _ _ hq, ands_put, ands_put, if_neg (by decide)]; have := HL1.out.2; omega⟩⟩
        · have hd : decide ((k : Int) < 63) = false := by simp; omega
          go_wp2_with (at_builtin; obtain ⟨l, hl, hx⟩ := HO3.out.wires; refine app_k rfl _ _ 24 rfl 3 _ 1 8 Tryz.underlying24 info_int_c rfl (by decide) #[_] _ _ _ _ hx rfl rfl rfl (by intro u hu; simp at hu; subst hu; rfl) (by have := HO3.out.bx.lt; omega) (by omega) (by unfold maxLen; omega) ?_; intro y w9 hown9 hg9 _; go_must (have HO9 := Lib.hid (HO3.out.add hg9 hown9 hl); clear hown9 hg9 hx hl))
          go_roundg (64 - (k + 1))
          case measure => omega
          case rel => exact ⟨k + 1, _, a3, n3, k3, _, _, by omega, rfl, by go_num, rfl, rfl, HO9, Lib.hid ⟨by simp only [len_snoc, len_carry]; have := HL1.out.1; omega, by rw [ands_put, ands_put, if_neg (by decide)]; have := HL1.out.2; omega⟩⟩

    · obtain rfl : k = 64 := by omega
      obtain ⟨⟨c0, c1, c2⟩, f0, f1, f2⟩ := HO1.out.bx.cells
      obtain ⟨⟨d0, d1, d2⟩, e0, e1, e2⟩ := HO1.out.bx.rcells
      go_wp2_with fail
      obtain ⟨l, hl, hx⟩ := HO1.out.wires
      obtain ⟨hr, hst⟩ := HO1.out.bx.result
      refine bodyPost_ret (results_cell_tmp rfl _ _ (w.heap.size + 1) 184 #[_, _, _] _ _ rfl hr Tryz.underlying184 rfl info_circ9) rfl ?_
      exact ⟨_, _, _, _, l, gs1, rfl, hl, owns_base (set3_ints HO1.out.bx.res (by decide) hx _ _ _) (by omega), by have := HL1.out.2; omega, by have := HL1.out.1; omega, hst⟩

end Go.Proofs.YtjbhgimhcjcpmaaGreatDoor

/-
  THE CONTRACT of twainref09.less.
-/
namespace Go.Proofs.YtjbhgimhcjcpmaaGreatDoor
open Go.RowKit
set_option linter.unusedSimpArgs false

/-- The circuit in its block; two words' wires to be read. -/
structure Lx9 (w : World) (base N : Nat) (oo : Option Addr) (on oc : Nat) (gv0 : Value) (gs : List Gate) (gv : Value) (gx cx gy cy : Nat) (lx ly : List Int) (W : World) : Prop where
  bx : Bx9 w base N oo on oc gv0 gs gv W
  x : W.ownsRow 0 3 1 (.slice (some ⟨gx, 0, none⟩) 64 cx) 64 (ints lx)
  y : W.ownsRow 0 3 1 (.slice (some ⟨gy, 0, none⟩) 64 cy) 64 (ints ly)
structure Lm9 (w : World) (base N : Nat) (oo : Option Addr) (on oc : Nat) (gv0 gv : Value) (gs : List Gate) (gv1 : Value) (gx cx gy cy : Nat) (lx ly : List Int) (W : World) : Prop where
  mid : Mid9 w base N oo on oc gv0 gv gs gv1 W
  x : W.ownsRow 0 3 1 (.slice (some ⟨gx, 0, none⟩) 64 cx) 64 (ints lx)
  y : W.ownsRow 0 3 1 (.slice (some ⟨gy, 0, none⟩) 64 cy) 64 (ints ly)
theorem ints_at {W : World} {g c : Nat} {l : List Int} (h : W.ownsRow 0 3 1 (.slice (some ⟨g, 0, none⟩) 64 c) 64 (ints l)) (k : Nat) (hk : k < 64) : W.cell? ⟨g, k, none⟩ = some (.int .i64 (l.getD k 0)) := by
  have hl : l.length = 64 := by have := h.1; simpa [ints] using this
  have := h.cellAt k (by omega)
  simp only [ints, List.getElem?_map, List.getElem?_eq_getElem (show k < l.length by omega), Option.map_some] at this
  simpa [List.getD, show k < l.length by omega] using this
theorem Lx9.xat {w : World} {base N : Nat} {oo : Option Addr} {on oc : Nat} {gv0 : Value} {gs : List Gate} {gv : Value} {gx cx gy cy : Nat} {lx ly : List Int} {W : World} (h : Lx9 w base N oo on oc gv0 gs gv gx cx gy cy lx ly W) (k : Nat) (hk : k < 64) : W.cell? ⟨gx, k, none⟩ = some (.int .i64 (lx.getD k 0)) := ints_at h.x k hk
theorem Lx9.yat {w : World} {base N : Nat} {oo : Option Addr} {on oc : Nat} {gv0 : Value} {gs : List Gate} {gv : Value} {gx cx gy cy : Nat} {lx ly : List Int} {W : World} (h : Lx9 w base N oo on oc gv0 gs gv gx cx gy cy lx ly W) (k : Nat) (hk : k < 64) : W.cell? ⟨gy, k, none⟩ = some (.int .i64 (ly.getD k 0)) := ints_at h.y k hk
theorem Lx9.call {w : World} {base N : Nat} {oo : Option Addr} {on oc : Nat} {gv0 : Value} {gs gs1 : List Gate} {gv gv1 : Value} {gx cx gy cy : Nat} {lx ly : List Int} {W W1 : World} (h : Lx9 w base N oo on oc gv0 gs gv gx cx gy cy lx ly W) (g : GStep base W W1 gs1 gv gv1) : Lm9 w base N oo on oc gv0 gv gs1 gv1 gx cx gy cy lx ly W1 :=
  ⟨h.bx.call g, h.bx.ints g h.x, h.bx.ints g h.y⟩
theorem Lm9.xat {w : World} {base N : Nat} {oo : Option Addr} {on oc : Nat} {gv0 gv gv1 : Value} {gs : List Gate} {gx cx gy cy : Nat} {lx ly : List Int} {W : World} (h : Lm9 w base N oo on oc gv0 gv gs gv1 gx cx gy cy lx ly W) (k : Nat) (hk : k < 64) : W.cell? ⟨gx, k, none⟩ = some (.int .i64 (lx.getD k 0)) := ints_at h.x k hk
theorem Lm9.yat {w : World} {base N : Nat} {oo : Option Addr} {on oc : Nat} {gv0 gv gv1 : Value} {gs : List Gate} {gx cx gy cy : Nat} {lx ly : List Int} {W : World} (h : Lm9 w base N oo on oc gv0 gv gs gv1 gx cx gy cy lx ly W) (k : Nat) (hk : k < 64) : W.cell? ⟨gy, k, none⟩ = some (.int .i64 (ly.getD k 0)) := ints_at h.y k hk
theorem Lm9.store {w : World} {base N : Nat} {oo : Option Addr} {on oc : Nat} {gv0 gv gv1 : Value} {gs : List Gate} {gx cx gy cy : Nat} {lx ly : List Int} {W : World} (h : Lm9 w base N oo on oc gv0 gv gs gv1 gx cx gy cy lx ly W) :
    Lx9 w base N oo on oc gv0 gs gv1 gx cx gy cy lx ly (((W.setCell ⟨w.heap.size, 0, none⟩ (.int .i64 N)).setCell ⟨w.heap.size, 1, none⟩ gv1).setCell ⟨w.heap.size, 2, none⟩ (.slice oo on oc)) :=
  ⟨h.mid.store, set3_ints h.mid.box (by decide) h.x _ _ _, set3_ints h.mid.box (by decide) h.y _ _ _⟩
theorem ints_at63 {W : World} {g c : Nat} {l : List Int} (h : W.ownsRow 0 3 1 (.slice (some ⟨g, 0, none⟩) 64 c) 64 (ints l)) : W.cell? ⟨g, 63, none⟩ = some (.int .i64 (l.getD 63 0)) := ints_at h 63 (by omega)
theorem Bx9.drew {w : World} {base N : Nat} {oo : Option Addr} {on oc : Nat} {gv0 : Value} {gs : List Gate} {gv : Value} {W : World} (h : Bx9 w base N oo on oc gv0 gs gv W) : Bx9 w base N oo on oc gv0 gs gv W.drew := ⟨h.box, h.res, h.st.drew⟩
theorem Mid9.drew {w : World} {base N : Nat} {oo : Option Addr} {on oc : Nat} {gv0 gv gv1 : Value} {gs : List Gate} {W : World} (h : Mid9 w base N oo on oc gv0 gv gs gv1 W) : Mid9 w base N oo on oc gv0 gv gs gv1 W.drew := ⟨h.box, h.res, h.st.drew⟩
theorem Lx9.drew {w : World} {base N : Nat} {oo : Option Addr} {on oc : Nat} {gv0 : Value} {gs : List Gate} {gv : Value} {gx cx gy cy : Nat} {lx ly : List Int} {W : World} (h : Lx9 w base N oo on oc gv0 gs gv gx cx gy cy lx ly W) : Lx9 w base N oo on oc gv0 gs gv gx cx gy cy lx ly W.drew := ⟨h.bx.drew, h.x, h.y⟩

/-- What less answers: a circuit with 64 And gates more. -/
def LessPost (base N : Nat) (oo : Option Addr) (on oc : Nat) (gv : Value) (gs : List Gate) (w : World) (e : Ending) (w' : World) : Prop :=
  ∃ (ao : Option Addr) (n c : Nat) (z : Int) (gs' : List Gate), e = .returned (.tuple #[.agg #[.int .i64 N, .slice ao n c, .slice oo on oc], .int .i64 z]) ∧
    ands gs' = ands gs + 64 ∧ gs'.length ≤ gs.length + 500 ∧ GStep base w w' gs' gv (.slice ao n c)

set_option maxHeartbeats 2000000 in
set_option maxRecDepth 100000 in
theorem less9_any (base : Nat) (N : Nat) (gs : List Gate) (gv : Value) (oo : Option Addr) (on oc gx cx gy cy : Nat) (w : World) (hown : w.ownsRow base 217 3 gv gs.length (gcells gs)) (hbase : base ≤ w.heap.size) (hN : N ≤ 1000) (hg : gs.length ≤ 20000)
    (lx ly : List Int) (hx : w.ownsRow 0 3 1 (.slice (some ⟨gx, 0, none⟩) 64 cx) 64 (ints lx)) (hy : w.ownsRow 0 3 1 (.slice (some ⟨gy, 0, none⟩) 64 cy) 64 (ints ly)) :
    Calls Tryz.prog 126 #[.agg #[.int .i64 N, gv, .slice oo on oc], .slice (some ⟨gx, 0, none⟩) 64 cx, .slice (some ⟨gy, 0, none⟩) 64 cy] w (LessPost base N oo on oc gv gs w) := by
  obtain ⟨ao, n0, cc, rfl⟩ : ∃ ao n c, gv = .slice ao n c := (by obtain ⟨ao, c, hv, _⟩ := (Arr.of_owns hown).open; exact ⟨ao, _, c, hv⟩)
  have HO0 := Lib.hid (show Lx9 w base N oo on oc _ gs _ gx cx gy cy lx ly _ from ⟨Bx9.start N oo on oc hown, Below.owns hx (below_alloc2 _ _ _), Below.owns hy (below_alloc2 _ _ _)⟩)
  have HL1 := Lib.hid (show gs.length ≤ gs.length ∧ True by exact ⟨Nat.le_refl _, trivial⟩)
  clear hown hx hy
  go_enter Tryz.func126, Tryz.ntmps126
  go_upto_region 1 with fail
  generalize ((w.alloc (.cells #[.int .i64 N, .slice ao n0 cc, .slice oo on oc] 184)).alloc (.cells #[.int .i64 0, .slice none 0 0, .slice none 0 0] 184)) = W0 at HO0 ⊢
  obtain ⟨⟨c0, c1, c2⟩, f0, f1, f2⟩ := HO0.out.bx.cells
  have hz := HO0.out.xat 0 (by omega)
  obtain ⟨zz, hzz⟩ : ∃ zz, lx.getD 0 0 = zz := ⟨_, rfl⟩
  rw [hzz] at hz
  go_cut [8] from 11 to 18 (fun sd wx => ∃ (aj : Option Addr) (nj kj : Nat) (zj : Int) (gj : List Gate), sd = .int .i64 zj ∧ Hid (Lx9 w base N oo on oc (.slice ao n0 cc) gj (.slice aj nj kj) gx cx gy cy lx ly wx) ∧ Hid (gj.length ≤ gs.length + 1 ∧ ands gj = ands gs + 0))
  case first =>
    go_region_law (first | (go_simp; go_at_call 125; refine (put9_x base N _ _ oo on oc _ _ _ _ HO0.out.drew.bx.st.own (Nat.le_trans hbase HO0.out.drew.bx.st.fr.size) hN (by have := HL1.out.1; omega)).mono ?_; rintro e w1 ⟨a1, n1, k1, z1, rfl, hs1⟩; have hm := HO0.out.drew.call hs1; have HM1 := Lib.hid hm; obtain ⟨⟨d0, d1, d2⟩, e0, e1, e2⟩ := hm.mid.cells; have hz1 := hm.xat 0 (by omega); rw [hzz] at hz1; clear hm hz hs1 c0 c1 c2 f0 f1 f2))
    all_goals
      have HO1 := Lib.hid HM1.out.store
      (try go_simp)
      go_wp2_with fail
      go_meet
      exact ⟨a1, n1, k1, z1, _, rfl, HO1, Lib.hid ⟨by simp only [len_snoc, len_carry]; omega, by rw [ands_put, if_neg (by decide)]⟩⟩
  case rest =>
  obtain ⟨a1, n1, k1, z1, q1, rfl, HO1, HG1⟩ := hcut
  clear hz hzz c0 c1 c2 f0 f1 f2
  go_wp2_with fail
  obtain ⟨⟨c0, c1, c2⟩, f0, f1, f2⟩ := HO1.out.bx.cells
  have hz := HO1.out.yat 0 (by omega)
  obtain ⟨zz, hzz⟩ : ∃ zz, ly.getD 0 0 = zz := ⟨_, rfl⟩
  rw [hzz] at hz
  go_cut [9] from 19 to 27 (fun sd wx => ∃ (aj : Option Addr) (nj kj : Nat) (zj : Int) (gj : List Gate), sd = .int .i64 zj ∧ Hid (Lx9 w base N oo on oc (.slice ao n0 cc) gj (.slice aj nj kj) gx cx gy cy lx ly wx) ∧ Hid (gj.length ≤ q1.length + 1 ∧ ands gj = ands q1 + 1))
  case first =>
    go_region_law (first | (go_simp; go_at_call 125; refine (put9_x base N _ _ oo on oc _ _ _ _ HO1.out.drew.bx.st.own (Nat.le_trans hbase HO1.out.drew.bx.st.fr.size) hN (by have := HG1.out.1; omega)).mono ?_; rintro e w2 ⟨a2, n2, k2, z2, rfl, hs2⟩; have hm := HO1.out.drew.call hs2; have HM2 := Lib.hid hm; obtain ⟨⟨d0, d1, d2⟩, e0, e1, e2⟩ := hm.mid.cells; have hz2 := hm.yat 0 (by omega); rw [hzz] at hz2; clear hm hz hs2 c0 c1 c2 f0 f1 f2))
    all_goals
      have HO2 := Lib.hid HM2.out.store
      (try go_simp)
      go_wp2_with fail
      go_meet
      exact ⟨a2, n2, k2, z2, _, rfl, HO2, Lib.hid ⟨by simp only [len_snoc, len_carry]; omega, by rw [ands_put, if_pos rfl]⟩⟩
  case rest =>
  obtain ⟨a2, n2, k2, z2, q2, rfl, HO2, HG2⟩ := hcut
  clear hz hzz c0 c1 c2 f0 f1 f2
  go_wp2_with fail
  go_loopg [8, 9, 10] 62 (fun g nv last kv wr => ∃ (k : Nat) (gs1 : List Gate) (ao1 : Option Addr) (m1 c1 : Nat) (nz z : Int), k ≤ 63 ∧ g = 63 - k ∧ kv = .int .i64 k ∧ nv = .int .i64 nz ∧ last = .int .i64 z ∧ Hid (Lx9 w base N oo on oc (.slice ao n0 cc) gs1 (.slice ao1 m1 c1) gx cx gy cy lx ly wr) ∧ Hid (gs1.length ≤ gs.length + 5 * k ∧ ands gs1 = ands gs + k))
  case atStart => exact ⟨1, _, a2, n2, k2, _, _, by omega, rfl, rfl, rfl, rfl, HO2, Lib.hid ⟨by have := HG1.out.1; have := HG2.out.1; omega, by have := HG1.out.2; have := HG2.out.2; omega⟩⟩
  case round =>
    clear HO0 HO1 HO2 HL1 HG1 HG2
    obtain ⟨k, gs1, ao1, m1, c1, nz, z, hk, hg', rfl, rfl, rfl, HO3, HL1⟩ := hrel
    have hbl := HO3.out.bx.lt
    by_cases hk63 : k < 63
    · have hi0 : (0 : Int) ≤ (k : Int) := by omega
      have hi1 : (k : Int) < 64 := by omega
      have hdk : decide ((k : Int) < 63) = true := by simp; omega
      go_wp2_with fail
      obtain ⟨⟨c0, c1, c2⟩, f0, f1, f2⟩ := HO3.out.bx.cells
      have hz := HO3.out.xat k (by omega)
      obtain ⟨zz, hzz⟩ : ∃ zz, lx.getD k 0 = zz := ⟨_, rfl⟩
      rw [hzz] at hz
      go_cut [8] from 32 to 40 (fun sd wx => ∃ (aj : Option Addr) (nj kj : Nat) (zj : Int) (gj : List Gate), sd = .int .i64 zj ∧ Hid (Lx9 w base N oo on oc (.slice ao n0 cc) gj (.slice aj nj kj) gx cx gy cy lx ly wx) ∧ Hid (gj.length ≤ gs1.length + 1 ∧ ands gj = ands gs1 + 0))
      case first =>
        go_region_law (first | (go_simp; go_at_call 125; refine (put9_x base N _ _ oo on oc _ _ _ _ HO3.out.drew.bx.st.own (Nat.le_trans hbase HO3.out.drew.bx.st.fr.size) hN (by have := HL1.out.1; omega)).mono ?_; rintro e w4 ⟨a4, n4, k4, z4, rfl, hs4⟩; have hm := HO3.out.drew.call hs4; have HM4 := Lib.hid hm; obtain ⟨⟨d0, d1, d2⟩, e0, e1, e2⟩ := hm.mid.cells; have hz4 := hm.xat k (by omega); rw [hzz] at hz4; clear hm hz hs4 c0 c1 c2 f0 f1 f2))
        all_goals
          have HO4 := Lib.hid HM4.out.store
          (try go_simp)
          go_wp2_with fail
          go_meet
          exact ⟨a4, n4, k4, z4, _, rfl, HO4, Lib.hid ⟨by simp only [len_snoc, len_carry]; omega, by rw [ands_put, if_neg (by decide)]⟩⟩
      case rest =>
      obtain ⟨a4, n4, k4, z4, q4, rfl, HO4, HG4⟩ := hcut
      clear hz hzz c0 c1 c2 f0 f1 f2
      go_wp2_with fail
      have HL4 := Lib.hid (show q4.length ≤ gs.length + 5 * k + 1 ∧ True from ⟨by have := HL1.out.1; have := HG4.out.1; omega, trivial⟩)
      obtain ⟨⟨c0, c1, c2⟩, f0, f1, f2⟩ := HO4.out.bx.cells
      have hz := HO4.out.yat k (by omega)
      obtain ⟨zz, hzz⟩ : ∃ zz, ly.getD k 0 = zz := ⟨_, rfl⟩
      rw [hzz] at hz
      go_region_law (first | (go_simp; go_at_call 134; refine (carry9_x base N _ _ oo on oc _ _ _ _ HO4.out.drew.bx.st.own (Nat.le_trans hbase HO4.out.drew.bx.st.fr.size) hN (by have := HL4.out.1; omega)).mono ?_; rintro e w5 ⟨a5, n5, k5, z5, g1, g2, g3, g4, rfl, hq, hs5⟩; have hm := HO4.out.drew.call hs5; have HM5 := Lib.hid hm; obtain ⟨⟨d0, d1, d2⟩, e0, e1, e2⟩ := hm.mid.cells; have hz5 := hm.yat k (by omega); rw [hzz] at hz5; clear hm hz hs5 c0 c1 c2 f0 f1 f2))
      all_goals
        have HO5 := Lib.hid HM5.out.store
        go_wp2_with fail
        go_roundg (63 - (k + 1))
        case measure => omega
        case rel => exact ⟨k + 1, _, a5, n5, k5, _, _, by omega, rfl, by go_num, rfl, rfl, HO5, Lib.hid ⟨by simp only [len_carry]; have := HL4.out.1; omega, by rw [ands_carry _ _ _ _ _ hq]; have := HL1.out.2; have := HG4.out.2; omega⟩⟩
    · obtain rfl : k = 63 := by omega
      go_wp2_with fail
      obtain ⟨⟨c0, c1, c2⟩, f0, f1, f2⟩ := HO3.out.bx.cells
      have hz := HO3.out.yat 63 (by omega)
      obtain ⟨zz, hzz⟩ : ∃ zz, ly.getD 63 0 = zz := ⟨_, rfl⟩
      rw [hzz] at hz
      go_cut [8] from 52 to 59 (fun sd wx => ∃ (aj : Option Addr) (nj kj : Nat) (zj : Int) (gj : List Gate), sd = .int .i64 zj ∧ Hid (Lx9 w base N oo on oc (.slice ao n0 cc) gj (.slice aj nj kj) gx cx gy cy lx ly wx) ∧ Hid (gj.length ≤ gs1.length + 1 ∧ ands gj = ands gs1 + 0))
      case first =>
        go_region_law (first | (go_simp; go_at_call 125; refine (put9_x base N _ _ oo on oc _ _ _ _ HO3.out.drew.bx.st.own (Nat.le_trans hbase HO3.out.drew.bx.st.fr.size) hN (by have := HL1.out.1; omega)).mono ?_; rintro e w4 ⟨a4, n4, k4, z4, rfl, hs4⟩; have hm := HO3.out.drew.call hs4; have HM4 := Lib.hid hm; obtain ⟨⟨d0, d1, d2⟩, e0, e1, e2⟩ := hm.mid.cells; have hz4 := hm.yat 63 (by omega); rw [hzz] at hz4; clear hm hz hs4 c0 c1 c2 f0 f1 f2))
        all_goals
          have HO4 := Lib.hid HM4.out.store
          (try go_simp)
          go_wp2_with fail
          go_meet
          exact ⟨a4, n4, k4, z4, _, rfl, HO4, Lib.hid ⟨by simp only [len_snoc, len_carry]; omega, by rw [ands_put, if_neg (by decide)]⟩⟩
      case rest =>
      obtain ⟨a4, n4, k4, z4, q4, rfl, HO4, HG4⟩ := hcut
      clear hz hzz c0 c1 c2 f0 f1 f2
      go_wp2_with fail
      have HL4 := Lib.hid (show q4.length ≤ gs.length + 5 * 63 + 1 ∧ True from ⟨by have := HL1.out.1; have := HG4.out.1; omega, trivial⟩)
      obtain ⟨⟨c0, c1, c2⟩, f0, f1, f2⟩ := HO4.out.bx.cells
      have hz := HO4.out.xat 63 (by omega)
      obtain ⟨zz, hzz⟩ : ∃ zz, lx.getD 63 0 = zz := ⟨_, rfl⟩
      rw [hzz] at hz
      go_region_law (first | (go_simp; go_at_call 134; refine (carry9_x base N _ _ oo on oc _ _ _ _ HO4.out.drew.bx.st.own (Nat.le_trans hbase HO4.out.drew.bx.st.fr.size) hN (by have := HL4.out.1; omega)).mono ?_; rintro e w5 ⟨a5, n5, k5, z5, g1, g2, g3, g4, rfl, hq, hs5⟩; have hm := HO4.out.drew.call hs5; have HM5 := Lib.hid hm; obtain ⟨⟨d0, d1, d2⟩, e0, e1, e2⟩ := hm.mid.rcells; have hz5 := hm.xat 63 (by omega); rw [hzz] at hz5; clear hm hz hs5 c0 c1 c2 f0 f1 f2))
      all_goals
        go_wp2_with fail
        obtain ⟨hr, hst⟩ := HM5.out.mid.result (.slice oo on oc)
        refine bodyPost_ret (results_cell_tmp rfl _ _ (w.heap.size + 1) 184 #[_, _, _] _ _ rfl hr Tryz.underlying184 rfl info_circ9) rfl ?_
        exact ⟨_, _, _, _, _, rfl, by rw [ands_carry _ _ _ _ _ hq]; have := HL1.out.2; have := HG4.out.2; omega, by simp only [len_carry]; have := HL4.out.1; omega, hst⟩
end Go.Proofs.YtjbhgimhcjcpmaaGreatDoor
