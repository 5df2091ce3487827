/-
  WORDS for twainref09.Make: its two blocks, the row of gates, the wires of both operands, the outs so far.
-/
import Derived.Test.YtjbhgimhcjcpmaaGreatDoorMRefPut
import Derived.Test.YtjbhgimhcjcpmaaGreatDoorMRefWire
import Derived.Deep.RegionLaw
set_option linter.unusedSimpArgs false
set_option linter.unusedVariables false
namespace Go.Proofs.YtjbhgimhcjcpmaaGreatDoor
open Go.RowKit

theorem put9_i (base : Nat) (ni : Int) (gs : List Gate) (gv : Value) (oo : Option Addr) (on oc : Nat) (k a b : Int) (w : World) (hown : w.ownsRow base 217 3 gv gs.length (gcells gs)) (hbase : base ≤ w.heap.size) (hN : 0 ≤ ni ∧ ni ≤ 1000) (hg : gs.length ≤ 20000) :
    Calls Tryz.prog 125 #[.agg #[.int .i64 ni, gv, .slice oo on oc], .int .i64 k, .int .i64 a, .int .i64 b] w fun e w' =>
      ∃ (ao : Option Addr) (n c : Nat) (z : Int), e = .returned (.tuple #[.agg #[.int .i64 ni, .slice ao n c, .slice oo on oc], .int .i64 z]) ∧ GStep base w w' (gs ++ [⟨k, a, b⟩]) gv (.slice ao n c) := by
  obtain ⟨N, rfl⟩ := Int.eq_ofNat_of_zero_le hN.1
  exact put9_x base N gs gv oo on oc k a b w hown hbase (by omega) (by omega)
def OpPostI (base : Nat) (ni : Int) (oo : Option Addr) (on oc : Nat) (gv : Value) (gs : List Gate) (A : Nat) (w : World) (e : Ending) (w' : World) : Prop :=
  ∃ (ao : Option Addr) (n c g d : Nat) (l : List Int) (gs' : List Gate), e = .returned (.tuple #[.agg #[.int .i64 ni, .slice ao n c, .slice oo on oc], .slice (some ⟨g, 0, none⟩) 64 d]) ∧ (w'.ownsRow 0 3 1 (.slice (some ⟨g, 0, none⟩) 64 d) 64 (ints l) ∧ w.heap.size ≤ g) ∧
    (ands gs' = ands gs + A ∧ gs'.length ≤ gs.length + 500) ∧ GStep base w w' gs' gv (.slice ao n c)
theorem operand9_i (base : Nat) (ni : Int) (gs : List Gate) (gv : Value) (oo : Option Addr) (on oc : Nat) (a b : Int) (xr : Bool) (w : World) (hown : w.ownsRow base 217 3 gv gs.length (gcells gs)) (hbase : base ≤ w.heap.size) (hN : 0 ≤ ni ∧ ni ≤ 1000) (hg : gs.length ≤ 20000) (ha : 0 ≤ a ∧ a ≤ 1000) (hb : 0 ≤ b ∧ b ≤ 1000) :
    Calls Tryz.prog 124 #[.agg #[.int .i64 ni, gv, .slice oo on oc], .int .i64 a, .int .i64 b, .bool xr] w (OpPostI base ni oo on oc gv gs (if xr then 0 else 63) w) := by
  obtain ⟨N, rfl⟩ := Int.eq_ofNat_of_zero_le hN.1
  obtain ⟨a', rfl⟩ := Int.eq_ofNat_of_zero_le ha.1
  obtain ⟨b', rfl⟩ := Int.eq_ofNat_of_zero_le hb.1
  have key : ∀ A e w', OpPost base N oo on oc gv gs A w e w' → OpPostI base N oo on oc gv gs A w e w' := by
    rintro A e w' ⟨ao, n, c, x, l, gs', he, hl, hx, h1, h2, hs⟩
    obtain ⟨g, d, rfl, hg1, hg2⟩ := hx.form (by omega)
    exact ⟨ao, n, c, g, d, l, gs', he, ⟨owns_base hx (by omega), hg1⟩, ⟨h1, h2⟩, hs⟩
  cases xr
  · exact (operand9_sum base N gs gv oo on oc a' b' w hown hbase (by omega) hg (by omega) (by omega)).mono fun e w' h => key _ e w' h
  · exact (operand9_xor base N gs gv oo on oc a' b' w hown hbase (by omega) hg (by omega) (by omega)).mono fun e w' h => key _ e w' h
def LessPostI (base : Nat) (ni : Int) (oo : Option Addr) (on oc : Nat) (gv : Value) (gs : List Gate) (w : World) (e : Ending) (w' : World) : Prop :=
  ∃ (ao : Option Addr) (n c : Nat) (z : Int) (gs' : List Gate), e = .returned (.tuple #[.agg #[.int .i64 ni, .slice ao n c, .slice oo on oc], .int .i64 z]) ∧
    (ands gs' = ands gs + 64 ∧ gs'.length ≤ gs.length + 500) ∧ GStep base w w' gs' gv (.slice ao n c)
theorem less9_i (base : Nat) (ni : Int) (gs : List Gate) (gv : Value) (oo : Option Addr) (on oc gx cx gy cy : Nat) (w : World) (hown : w.ownsRow base 217 3 gv gs.length (gcells gs)) (hbase : base ≤ w.heap.size) (hN : 0 ≤ ni ∧ ni ≤ 1000) (hg : gs.length ≤ 20000)
    (lx ly : List Int) (hx : w.ownsRow 0 3 1 (.slice (some ⟨gx, 0, none⟩) 64 cx) 64 (ints lx)) (hy : w.ownsRow 0 3 1 (.slice (some ⟨gy, 0, none⟩) 64 cy) 64 (ints ly)) :
    Calls Tryz.prog 126 #[.agg #[.int .i64 ni, gv, .slice oo on oc], .slice (some ⟨gx, 0, none⟩) 64 cx, .slice (some ⟨gy, 0, none⟩) 64 cy] w (LessPostI base ni oo on oc gv gs w) := by
  obtain ⟨N, rfl⟩ := Int.eq_ofNat_of_zero_le hN.1
  exact (less9_any base N gs gv oo on oc gx cx gy cy w hown hbase (by omega) hg lx ly hx hy).mono fun e w' ⟨ao, n, c, z, gs', he, h1, h2, hs⟩ => ⟨ao, n, c, z, gs', he, ⟨h1, h2⟩, hs⟩

/-- The circuit's block behind the result's; the row of gates. -/
structure Mc9 (w : World) (ni : Int) (ov : Value) (gs : List Gate) (gv : Value) (W : World) : Prop where
  box : W.heap[w.heap.size + 1]? = some (.cells #[.int .i64 ni, gv, ov] 184 (0, 0))
  res : W.heap[w.heap.size]? = some (.cells #[.int .i64 0, .slice none 0 0, .slice none 0 0] 184 (0, 0))
  own : W.ownsRow (w.heap.size + 2) 217 3 gv gs.length (gcells gs)
  below : Below w.heap.size w W
theorem Mc9.start (w : World) (ni : Int) : Mc9 w ni (.slice none 0 0) [] (.slice none 0 0) ((w.alloc (.cells #[.int .i64 0, .slice none 0 0, .slice none 0 0] 184)).alloc (.cells #[.int .i64 ni, .slice none 0 0, .slice none 0 0] 184)) :=
  ⟨heap_alloc2_new _ _ _, heap_alloc2_old _ _ _, World.ownsRow_nil _ _ _ _, below_alloc2 _ _ _⟩
theorem Mc9.lt {w : World} {ni : Int} {ov : Value} {gs : List Gate} {gv : Value} {W : World} (h : Mc9 w ni ov gs gv W) : w.heap.size + 1 < W.heap.size := lt_of_block h.box
theorem Mc9.cells {w : World} {ni : Int} {ov : Value} {gs : List Gate} {gv : Value} {W : World} (h : Mc9 w ni ov gs gv W) :
    (W.cell? ⟨w.heap.size + 1, 0, none⟩ = some (.int .i64 ni) ∧ W.cell? ⟨w.heap.size + 1, 1, none⟩ = some gv ∧ W.cell? ⟨w.heap.size + 1, 2, none⟩ = some ov) ∧ W.frozen? ⟨w.heap.size + 1, 0, none⟩ = false ∧ W.frozen? ⟨w.heap.size + 1, 1, none⟩ = false ∧ W.frozen? ⟨w.heap.size + 1, 2, none⟩ = false := by
  have := h.box
  refine ⟨⟨?_, ?_, ?_⟩, ?_, ?_, ?_⟩ <;> simp [World.cell?, World.frozen?, this]
theorem Mc9.rcells {w : World} {ni : Int} {ov : Value} {gs : List Gate} {gv : Value} {W : World} (h : Mc9 w ni ov gs gv W) :
    (W.cell? ⟨w.heap.size, 0, none⟩ = some (.int .i64 0) ∧ W.cell? ⟨w.heap.size, 1, none⟩ = some (.slice none 0 0) ∧ W.cell? ⟨w.heap.size, 2, none⟩ = some (.slice none 0 0)) ∧ W.frozen? ⟨w.heap.size, 0, none⟩ = false ∧ W.frozen? ⟨w.heap.size, 1, none⟩ = false ∧ W.frozen? ⟨w.heap.size, 2, none⟩ = false := by
  have := h.res
  refine ⟨⟨?_, ?_, ?_⟩, ?_, ?_, ?_⟩ <;> simp [World.cell?, World.frozen?, this]
theorem Mc9.drew {w : World} {ni : Int} {ov : Value} {gs : List Gate} {gv : Value} {W : World} (h : Mc9 w ni ov gs gv W) : Mc9 w ni ov gs gv W.drew := ⟨h.box, h.res, h.own, h.below.drew⟩
theorem gate_ne {w : World} {base : Nat} {gs : List Gate} {gv : Value} (h : w.ownsRow base 217 3 gv gs.length (gcells gs)) {b : Nat} {cs : Array Value} {t : TypeId} {fr : Nat × Nat} (hb : w.heap[b]? = some (.cells cs t fr)) (ht : t ≠ 217) : gv.ownBlock ≠ some b :=
  (GStep.refl h).ne hb ht
/-- Behind a call that made gates. -/
structure Mm9 (w : World) (ni : Int) (ov gv : Value) (gs : List Gate) (gv1 : Value) (W : World) : Prop where
  box : W.heap[w.heap.size + 1]? = some (.cells #[.int .i64 ni, gv, ov] 184 (0, 0))
  res : W.heap[w.heap.size]? = some (.cells #[.int .i64 0, .slice none 0 0, .slice none 0 0] 184 (0, 0))
  own : W.ownsRow (w.heap.size + 2) 217 3 gv1 gs.length (gcells gs)
  below : Below w.heap.size w W
theorem Mm9.cells {w : World} {ni : Int} {ov gv gv1 : Value} {gs : List Gate} {W : World} (h : Mm9 w ni ov gv gs gv1 W) :
    (W.cell? ⟨w.heap.size + 1, 0, none⟩ = some (.int .i64 ni) ∧ W.cell? ⟨w.heap.size + 1, 1, none⟩ = some gv ∧ W.cell? ⟨w.heap.size + 1, 2, none⟩ = some ov) ∧ W.frozen? ⟨w.heap.size + 1, 0, none⟩ = false ∧ W.frozen? ⟨w.heap.size + 1, 1, none⟩ = false ∧ W.frozen? ⟨w.heap.size + 1, 2, none⟩ = false := by
  have := h.box
  refine ⟨⟨?_, ?_, ?_⟩, ?_, ?_, ?_⟩ <;> simp [World.cell?, World.frozen?, this]
theorem Mc9.call {w : World} {ni : Int} {ov : Value} {gs gs1 : List Gate} {gv gv1 : Value} {W W1 : World} (h : Mc9 w ni ov gs gv W) (k : GStep (w.heap.size + 2) W W1 gs1 gv gv1) : Mm9 w ni ov gv gs1 gv1 W1 :=
  ⟨(k.fr.block _ h.lt fun e => gate_ne h.own h.box (by decide) e.symm).trans h.box, (k.fr.block _ (by have := h.lt; omega) fun e => gate_ne h.own h.res (by decide) e.symm).trans h.res, k.own,
    h.below.grown k.fr h.below.size fun j hj => by have := (h.own.lt j hj).1; omega⟩
theorem Mm9.store {w : World} {ni : Int} {ov gv gv1 : Value} {gs : List Gate} {W : World} (h : Mm9 w ni ov gv gs gv1 W) :
    Mc9 w ni ov gs gv1 (((W.setCell ⟨w.heap.size + 1, 0, none⟩ (.int .i64 ni)).setCell ⟨w.heap.size + 1, 1, none⟩ gv1).setCell ⟨w.heap.size + 1, 2, none⟩ ov) :=
  ⟨set3 h.box _ _ _, (set3_other _ _ _ _ _ _ (by omega)).trans h.res, own_keep9 h.own fun j hj => set3_other _ _ _ _ _ _ fun e => gate_ne h.own h.box (by decide) (by rw [hj, e]), ((h.below.setCell (by simp) _).setCell (by simp) _).setCell (by simp) _⟩
theorem Mc9.result {w : World} {ni : Int} {ov : Value} {gs : List Gate} {gv : Value} {W : World} (h : Mc9 w ni ov gs gv W) :
    (((W.setCell ⟨w.heap.size, 0, none⟩ (.int .i64 ni)).setCell ⟨w.heap.size, 1, none⟩ gv).setCell ⟨w.heap.size, 2, none⟩ ov).heap[w.heap.size]? = some (.cells #[.int .i64 ni, gv, ov] 184 (0, 0)) ∧
    (((W.setCell ⟨w.heap.size, 0, none⟩ (.int .i64 ni)).setCell ⟨w.heap.size, 1, none⟩ gv).setCell ⟨w.heap.size, 2, none⟩ ov).ownsRow w.heap.size 217 3 gv gs.length (gcells gs) ∧
    Below w.heap.size w (((W.setCell ⟨w.heap.size, 0, none⟩ (.int .i64 ni)).setCell ⟨w.heap.size, 1, none⟩ gv).setCell ⟨w.heap.size, 2, none⟩ ov) :=
  ⟨set3 h.res _ _ _, own_keep9 (owns_base h.own (by omega)) fun j hj => set3_other _ _ _ _ _ _ fun e => gate_ne h.own h.res (by decide) (by rw [hj, e]), ((h.below.setCell (by simp) _).setCell (by simp) _).setCell (by simp) _⟩
/-- Besides: the operands' wires, the outs so far. -/
structure Mx9 (w : World) (ni : Int) (oo : Option Addr) (on oc : Nat) (gs : List Gate) (gv : Value) (gx cx gy cy : Nat) (lx ly : List Int) (W : World) : Prop where
  mc : Mc9 w ni (.slice oo on oc) gs gv W
  x : W.ownsRow 0 3 1 (.slice (some ⟨gx, 0, none⟩) 64 cx) 64 (ints lx)
  y : W.ownsRow 0 3 1 (.slice (some ⟨gy, 0, none⟩) 64 cy) 64 (ints ly)
  outs : ∃ l, W.ownsRow (w.heap.size + 2) 3 1 (.slice oo on oc) on (ints l)
  ne : ∀ j, (Value.slice oo on oc).ownBlock = some j → j ≠ gx ∧ j ≠ gy
structure My9 (w : World) (ni : Int) (oo : Option Addr) (on oc : Nat) (gv : Value) (gs : List Gate) (gv1 : Value) (gx cx gy cy : Nat) (lx ly : List Int) (W : World) : Prop where
  mm : Mm9 w ni (.slice oo on oc) gv gs gv1 W
  x : W.ownsRow 0 3 1 (.slice (some ⟨gx, 0, none⟩) 64 cx) 64 (ints lx)
  y : W.ownsRow 0 3 1 (.slice (some ⟨gy, 0, none⟩) 64 cy) 64 (ints ly)
  outs : ∃ l, W.ownsRow (w.heap.size + 2) 3 1 (.slice oo on oc) on (ints l)
  ne : ∀ j, (Value.slice oo on oc).ownBlock = some j → j ≠ gx ∧ j ≠ gy
theorem Mx9.start {w : World} {ni : Int} {gs : List Gate} {gv : Value} {gx cx gy cy : Nat} {lx ly : List Int} {W : World} (h : Mc9 w ni (.slice none 0 0) gs gv W) (hx : W.ownsRow 0 3 1 (.slice (some ⟨gx, 0, none⟩) 64 cx) 64 (ints lx)) (hy : W.ownsRow 0 3 1 (.slice (some ⟨gy, 0, none⟩) 64 cy) 64 (ints ly)) :
    Mx9 w ni none 0 0 gs gv gx cx gy cy lx ly W := ⟨h, hx, hy, ⟨[], World.ownsRow_nil _ _ _ _⟩, fun j hj => by simp [Value.ownBlock] at hj⟩
theorem Mx9.drew {w : World} {ni : Int} {oo : Option Addr} {on oc : Nat} {gs : List Gate} {gv : Value} {gx cx gy cy : Nat} {lx ly : List Int} {W : World} (h : Mx9 w ni oo on oc gs gv gx cx gy cy lx ly W) : Mx9 w ni oo on oc gs gv gx cx gy cy lx ly W.drew := ⟨h.mc.drew, h.x, h.y, h.outs, h.ne⟩
theorem Mx9.xat {w : World} {ni : Int} {oo : Option Addr} {on oc : Nat} {gs : List Gate} {gv : Value} {gx cx gy cy : Nat} {lx ly : List Int} {W : World} (h : Mx9 w ni oo on oc gs gv gx cx gy cy lx ly W) (k : Nat) (hk : k < 64) : W.cell? ⟨gx, k, none⟩ = some (.int .i64 (lx.getD k 0)) := ints_at h.x k hk
theorem Mx9.yat {w : World} {ni : Int} {oo : Option Addr} {on oc : Nat} {gs : List Gate} {gv : Value} {gx cx gy cy : Nat} {lx ly : List Int} {W : World} (h : Mx9 w ni oo on oc gs gv gx cx gy cy lx ly W) (k : Nat) (hk : k < 64) : W.cell? ⟨gy, k, none⟩ = some (.int .i64 (ly.getD k 0)) := ints_at h.y k hk
theorem My9.xat {w : World} {ni : Int} {oo : Option Addr} {on oc : Nat} {gs : List Gate} {gv gv1 : Value} {gx cx gy cy : Nat} {lx ly : List Int} {W : World} (h : My9 w ni oo on oc gv gs gv1 gx cx gy cy lx ly W) (k : Nat) (hk : k < 64) : W.cell? ⟨gx, k, none⟩ = some (.int .i64 (lx.getD k 0)) := ints_at h.x k hk
theorem My9.yat {w : World} {ni : Int} {oo : Option Addr} {on oc : Nat} {gs : List Gate} {gv gv1 : Value} {gx cx gy cy : Nat} {lx ly : List Int} {W : World} (h : My9 w ni oo on oc gv gs gv1 gx cx gy cy lx ly W) (k : Nat) (hk : k < 64) : W.cell? ⟨gy, k, none⟩ = some (.int .i64 (ly.getD k 0)) := ints_at h.y k hk
theorem Mx9.call {w : World} {ni : Int} {oo : Option Addr} {on oc : Nat} {gs gs1 : List Gate} {gv gv1 : Value} {gx cx gy cy : Nat} {lx ly : List Int} {W W1 : World} (h : Mx9 w ni oo on oc gs gv gx cx gy cy lx ly W) (k : GStep (w.heap.size + 2) W W1 gs1 gv gv1) : My9 w ni oo on oc gv gs1 gv1 gx cx gy cy lx ly W1 :=
  ⟨h.mc.call k, k.ints h.mc.own h.x, k.ints h.mc.own h.y, h.outs.elim fun l hl => ⟨l, k.ints h.mc.own hl⟩, h.ne⟩
theorem My9.store {w : World} {ni : Int} {oo : Option Addr} {on oc : Nat} {gs : List Gate} {gv gv1 : Value} {gx cx gy cy : Nat} {lx ly : List Int} {W : World} (h : My9 w ni oo on oc gv gs gv1 gx cx gy cy lx ly W) :
    Mx9 w ni oo on oc gs gv1 gx cx gy cy lx ly (((W.setCell ⟨w.heap.size + 1, 0, none⟩ (.int .i64 ni)).setCell ⟨w.heap.size + 1, 1, none⟩ gv1).setCell ⟨w.heap.size + 1, 2, none⟩ (.slice oo on oc)) :=
  ⟨h.mm.store, set3_ints h.mm.box (by decide) h.x _ _ _, set3_ints h.mm.box (by decide) h.y _ _ _, h.outs.elim fun l hl => ⟨l, set3_ints h.mm.box (by decide) hl _ _ _⟩, h.ne⟩
/-- The outs grew by one, the circuit's third cell is not yet stored. -/
structure Mo9 (w : World) (ni : Int) (ov : Value) (oo : Option Addr) (on oc : Nat) (gs : List Gate) (gv : Value) (gx cx gy cy : Nat) (lx ly : List Int) (W : World) : Prop where
  mc : Mc9 w ni ov gs gv W
  x : W.ownsRow 0 3 1 (.slice (some ⟨gx, 0, none⟩) 64 cx) 64 (ints lx)
  y : W.ownsRow 0 3 1 (.slice (some ⟨gy, 0, none⟩) 64 cy) 64 (ints ly)
  outs : ∃ l, W.ownsRow (w.heap.size + 2) 3 1 (.slice oo on oc) on (ints l)
  ne : ∀ j, (Value.slice oo on oc).ownBlock = some j → j ≠ gx ∧ j ≠ gy
theorem ints_lt {W : World} {g c : Nat} {l : List Int} (h : W.ownsRow 0 3 1 (.slice (some ⟨g, 0, none⟩) 64 c) 64 (ints l)) : g < W.heap.size := (h.lt g rfl).2
theorem Mx9.add {w : World} {ni : Int} {oo oo1 : Option Addr} {on oc on1 oc1 : Nat} {gs : List Gate} {gv : Value} {gx cx gy cy : Nat} {lx ly : List Int} {W W1 : World} (h : Mx9 w ni oo on oc gs gv gx cx gy cy lx ly W) (hg : W.grownBy W1 (Value.slice oo on oc).ownBlock) {l : List Int} {z : Int}
    (ho : W1.ownsRow (w.heap.size + 2) 3 1 (.slice oo1 on1 oc1) (on + 1) (ints l ++ [.int .i64 z])) (hn : on1 = on + 1) (hl : (Value.slice oo1 on1 oc1).ownBlock = (Value.slice oo on oc).ownBlock ∨ (Value.slice oo1 on1 oc1).ownBlock = some (W.heap.size + 1)) : Mo9 w ni (.slice oo on oc) oo1 on1 oc1 gs gv gx cx gy cy lx ly W1 := by
  obtain ⟨l0, h0⟩ := h.outs
  subst hn
  refine ⟨⟨(hg.block _ h.mc.lt fun e => ints_ne h0 h.mc.box (by decide) e.symm).trans h.mc.box, (hg.block _ (by have := h.mc.lt; omega) fun e => ints_ne h0 h.mc.res (by decide) e.symm).trans h.mc.res, own_keep9 h.mc.own fun j hj => hg.block j (h.mc.own.lt j hj).2 fun e => ?_, h.mc.below.grown hg h.mc.below.size fun j hj => by have := (h0.lt j hj).1; omega⟩,
    own_keep9 h.x fun j hj => hg.block j (h.x.lt j hj).2 fun e => ?_, own_keep9 h.y fun j hj => hg.block j (h.y.lt j hj).2 fun e => ?_, ⟨l ++ [z], by simpa [ints] using ho⟩, fun j hj => ?_⟩
  · rcases h0.2 with ⟨h1, _⟩ | ⟨g, cap, cur, h1, _, hgg, _⟩
    · rw [h1] at e; simp [Value.ownBlock] at e
    · rw [h1] at e; simp only [Value.ownBlock, Option.some.injEq] at e; subst e
      exact gate_ne h.mc.own hgg (by decide) hj
  · simp only [Value.ownBlock, Option.some.injEq] at hj; subst hj
    exact (h.ne _ e.symm).1 rfl
  · simp only [Value.ownBlock, Option.some.injEq] at hj; subst hj
    exact (h.ne _ e.symm).2 rfl
  · rcases hl with e | e
    · exact h.ne j (by rw [← e, hj])
    · rw [hj] at e; obtain rfl := Option.some.inj e
      have := ints_lt h.x; have := ints_lt h.y
      omega
theorem Mo9.store {w : World} {ni : Int} {ov : Value} {oo : Option Addr} {on oc : Nat} {gs : List Gate} {gv : Value} {gx cx gy cy : Nat} {lx ly : List Int} {W : World} (h : Mo9 w ni ov oo on oc gs gv gx cx gy cy lx ly W) :
    Mx9 w ni oo on oc gs gv gx cx gy cy lx ly (W.setCell ⟨w.heap.size + 1, 2, none⟩ (.slice oo on oc)) := by
  have hk : ∀ (b2 : Nat) (x : Value) (n : Nat) (xs : List Value), W.ownsRow b2 3 1 x n xs → (W.setCell ⟨w.heap.size + 1, 2, none⟩ (.slice oo on oc)).ownsRow b2 3 1 x n xs := fun b2 x n xs hx =>
    own_keep9 hx fun j hj => heap_setCell_other' (fun e => ints_ne hx h.mc.box (by decide) (by rw [hj, e])) _
  refine ⟨⟨?_, (heap_setCell_other' (by omega) _).trans h.mc.res, own_keep9 h.mc.own fun j hj => heap_setCell_other' (fun e => gate_ne h.mc.own h.mc.box (by decide) (by rw [hj, e])) _, h.mc.below.setCell (by simp) _⟩, hk _ _ _ _ h.x, hk _ _ _ _ h.y, h.outs.elim fun l hl => ⟨l, hk _ _ _ _ hl⟩, h.ne⟩
  have := heap_setCell (j := 2) h.mc.box (.slice oo on oc)
  simpa using this
/-- What Make answers: a circuit with A And gates. -/
def MadeR (w : World) (A : Nat) (e : Ending) (w' : World) : Prop :=
  ∃ (ni : Int) (ao : Option Addr) (n c : Nat) (oo : Option Addr) (on oc : Nat) (gs : List Gate), e = .returned (.agg #[.int .i64 ni, .slice ao n c, .slice oo on oc]) ∧ w'.ownsRow w.heap.size 217 3 (.slice ao n c) gs.length (gcells gs) ∧
    (ands gs = A ∧ gs.length ≤ 5000) ∧ Below w.heap.size w w'
def parAnds (b : Bool) : Nat := if b then 0 else 63
theorem par_wrap (c : Nat) (h : c < 4) : ((IntKind.u64.wrap ((c : Int) / 2)).tmod 2 == 1) = ((c : Int) / 2 % 2 == 1) := by
  rcases (show c = 0 ∨ c = 1 ∨ c = 2 ∨ c = 3 by omega) with rfl | rfl | rfl | rfl <;> decide
end Go.Proofs.YtjbhgimhcjcpmaaGreatDoor

/-
  THE CONTRACT of twainref09.Make at kind 1.
-/
namespace Go.Proofs.YtjbhgimhcjcpmaaGreatDoor
open Go.RowKit
set_option linter.unusedSimpArgs false

set_option maxHeartbeats 4000000 in
set_option maxRecDepth 100000 in
theorem make9_1 (c : Nat) (w : World) (hc : circOk 1 c = true) :
    Calls Tryz.prog 106 #[.int .i64 1, .int .u64 c] w (MadeR w (parAnds ((c : Int) % 2 == 1) + 63)) := by
  have hR : rOperands 1 c = 1 := by unfold rOperands; rw [if_pos hc]; rfl
  have HR := Lib.hid hR
  clear hR
  have hc4 : c < 4 := by unfold circOk at hc; simp at hc; omega
  go_enter Tryz.func106, Tryz.ntmps106
  go_upto_region 4 with (go_at_call 77; go_must (refine (refOperands_any _ _ _).mono ?_; rw [HR.out]; rintro e w' ⟨rfl, rfl⟩))
  have HO0 := Lib.hid (Mc9.start w 128)
  have HL := Lib.hid (show ([] : List Gate).length = 0 from rfl)
  generalize ((w.alloc (.cells #[.int .i64 0, .slice none 0 0, .slice none 0 0] 184)).alloc (.cells #[.int .i64 128, .slice none 0 0, .slice none 0 0] 184)) = W0 at HO0 ⊢
  obtain ⟨⟨c0, c1, c2⟩, f0, f1, f2⟩ := HO0.out.cells
  go_upto_region 5 with (go_at_call 124; go_must (refine (operand9_i (w.heap.size + 2) 128 _ _ none 0 0 _ _ _ _ HO0.out.own (by have := HO0.out.lt; omega) (by omega) (by have := HL.out; first | omega | (simp only [len_snoc, len_carry]; omega)) (by omega) (by omega)).mono ?_; rintro e w1 ⟨a1, n1, k1, g1, d1, l1, gs1, rfl, hx1, hq1, hs1⟩; have hm := HO0.out.call hs1; have HM1 := Lib.hid hm; have HXM1 := Lib.hid hx1.1; have HQ1 := Lib.hid hq1; obtain ⟨⟨d0, d1, d2⟩, e0, e1, e2⟩ := hm.cells; clear hm c0 c1 c2 f0 f1 f2 hx1 hq1))
  have HO1 := Lib.hid HM1.out.store
  have HX1 := Lib.hid (set3_ints HM1.out.box (by decide) HXM1.out (.int .i64 128) (.slice a1 n1 k1) (.slice none 0 0))
  clear d0 d1 d2 e0 e1 e2 HM1 HXM1
  generalize ((w1.setCell ⟨w.heap.size + 1, 0, none⟩ (.int .i64 128)).setCell ⟨w.heap.size + 1, 1, none⟩ (.slice a1 n1 k1)).setCell ⟨w.heap.size + 1, 2, none⟩ (.slice none 0 0) = W1 at HO1 HX1 ⊢
  obtain ⟨⟨c0, c1, c2⟩, f0, f1, f2⟩ := HO1.out.cells
  have HL1 := Lib.hid (show gs1.length ≤ 500 by have := HQ1.out.2; simpa using this)
  clear HL
  go_upto_region 8 with (go_at_call 125; go_must (refine (put9_i (w.heap.size + 2) 128 _ _ none 0 0 _ _ _ _ HO1.out.own (by have := HO1.out.lt; omega) (by omega) (by have := HL1.out; first | omega | (simp only [len_snoc, len_carry]; omega))).mono ?_; rintro e w2 ⟨a2, n2, k2, z2, rfl, hs2⟩; have hm := HO1.out.call hs2; have HM2 := Lib.hid hm; obtain ⟨⟨d0, d1, d2⟩, e0, e1, e2⟩ := hm.cells; clear hm c0 c1 c2 f0 f1 f2))
  have HO2 := Lib.hid (Mx9.start HM2.out.store (set3_ints HM2.out.box (by decide) (hs2.ints HO1.out.own HX1.out) _ _ _) (set3_ints HM2.out.box (by decide) (hs2.ints HO1.out.own HX1.out) _ _ _))
  clear d0 d1 d2 e0 e1 e2 HM2 hs2
  generalize ((w2.setCell ⟨w.heap.size + 1, 0, none⟩ (.int .i64 128)).setCell ⟨w.heap.size + 1, 1, none⟩ (.slice a2 n2 k2)).setCell ⟨w.heap.size + 1, 2, none⟩ (.slice none 0 0) = W2 at HO2 ⊢
  obtain ⟨⟨c0, c1, c2⟩, f0, f1, f2⟩ := HO2.out.mc.cells
  have HA2 := Lib.hid (show (gs1 ++ [(⟨1, 0, 0⟩ : Gate)]).length ≤ 501 ∧ ands (gs1 ++ [(⟨1, 0, 0⟩ : Gate)]) = parAnds ((c : Int) % 2 == 1) from ⟨by rw [len_snoc]; have := HL1.out; omega, by rw [ands_put, if_neg (by decide)]; have := HQ1.out.1; simpa [parAnds, ands] using this⟩)
  go_wp2_with fail
  obtain ⟨⟨c0, c1, c2⟩, f0, f1, f2⟩ := HO2.out.mc.cells
  have hz := HO2.out.xat 63 (by omega)
  obtain ⟨zz, hzz⟩ : ∃ zz, l1.getD 63 0 = zz := ⟨_, rfl⟩
  rw [hzz] at hz
  go_cut [10] from 49 to 56 (fun sd wx => ∃ (aj : Option Addr) (nj kj : Nat) (zj : Int) (gj : List Gate), sd = .int .i64 zj ∧ Hid (Mx9 w 128 none 0 0 gj (.slice aj nj kj) g1 d1 g1 d1 l1 l1 wx) ∧ Hid (gj.length = (gs1 ++ [(⟨1, 0, 0⟩ : Gate)]).length + 1 ∧ ands gj = ands (gs1 ++ [(⟨1, 0, 0⟩ : Gate)]) + 0))
  case first =>
    go_region_law (first | (go_simp; go_at_call 125; refine (put9_i (w.heap.size + 2) 128 _ _ _ _ _ _ _ _ _ HO2.out.drew.mc.own (by have := HO2.out.drew.mc.lt; omega) (by omega) (by have := HL1.out; first | omega | (simp only [len_snoc]; omega))).mono ?_; rintro e w3 ⟨a3, n3, k3, z3, rfl, hs3⟩; have hm := HO2.out.drew.call hs3; have HM3 := Lib.hid hm; obtain ⟨⟨d0, d1', d2⟩, e0, e1, e2⟩ := hm.mm.cells; have hz3 := hm.xat 63 (by omega); rw [hzz] at hz3; clear hm c0 c1 c2 f0 f1 f2))
    all_goals
      have HO3 := Lib.hid HM3.out.store
      (try go_simp)
      go_wp2_with fail
      go_meet
      exact ⟨a3, n3, k3, z3, _, rfl, HO3, Lib.hid ⟨by rw [len_snoc], by rw [ands_put, if_neg (by decide)]⟩⟩
  case rest =>
  obtain ⟨a3, n3, k3, z3, q3, rfl, HO3, HG3⟩ := hcut
  clear c0 c1 c2 f0 f1 f2
  go_wp2_with fail
  clear hz hzz
  go_loopg [11, 12] 63 (fun g kv tv wr => ∃ (k : Nat) (gs5 : List Gate) (ao5 : Option Addr) (m5 c5 : Nat) (oo : Option Addr) (oc : Nat) (tv' : Value), k ≤ 63 ∧ g = 63 - k ∧ kv = .int .i64 k ∧ tv = tv' ∧ Hid (Mx9 w 128 oo k oc gs5 (.slice ao5 m5 c5) g1 d1 g1 d1 l1 l1 wr) ∧ Hid (gs5.length ≤ 502 + k ∧ ands gs5 = parAnds ((c : Int) % 2 == 1) + k))
  case atStart => exact ⟨0, _, a3, n3, k3, none, 0, _, by omega, rfl, rfl, rfl, HO3, Lib.hid ⟨by have := HG3.out.1; have := HA2.out.1; omega, by have := HG3.out.2; have := HA2.out.2; omega⟩⟩
  case round =>
    clear HO0 HO1 HO2 HO3 HA2 HL1 HX1 HG3
    obtain ⟨k, gs5, ao5, m5, c5, oo, oc, tv', hk, hg', rfl, rfl, HO3, HA5⟩ := hrel
    have hbl := HO3.out.mc.lt
    by_cases hk63 : k < 63
    · have hi0 : (0 : Int) ≤ (k : Int) := by omega
      have hi1 : (k : Int) < 64 := by omega
      have hdk : decide ((k : Int) < 63) = true := by simp; omega
      have HL1 := Lib.hid (show gs5.length ≤ 600 by have := HA5.out.1; omega)
      go_wp2_with fail
      obtain ⟨⟨c0, c1, c2⟩, f0, f1, f2⟩ := HO3.out.mc.cells
      have hz := HO3.out.xat k (by omega)
      obtain ⟨zz, hzz⟩ : ∃ zz, l1.getD k 0 = zz := ⟨_, rfl⟩
      rw [hzz] at hz
      go_cut [12] from 61 to 70 (fun sd wx => ∃ (aj : Option Addr) (nj kj : Nat) (zj : Int) (gj : List Gate), sd = .int .i64 zj ∧ Hid (Mx9 w 128 oo k oc gj (.slice aj nj kj) g1 d1 g1 d1 l1 l1 wx) ∧ Hid (gj.length = (gs5).length + 1 ∧ ands gj = ands (gs5) + 1))
      case first =>
        go_region_law (first | (go_simp; go_at_call 125; refine (put9_i (w.heap.size + 2) 128 _ _ _ _ _ _ _ _ _ HO3.out.drew.mc.own (by have := HO3.out.drew.mc.lt; omega) (by omega) (by have := HL1.out; first | omega | (simp only [len_snoc]; omega))).mono ?_; rintro e w4 ⟨a4, n4, k4, z4, rfl, hs4⟩; have hm := HO3.out.drew.call hs4; have HM4 := Lib.hid hm; obtain ⟨⟨d0, d1', d2⟩, e0, e1, e2⟩ := hm.mm.cells; have hz4 := hm.xat k (by omega); rw [hzz] at hz4; clear hm c0 c1 c2 f0 f1 f2))
        all_goals
          have HO4 := Lib.hid HM4.out.store
          (try go_simp)
          go_wp2_with fail
          go_meet
          exact ⟨a4, n4, k4, z4, _, rfl, HO4, Lib.hid ⟨by rw [len_snoc], by rw [ands_put, if_pos rfl]⟩⟩
      case rest =>
      obtain ⟨a4, n4, k4, z4, q4, rfl, HO4, HG4⟩ := hcut
      clear c0 c1 c2 f0 f1 f2
      obtain ⟨⟨c0, c1, c2⟩, f0, f1, f2⟩ := HO4.out.mc.cells
      go_wp2_with (at_builtin; obtain ⟨l, hl⟩ := HO4.out.outs; refine app_k rfl _ _ 24 rfl 3 _ 1 8 Tryz.underlying24 info_int rfl (by decide) #[_] _ _ _ _ hl rfl rfl rfl (by intro u hu; simp at hu; subst hu; rfl) (by have := HO4.out.mc.lt; omega) (by omega) (by unfold maxLen; omega) ?_; intro y w9 hown9 hg9 hb9; go_must (obtain ⟨b9, oc9, rfl, hb9a, hl9⟩ := hown9.form (by omega); obtain ⟨oo9, hoo9⟩ : ∃ oo9, (some ⟨b9, 0, none⟩ : Option Addr) = oo9 := ⟨_, rfl⟩; have hm := HO4.out.add hg9 hown9 rfl hb9; rw [hoo9] at hm ⊢; have HM9 := Lib.hid hm; obtain ⟨⟨d0, d1', d2⟩, e0, e1, e2⟩ := hm.mc.cells; clear hown9 hg9 hl hm hb9 c0 c1 c2 f0 f1 f2))
      have HO9 := Lib.hid HM9.out.store
      clear d0 d1' d2 e0 e1 e2 HM9
      go_roundg (63 - (k + 1))
      case measure => omega
      case rel => exact ⟨k + 1, _, a4, n4, k4, oo9, oc9, _, by omega, rfl, by go_num, rfl, HO9, Lib.hid ⟨by have := HG4.out.1; have := HA5.out.1; omega, by have := HG4.out.2; have := HA5.out.2; omega⟩⟩
    · obtain rfl : k = 63 := by omega
      obtain ⟨⟨c0, c1, c2⟩, f0, f1, f2⟩ := HO3.out.mc.cells
      go_upto_region 18 with (at_builtin; obtain ⟨l, hl⟩ := HO3.out.outs; refine app_k rfl _ _ 24 rfl 3 _ 1 8 Tryz.underlying24 info_int rfl (by decide) #[_] _ _ _ _ hl rfl rfl rfl (by intro u hu; simp at hu; subst hu; rfl) (by have := HO3.out.mc.lt; omega) (by omega) (by unfold maxLen; omega) ?_; intro y w9 hown9 hg9 hb9; go_must (obtain ⟨b9, oc9, rfl, hb9a, hl9⟩ := hown9.form (by omega); obtain ⟨oo9, hoo9⟩ : ∃ oo9, (some ⟨b9, 0, none⟩ : Option Addr) = oo9 := ⟨_, rfl⟩; have hm := HO3.out.add hg9 hown9 rfl hb9; rw [hoo9] at hm ⊢; have HM9 := Lib.hid hm; obtain ⟨⟨d0, d1', d2⟩, e0, e1, e2⟩ := hm.mc.cells; clear hown9 hg9 hl hm hb9 c0 c1 c2 f0 f1 f2))
      have HO9 := Lib.hid (show Mx9 w 128 oo9 64 oc9 _ _ _ _ _ _ _ _ (w9.setCell ⟨w.heap.size + 1, 2, none⟩ (.slice oo9 64 oc9)) from HM9.out.store)
      clear d0 d1' d2 e0 e1 e2 HM9
      generalize w9.setCell ⟨w.heap.size + 1, 2, none⟩ (.slice oo9 64 oc9) = W9 at HO9 ⊢
      obtain ⟨⟨c0, c1, c2⟩, f0, f1, f2⟩ := HO9.out.mc.cells
      obtain ⟨⟨d0, d1', d2⟩, e0, e1, e2⟩ := HO9.out.mc.rcells
      go_wp2_with fail
      obtain ⟨hr, ho, hb⟩ := HO9.out.mc.result
      refine bodyPost_ret (results_cell_row rfl _ _ w.heap.size 184 #[_, _, _] _ _ rfl hr Tryz.underlying184 rfl info_circ9) rfl ?_
      exact ⟨_, _, _, _, _, _, _, _, rfl, ho, ⟨by have := HA5.out.2; omega, by have := HA5.out.1; omega⟩, hb⟩
end Go.Proofs.YtjbhgimhcjcpmaaGreatDoor

/-
  THE CONTRACT of twainref09.Make at kind 2.
-/
namespace Go.Proofs.YtjbhgimhcjcpmaaGreatDoor
open Go.RowKit
set_option linter.unusedSimpArgs false

set_option maxHeartbeats 4000000 in
set_option maxRecDepth 100000 in
theorem make9_2 (c : Nat) (w : World) (hc : circOk 2 c = true) :
    Calls Tryz.prog 106 #[.int .i64 2, .int .u64 c] w (MadeR w (parAnds ((c : Int) % 2 == 1) + parAnds ((c : Int) / 2 % 2 == 1) + 64)) := by
  have hR : rOperands 2 c = 2 := by unfold rOperands; rw [if_pos hc]; rfl
  have HR := Lib.hid hR
  clear hR
  have hc4 : c < 4 := by unfold circOk at hc; simp at hc; omega
  go_enter Tryz.func106, Tryz.ntmps106
  go_upto_region 4 with (go_at_call 77; go_must (refine (refOperands_any _ _ _).mono ?_; rw [HR.out]; rintro e w' ⟨rfl, rfl⟩))
  have HO0 := Lib.hid (Mc9.start w 256)
  have HL := Lib.hid (show ([] : List Gate).length = 0 from rfl)
  generalize ((w.alloc (.cells #[.int .i64 0, .slice none 0 0, .slice none 0 0] 184)).alloc (.cells #[.int .i64 256, .slice none 0 0, .slice none 0 0] 184)) = W0 at HO0 ⊢
  obtain ⟨⟨c0, c1, c2⟩, f0, f1, f2⟩ := HO0.out.cells
  go_upto_region 5 with (go_at_call 124; go_must (refine (operand9_i (w.heap.size + 2) 256 _ _ none 0 0 _ _ _ _ HO0.out.own (by have := HO0.out.lt; omega) (by omega) (by have := HL.out; first | omega | (simp only [len_snoc, len_carry]; omega)) (by omega) (by omega)).mono ?_; rintro e w1 ⟨a1, n1, k1, g1, d1, l1, gs1, rfl, hx1, hq1, hs1⟩; have hm := HO0.out.call hs1; have HM1 := Lib.hid hm; have HXM1 := Lib.hid hx1.1; have HQ1 := Lib.hid hq1; obtain ⟨⟨d0, d1, d2⟩, e0, e1, e2⟩ := hm.cells; clear hm c0 c1 c2 f0 f1 f2 hx1 hq1))
  have HO1 := Lib.hid HM1.out.store
  have HX1 := Lib.hid (set3_ints HM1.out.box (by decide) HXM1.out (.int .i64 256) (.slice a1 n1 k1) (.slice none 0 0))
  clear d0 d1 d2 e0 e1 e2 HM1 HXM1
  generalize ((w1.setCell ⟨w.heap.size + 1, 0, none⟩ (.int .i64 256)).setCell ⟨w.heap.size + 1, 1, none⟩ (.slice a1 n1 k1)).setCell ⟨w.heap.size + 1, 2, none⟩ (.slice none 0 0) = W1 at HO1 HX1 ⊢
  obtain ⟨⟨c0, c1, c2⟩, f0, f1, f2⟩ := HO1.out.cells
  have HA1 := Lib.hid (show gs1.length ≤ 500 ∧ ands gs1 = parAnds ((c : Int) % 2 == 1) from ⟨by have := HQ1.out.2; simpa using this, by have := HQ1.out.1; simpa [parAnds, ands] using this⟩)
  clear HL HQ1
  go_upto_region 7 with (go_at_call 124; go_must (refine (operand9_i (w.heap.size + 2) 256 _ _ none 0 0 _ _ _ _ HO1.out.own (by have := HO1.out.lt; omega) (by omega) (by have := HA1.out.1; first | omega | (simp only [len_snoc, len_carry]; omega)) (by omega) (by omega)).mono ?_; rintro e w2 ⟨a2, n2, k2, g2, d2, l2, gs2, rfl, hx2, hq2, hs2⟩; have hm := HO1.out.call hs2; have HM2 := Lib.hid hm; have HXM2 := Lib.hid hx2.1; have HQ2 := Lib.hid hq2; obtain ⟨⟨d0, d1, d2⟩, e0, e1, e2⟩ := hm.cells; clear hm c0 c1 c2 f0 f1 f2 hx2 hq2))
  have HO2 := Lib.hid HM2.out.store
  have HX2 := Lib.hid (set3_ints HM2.out.box (by decide) (hs2.ints HO1.out.own HX1.out) (.int .i64 256) (.slice a2 n2 k2) (.slice none 0 0))
  have HY2 := Lib.hid (set3_ints HM2.out.box (by decide) HXM2.out (.int .i64 256) (.slice a2 n2 k2) (.slice none 0 0))
  have HA2 := Lib.hid (show gs2.length ≤ 1000 ∧ ands gs2 = parAnds ((c : Int) % 2 == 1) + parAnds ((c : Int) / 2 % 2 == 1) from ⟨by have := HQ2.out.2; have := HA1.out.1; omega, by rw [HQ2.out.1, HA1.out.2]; rfl⟩)
  clear d0 d1 d2 e0 e1 e2 HM2 HXM2 hs2
  generalize ((w2.setCell ⟨w.heap.size + 1, 0, none⟩ (.int .i64 256)).setCell ⟨w.heap.size + 1, 1, none⟩ (.slice a2 n2 k2)).setCell ⟨w.heap.size + 1, 2, none⟩ (.slice none 0 0) = W2 at HO2 HX2 HY2 ⊢
  obtain ⟨⟨c0, c1, c2⟩, f0, f1, f2⟩ := HO2.out.cells
  go_upto_region 8 with (go_at_call 125; go_must (refine (put9_i (w.heap.size + 2) 256 _ _ none 0 0 _ _ _ _ HO2.out.own (by have := HO2.out.lt; omega) (by omega) (by have := HA2.out.1; first | omega | (simp only [len_snoc, len_carry]; omega))).mono ?_; rintro e w3 ⟨a3, n3, k3, z3, rfl, hs3⟩; have hm := HO2.out.call hs3; have HM3 := Lib.hid hm; obtain ⟨⟨d0, d1, d2⟩, e0, e1, e2⟩ := hm.cells; clear hm c0 c1 c2 f0 f1 f2))
  have HO3 := Lib.hid (Mx9.start HM3.out.store (set3_ints HM3.out.box (by decide) (hs3.ints HO2.out.own HX2.out) _ _ _) (set3_ints HM3.out.box (by decide) (hs3.ints HO2.out.own HY2.out) _ _ _))
  have HA3 := Lib.hid (show (gs2 ++ [(⟨1, 0, 0⟩ : Gate)]).length ≤ 1001 ∧ ands (gs2 ++ [(⟨1, 0, 0⟩ : Gate)]) = parAnds ((c : Int) % 2 == 1) + parAnds ((c : Int) / 2 % 2 == 1) from ⟨by rw [len_snoc]; have := HA2.out.1; omega, by rw [ands_put, if_neg (by decide)]; exact HA2.out.2⟩)
  clear d0 d1 d2 e0 e1 e2 HM3 hs3 HX2 HY2
  generalize ((w3.setCell ⟨w.heap.size + 1, 0, none⟩ (.int .i64 256)).setCell ⟨w.heap.size + 1, 1, none⟩ (.slice a3 n3 k3)).setCell ⟨w.heap.size + 1, 2, none⟩ (.slice none 0 0) = W3 at HO3 ⊢
  obtain ⟨⟨c0, c1, c2⟩, f0, f1, f2⟩ := HO3.out.mc.cells
  go_upto_region 21 with (go_at_call 126; go_must (refine (less9_i (w.heap.size + 2) 256 _ _ none 0 0 _ _ _ _ _ HO3.out.mc.own (by have := HO3.out.mc.lt; omega) (by omega) (by have := HA3.out.1; omega) _ _ HO3.out.x HO3.out.y).mono ?_; rintro e w4 ⟨a4, n4, k4, z4, gs4, rfl, hq4, hs4⟩; have hm := HO3.out.call hs4; have HM4 := Lib.hid hm; have HQ4 := Lib.hid hq4; obtain ⟨⟨d0, d1', d2⟩, e0, e1, e2⟩ := hm.mm.cells; clear hm c0 c1 c2 f0 f1 f2 hq4))
  have HO4 := Lib.hid HM4.out.store
  have HA4 := Lib.hid (show gs4.length ≤ 1501 ∧ ands gs4 = parAnds ((c : Int) % 2 == 1) + parAnds ((c : Int) / 2 % 2 == 1) + 64 from ⟨by have := HQ4.out.2; have := HA3.out.1; omega, by have := HQ4.out.1; have := HA3.out.2; omega⟩)
  clear d0 d1' d2 e0 e1 e2 HM4 hs4 HA3 HQ4 HA2 HA1 HQ2
  generalize ((w4.setCell ⟨w.heap.size + 1, 0, none⟩ (.int .i64 256)).setCell ⟨w.heap.size + 1, 1, none⟩ (.slice a4 n4 k4)).setCell ⟨w.heap.size + 1, 2, none⟩ (.slice none 0 0) = W4 at HO4 ⊢

  obtain ⟨⟨c0, c1, c2⟩, f0, f1, f2⟩ := HO4.out.mc.cells
  go_upto_region 23 with (at_builtin; obtain ⟨l, hl⟩ := HO4.out.outs; refine app_k rfl _ _ 24 rfl 3 _ 1 8 Tryz.underlying24 info_int rfl (by decide) #[_] _ _ _ _ hl rfl rfl rfl (by intro u hu; simp at hu; subst hu; rfl) (by have := HO4.out.mc.lt; omega) (by omega) (by unfold maxLen; omega) ?_; intro y w9 hown9 hg9 hb9; go_must (obtain ⟨b9, oc9, rfl, hb9a, hl9⟩ := hown9.form (by omega); obtain ⟨oo9, hoo9⟩ : ∃ oo9, (some ⟨b9, 0, none⟩ : Option Addr) = oo9 := ⟨_, rfl⟩; have hm := HO4.out.add hg9 hown9 rfl hb9; rw [hoo9] at hm ⊢; have HM9 := Lib.hid hm; obtain ⟨⟨d0, d1', d2⟩, e0, e1, e2⟩ := hm.mc.cells; clear hown9 hg9 hl hm hb9 c0 c1 c2 f0 f1 f2))
  have HO9 := Lib.hid (show Mx9 w 256 oo9 1 oc9 _ _ _ _ _ _ _ _ (w9.setCell ⟨w.heap.size + 1, 2, none⟩ (.slice oo9 1 oc9)) from HM9.out.store)
  clear d0 d1' d2 e0 e1 e2 HM9
  generalize w9.setCell ⟨w.heap.size + 1, 2, none⟩ (.slice oo9 1 oc9) = W9 at HO9 ⊢
  clear HO4 HO3 HO2 HO1 HO0 HX1
  go_wp2_with fail
  go_loopg [14] 63 (fun g kv wr => ∃ (k : Nat) (oo : Option Addr) (oc : Nat), 1 ≤ k ∧ k ≤ 64 ∧ g = 64 - k ∧ kv = .int .i64 k ∧ Hid (Mx9 w 256 oo k oc gs4 (.slice a4 n4 k4) g1 d1 g2 d2 l1 l2 wr))
  case atStart => exact ⟨1, oo9, oc9, by omega, by omega, rfl, rfl, HO9⟩
  case round =>
    clear HO9
    obtain ⟨k, oo, oc, hk1, hk, hg', rfl, HO3⟩ := hrel
    have hbl := HO3.out.mc.lt
    by_cases hk64 : k < 64
    · obtain ⟨⟨c0, c1, c2⟩, f0, f1, f2⟩ := HO3.out.mc.cells
      go_wp2_with (at_builtin; obtain ⟨l, hl⟩ := HO3.out.outs; refine app_k rfl _ _ 24 rfl 3 _ 1 8 Tryz.underlying24 info_int rfl (by decide) #[_] _ _ _ _ hl rfl rfl rfl (by intro u hu; simp at hu; subst hu; rfl) (by have := HO3.out.mc.lt; omega) (by omega) (by unfold maxLen; omega) ?_; intro y w9 hown9 hg9 hb9; go_must (obtain ⟨b9, oc9, rfl, hb9a, hl9⟩ := hown9.form (by omega); obtain ⟨oo9, hoo9⟩ : ∃ oo9, (some ⟨b9, 0, none⟩ : Option Addr) = oo9 := ⟨_, rfl⟩; have hm := HO3.out.add hg9 hown9 rfl hb9; rw [hoo9] at hm ⊢; have HM9 := Lib.hid hm; obtain ⟨⟨d0, d1', d2⟩, e0, e1, e2⟩ := hm.mc.cells; clear hown9 hg9 hl hm hb9 c0 c1 c2 f0 f1 f2))
      have HO9 := Lib.hid HM9.out.store
      clear d0 d1' d2 e0 e1 e2 HM9
      go_roundg (64 - (k + 1))
      case measure => omega
      case rel => exact ⟨k + 1, oo9, oc9, by omega, by omega, rfl, by go_num, HO9⟩
    · obtain rfl : k = 64 := by omega
      obtain ⟨⟨c0, c1, c2⟩, f0, f1, f2⟩ := HO3.out.mc.cells
      obtain ⟨⟨d0, d1', d2⟩, e0, e1, e2⟩ := HO3.out.mc.rcells
      go_wp2_with fail
      obtain ⟨hr, ho, hb⟩ := HO3.out.mc.result
      refine bodyPost_ret (results_cell_row rfl _ _ w.heap.size 184 #[_, _, _] _ _ rfl hr Tryz.underlying184 rfl info_circ9) rfl ?_
      exact ⟨_, _, _, _, _, _, _, _, rfl, ho, ⟨HA4.out.2, by have := HA4.out.1; omega⟩, hb⟩
end Go.Proofs.YtjbhgimhcjcpmaaGreatDoor

/-
  THE CONTRACT of twainref09.Make at kind 3.
-/
namespace Go.Proofs.YtjbhgimhcjcpmaaGreatDoor
open Go.RowKit
set_option linter.unusedSimpArgs false

set_option maxHeartbeats 4000000 in
set_option maxRecDepth 100000 in
theorem make9_3 (c : Nat) (w : World) (hc : circOk 3 c = true) :
    Calls Tryz.prog 106 #[.int .i64 3, .int .u64 c] w (MadeR w (parAnds ((c : Int) % 2 == 1) + parAnds ((c : Int) / 2 % 2 == 1) + 128)) := by
  have hR : rOperands 3 c = 2 := by unfold rOperands; rw [if_pos hc]; rfl
  have HR := Lib.hid hR
  clear hR
  have hc4 : c < 4 := by unfold circOk at hc; simp at hc; omega
  go_enter Tryz.func106, Tryz.ntmps106
  go_upto_region 4 with (go_at_call 77; go_must (refine (refOperands_any _ _ _).mono ?_; rw [HR.out]; rintro e w' ⟨rfl, rfl⟩))
  have HO0 := Lib.hid (Mc9.start w 256)
  have HL := Lib.hid (show ([] : List Gate).length = 0 from rfl)
  generalize ((w.alloc (.cells #[.int .i64 0, .slice none 0 0, .slice none 0 0] 184)).alloc (.cells #[.int .i64 256, .slice none 0 0, .slice none 0 0] 184)) = W0 at HO0 ⊢
  obtain ⟨⟨c0, c1, c2⟩, f0, f1, f2⟩ := HO0.out.cells
  go_upto_region 5 with (go_at_call 124; go_must (refine (operand9_i (w.heap.size + 2) 256 _ _ none 0 0 _ _ _ _ HO0.out.own (by have := HO0.out.lt; omega) (by omega) (by have := HL.out; first | omega | (simp only [len_snoc, len_carry]; omega)) (by omega) (by omega)).mono ?_; rintro e w1 ⟨a1, n1, k1, g1, d1, l1, gs1, rfl, hx1, hq1, hs1⟩; have hm := HO0.out.call hs1; have HM1 := Lib.hid hm; have HXM1 := Lib.hid hx1.1; have HQ1 := Lib.hid hq1; obtain ⟨⟨d0, d1, d2⟩, e0, e1, e2⟩ := hm.cells; clear hm c0 c1 c2 f0 f1 f2 hx1 hq1))
  have HO1 := Lib.hid HM1.out.store
  have HX1 := Lib.hid (set3_ints HM1.out.box (by decide) HXM1.out (.int .i64 256) (.slice a1 n1 k1) (.slice none 0 0))
  clear d0 d1 d2 e0 e1 e2 HM1 HXM1
  generalize ((w1.setCell ⟨w.heap.size + 1, 0, none⟩ (.int .i64 256)).setCell ⟨w.heap.size + 1, 1, none⟩ (.slice a1 n1 k1)).setCell ⟨w.heap.size + 1, 2, none⟩ (.slice none 0 0) = W1 at HO1 HX1 ⊢
  obtain ⟨⟨c0, c1, c2⟩, f0, f1, f2⟩ := HO1.out.cells
  have HA1 := Lib.hid (show gs1.length ≤ 500 ∧ ands gs1 = parAnds ((c : Int) % 2 == 1) from ⟨by have := HQ1.out.2; simpa using this, by have := HQ1.out.1; simpa [parAnds, ands] using this⟩)
  clear HL HQ1
  go_upto_region 7 with (go_at_call 124; go_must (refine (operand9_i (w.heap.size + 2) 256 _ _ none 0 0 _ _ _ _ HO1.out.own (by have := HO1.out.lt; omega) (by omega) (by have := HA1.out.1; first | omega | (simp only [len_snoc, len_carry]; omega)) (by omega) (by omega)).mono ?_; rintro e w2 ⟨a2, n2, k2, g2, d2, l2, gs2, rfl, hx2, hq2, hs2⟩; have hm := HO1.out.call hs2; have HM2 := Lib.hid hm; have HXM2 := Lib.hid hx2.1; have HQ2 := Lib.hid hq2; obtain ⟨⟨d0, d1, d2⟩, e0, e1, e2⟩ := hm.cells; clear hm c0 c1 c2 f0 f1 f2 hx2 hq2))
  have HO2 := Lib.hid HM2.out.store
  have HX2 := Lib.hid (set3_ints HM2.out.box (by decide) (hs2.ints HO1.out.own HX1.out) (.int .i64 256) (.slice a2 n2 k2) (.slice none 0 0))
  have HY2 := Lib.hid (set3_ints HM2.out.box (by decide) HXM2.out (.int .i64 256) (.slice a2 n2 k2) (.slice none 0 0))
  have HA2 := Lib.hid (show gs2.length ≤ 1000 ∧ ands gs2 = parAnds ((c : Int) % 2 == 1) + parAnds ((c : Int) / 2 % 2 == 1) from ⟨by have := HQ2.out.2; have := HA1.out.1; omega, by rw [HQ2.out.1, HA1.out.2]; rfl⟩)
  clear d0 d1 d2 e0 e1 e2 HM2 HXM2 hs2
  generalize ((w2.setCell ⟨w.heap.size + 1, 0, none⟩ (.int .i64 256)).setCell ⟨w.heap.size + 1, 1, none⟩ (.slice a2 n2 k2)).setCell ⟨w.heap.size + 1, 2, none⟩ (.slice none 0 0) = W2 at HO2 HX2 HY2 ⊢
  obtain ⟨⟨c0, c1, c2⟩, f0, f1, f2⟩ := HO2.out.cells
  go_upto_region 8 with (go_at_call 125; go_must (refine (put9_i (w.heap.size + 2) 256 _ _ none 0 0 _ _ _ _ HO2.out.own (by have := HO2.out.lt; omega) (by omega) (by have := HA2.out.1; first | omega | (simp only [len_snoc, len_carry]; omega))).mono ?_; rintro e w3 ⟨a3, n3, k3, z3, rfl, hs3⟩; have hm := HO2.out.call hs3; have HM3 := Lib.hid hm; obtain ⟨⟨d0, d1, d2⟩, e0, e1, e2⟩ := hm.cells; clear hm c0 c1 c2 f0 f1 f2))
  have HO3 := Lib.hid (Mx9.start HM3.out.store (set3_ints HM3.out.box (by decide) (hs3.ints HO2.out.own HX2.out) _ _ _) (set3_ints HM3.out.box (by decide) (hs3.ints HO2.out.own HY2.out) _ _ _))
  have HA3 := Lib.hid (show (gs2 ++ [(⟨1, 0, 0⟩ : Gate)]).length ≤ 1001 ∧ ands (gs2 ++ [(⟨1, 0, 0⟩ : Gate)]) = parAnds ((c : Int) % 2 == 1) + parAnds ((c : Int) / 2 % 2 == 1) from ⟨by rw [len_snoc]; have := HA2.out.1; omega, by rw [ands_put, if_neg (by decide)]; exact HA2.out.2⟩)
  clear d0 d1 d2 e0 e1 e2 HM3 hs3 HX2 HY2
  generalize ((w3.setCell ⟨w.heap.size + 1, 0, none⟩ (.int .i64 256)).setCell ⟨w.heap.size + 1, 1, none⟩ (.slice a3 n3 k3)).setCell ⟨w.heap.size + 1, 2, none⟩ (.slice none 0 0) = W3 at HO3 ⊢
  obtain ⟨⟨c0, c1, c2⟩, f0, f1, f2⟩ := HO3.out.mc.cells
  go_upto_region 21 with (go_at_call 126; go_must (refine (less9_i (w.heap.size + 2) 256 _ _ none 0 0 _ _ _ _ _ HO3.out.mc.own (by have := HO3.out.mc.lt; omega) (by omega) (by have := HA3.out.1; omega) _ _ HO3.out.x HO3.out.y).mono ?_; rintro e w4 ⟨a4, n4, k4, z4, gs4, rfl, hq4, hs4⟩; have hm := HO3.out.call hs4; have HM4 := Lib.hid hm; have HQ4 := Lib.hid hq4; obtain ⟨⟨d0, d1', d2⟩, e0, e1, e2⟩ := hm.mm.cells; clear hm c0 c1 c2 f0 f1 f2 hq4))
  have HO4 := Lib.hid HM4.out.store
  have HA4 := Lib.hid (show gs4.length ≤ 1501 ∧ ands gs4 = parAnds ((c : Int) % 2 == 1) + parAnds ((c : Int) / 2 % 2 == 1) + 64 from ⟨by have := HQ4.out.2; have := HA3.out.1; omega, by have := HQ4.out.1; have := HA3.out.2; omega⟩)
  clear d0 d1' d2 e0 e1 e2 HM4 hs4 HA3 HQ4 HA2 HA1 HQ2
  generalize ((w4.setCell ⟨w.heap.size + 1, 0, none⟩ (.int .i64 256)).setCell ⟨w.heap.size + 1, 1, none⟩ (.slice a4 n4 k4)).setCell ⟨w.heap.size + 1, 2, none⟩ (.slice none 0 0) = W4 at HO4 ⊢

  clear HO3 HO2 HO1 HO0 HX1
  go_wp2_with fail
  go_loopg [15, 16] 64 (fun g kv tv wr => ∃ (k : Nat) (gs5 : List Gate) (ao5 : Option Addr) (m5 c5 : Nat) (oo : Option Addr) (oc : Nat) (tv' : Value), k ≤ 64 ∧ g = 64 - k ∧ kv = .int .i64 k ∧ tv = tv' ∧ Hid (Mx9 w 256 oo k oc gs5 (.slice ao5 m5 c5) g1 d1 g2 d2 l1 l2 wr) ∧ Hid (gs5.length ≤ 1501 + 3 * k ∧ ands gs5 = parAnds ((c : Int) % 2 == 1) + parAnds ((c : Int) / 2 % 2 == 1) + 64 + k))
  case atStart => exact ⟨0, _, a4, n4, k4, none, 0, _, by omega, rfl, rfl, rfl, HO4, Lib.hid ⟨HA4.out.1, HA4.out.2⟩⟩
  case round =>
    clear HO4 HA4
    obtain ⟨k, gs5, ao5, m5, c5, oo, oc, tv', hk, hg', rfl, rfl, HO5, HA5⟩ := hrel
    have hbl := HO5.out.mc.lt
    by_cases hk64 : k < 64
    · have hi0 : (0 : Int) ≤ (k : Int) := by omega
      have hi1 : (k : Int) < 64 := by omega
      have hdk : decide ((k : Int) < 64) = true := by simp; omega
      have HL1 := Lib.hid (show gs5.length ≤ 1700 by have := HA5.out.1; omega)
      go_wp2_with fail
      obtain ⟨⟨c0, c1, c2⟩, f0, f1, f2⟩ := HO5.out.mc.cells
      have hz := HO5.out.xat k (by omega)
      obtain ⟨zz, hzz⟩ : ∃ zz, l1.getD k 0 = zz := ⟨_, rfl⟩
      rw [hzz] at hz
      have hy := HO5.out.yat k (by omega)
      obtain ⟨yy, hyy⟩ : ∃ yy, l2.getD k 0 = yy := ⟨_, rfl⟩
      rw [hyy] at hy
      go_cut [16] from 114 to 126 (fun sd wx => ∃ (aj : Option Addr) (nj kj : Nat) (zj : Int) (gj : List Gate), sd = .int .i64 zj ∧ Hid (Mx9 w 256 oo k oc gj (.slice aj nj kj) g1 d1 g2 d2 l1 l2 wx) ∧ Hid (gj.length = (gs5).length + 1 ∧ ands gj = ands (gs5) + 0))
      case first =>
        go_region_law (first | (go_simp; go_at_call 125; refine (put9_i (w.heap.size + 2) 256 _ _ _ _ _ _ _ _ _ HO5.out.drew.mc.own (by have := HO5.out.drew.mc.lt; omega) (by omega) (by have := HL1.out; first | omega | (simp only [len_snoc]; omega))).mono ?_; rintro e w6 ⟨a6, n6, k6, z6, rfl, hs6⟩; have hm := HO5.out.drew.call hs6; have HM6 := Lib.hid hm; obtain ⟨⟨d0, d1', d2'⟩, e0, e1, e2⟩ := hm.mm.cells; have hz6 := hm.xat k (by omega); rw [hzz] at hz6; have hy6 := hm.yat k (by omega); rw [hyy] at hy6; clear hm c0 c1 c2 f0 f1 f2))
        all_goals
          have HO6 := Lib.hid HM6.out.store
          (try go_simp)
          go_wp2_with fail
          go_meet
          exact ⟨a6, n6, k6, z6, _, rfl, HO6, Lib.hid ⟨by rw [len_snoc], by rw [ands_put, if_neg (by decide)]⟩⟩
      case rest =>
      obtain ⟨a6, n6, k6, z6, q6, rfl, HO6, HG6⟩ := hcut
      clear c0 c1 c2 f0 f1 f2
      obtain ⟨⟨c0, c1, c2⟩, f0, f1, f2⟩ := HO6.out.mc.cells
      go_upto_region 34 with (go_at_call 125; go_must (refine (put9_i (w.heap.size + 2) 256 _ _ _ _ _ _ _ _ _ HO6.out.mc.own (by have := HO6.out.mc.lt; omega) (by omega) (by have := HL1.out; have := HG6.out.1; omega)).mono ?_; rintro e w7 ⟨a7, n7, k7, z7, rfl, hs7⟩; have hm := HO6.out.call hs7; have HM7 := Lib.hid hm; obtain ⟨⟨d0, d1', d2'⟩, e0, e1, e2⟩ := hm.mm.cells; clear hm c0 c1 c2 f0 f1 f2))
      have HO7 := Lib.hid HM7.out.store
      clear d0 d1' d2' e0 e1 e2 HM7 hs7 hz hzz hy hyy
      generalize ((w7.setCell ⟨w.heap.size + 1, 0, none⟩ (.int .i64 256)).setCell ⟨w.heap.size + 1, 1, none⟩ (.slice a7 n7 k7)).setCell ⟨w.heap.size + 1, 2, none⟩ (.slice oo k oc) = W7 at HO7 ⊢
      go_wp2_with fail
      obtain ⟨⟨c0, c1, c2⟩, f0, f1, f2⟩ := HO7.out.mc.cells
      have hz := HO7.out.xat k (by omega)
      obtain ⟨zz, hzz⟩ : ∃ zz, l1.getD k 0 = zz := ⟨_, rfl⟩
      rw [hzz] at hz
      go_cut [16] from 134 to 143 (fun sd wx => ∃ (aj : Option Addr) (nj kj : Nat) (zj : Int) (gj : List Gate), sd = .int .i64 zj ∧ Hid (Mx9 w 256 oo k oc gj (.slice aj nj kj) g1 d1 g2 d2 l1 l2 wx) ∧ Hid (gj.length = (q6 ++ [(⟨2, z4, z6⟩ : Gate)]).length + 1 ∧ ands gj = ands (q6 ++ [(⟨2, z4, z6⟩ : Gate)]) + 0))
      case first =>
        go_region_law (first | (go_simp; go_at_call 125; refine (put9_i (w.heap.size + 2) 256 _ _ _ _ _ _ _ _ _ HO7.out.drew.mc.own (by have := HO7.out.drew.mc.lt; omega) (by omega) (by have := HL1.out; have := HG6.out.1; simp only [len_snoc]; omega)).mono ?_; rintro e w8 ⟨a8, n8, k8, z8, rfl, hs8⟩; have hm := HO7.out.drew.call hs8; have HM8 := Lib.hid hm; obtain ⟨⟨d0, d1', d2⟩, e0, e1, e2⟩ := hm.mm.cells; have hz8 := hm.xat k (by omega); rw [hzz] at hz8; clear hm c0 c1 c2 f0 f1 f2))
        all_goals
          have HO8 := Lib.hid HM8.out.store
          (try go_simp)
          go_wp2_with fail
          go_meet
          exact ⟨a8, n8, k8, z8, _, rfl, HO8, Lib.hid ⟨by rw [len_snoc], by rw [ands_put, if_neg (by decide)]⟩⟩
      case rest =>
      obtain ⟨a8, n8, k8, z8, q8, rfl, HO8, HG8⟩ := hcut
      clear c0 c1 c2 f0 f1 f2
      obtain ⟨⟨c0, c1, c2⟩, f0, f1, f2⟩ := HO8.out.mc.cells
      go_wp2_with (at_builtin; obtain ⟨l, hl⟩ := HO8.out.outs; refine app_k rfl _ _ 24 rfl 3 _ 1 8 Tryz.underlying24 info_int rfl (by decide) #[_] _ _ _ _ hl rfl rfl rfl (by intro u hu; simp at hu; subst hu; rfl) (by have := HO8.out.mc.lt; omega) (by omega) (by unfold maxLen; omega) ?_; intro y w9 hown9 hg9 hb9; go_must (obtain ⟨b9, oc9, rfl, hb9a, hl9⟩ := hown9.form (by omega); obtain ⟨oo9, hoo9⟩ : ∃ oo9, (some ⟨b9, 0, none⟩ : Option Addr) = oo9 := ⟨_, rfl⟩; have hm := HO8.out.add hg9 hown9 rfl hb9; rw [hoo9] at hm ⊢; have HM9 := Lib.hid hm; obtain ⟨⟨d0, d1', d2⟩, e0, e1, e2⟩ := hm.mc.cells; clear hown9 hg9 hl hm hb9 c0 c1 c2 f0 f1 f2))
      have HO9 := Lib.hid HM9.out.store
      clear d0 d1' d2 e0 e1 e2 HM9
      go_roundg (64 - (k + 1))
      case measure => omega
      case rel => exact ⟨k + 1, _, a8, n8, k8, oo9, oc9, _, by omega, rfl, by go_num, rfl, HO9, Lib.hid ⟨by have h8 := HG8.out.1; have h6 := HG6.out.1; simp only [len_snoc] at h8; have := HA5.out.1; omega, by have h8 := HG8.out.2; have h6 := HG6.out.2; rw [ands_put, if_pos rfl] at h8; have := HA5.out.2; omega⟩⟩
    · obtain rfl : k = 64 := by omega
      obtain ⟨⟨c0, c1, c2⟩, f0, f1, f2⟩ := HO5.out.mc.cells
      obtain ⟨⟨d0, d1', d2⟩, e0, e1, e2⟩ := HO5.out.mc.rcells
      go_wp2_with fail
      obtain ⟨hr, ho, hb⟩ := HO5.out.mc.result
      refine bodyPost_ret (results_cell_row rfl _ _ w.heap.size 184 #[_, _, _] _ _ rfl hr Tryz.underlying184 rfl info_circ9) rfl ?_
      exact ⟨_, _, _, _, _, _, _, _, rfl, ho, ⟨by have := HA5.out.2; omega, by have := HA5.out.1; omega⟩, hb⟩
end Go.Proofs.YtjbhgimhcjcpmaaGreatDoor

/-
  THE CONTRACTS of twainref09.Ands and twainref11.Ands.
-/
namespace Go.Proofs.YtjbhgimhcjcpmaaGreatDoor
open Go.RowKit

set_option maxHeartbeats 1000000 in
set_option maxRecDepth 100000 in
theorem ands9_any (n : Int) (gv : Value) (oo : Option Addr) (on oc : Nat) (gs : List Gate) (w : World) (hg : Arr w.heap.size w 3 gv gs.length (gcells gs)) (hgl : gs.length ≤ 100000) :
    Calls Tryz.prog 105 #[.agg #[.int .i64 n, gv, .slice oo on oc]] w fun e w' => e = .returned (.int .i64 (ands gs : Nat)) ∧ Below w.heap.size w w' := by
  obtain ⟨ao, c, rfl, hc, hm, hl, hcell⟩ := hg.open
  have HC := Lib.hid hcell
  have HB := Lib.hid (heap_alloc_new w (.cells #[.int .i64 n, .slice ao gs.length c, .slice oo on oc] 184))
  have hb0 := (Below.refl w.heap.size w).alloc (Nat.le_refl _) (.cells #[.int .i64 n, .slice ao gs.length c, .slice oo on oc] 184)
  clear hcell hl hg hm
  go_enter Tryz.func105, Tryz.ntmps105
  go_upto_region 1 with fail
  generalize w.alloc _ = W0 at HB hb0 ⊢
  have hcb : W0.cell? ⟨w.heap.size, 1, none⟩ = some (.slice ao gs.length c) := by simp [World.cell?, HB.out]
  go_wp2_with fail
  go_loopg [3, 4] gs.length (fun g x i wr => ∃ k : Nat, k ≤ gs.length ∧ g = gs.length - k ∧ i = .int .i64 k ∧ x = .int .i64 (ands (gs.take k) : Nat) ∧ wr = W0)
  case atStart => exact ⟨0, Nat.zero_le _, rfl, rfl, rfl, rfl⟩
  case round =>
    obtain ⟨k, hk, hg', rfl, rfl, rfl⟩ := hrel
    have hle := ands_le (gs.take k)
    rw [List.length_take] at hle
    by_cases hkl : k < gs.length
    · obtain ⟨b, off, rfl, hbl, hcells⟩ := HC.out (by omega)
      have c0 : wr.cell? ⟨b, off + k * 3, none⟩ = some (.int .i64 gs[k].k) := by
        have := gcells_get gs k 0 hkl (by omega)
        rw [hb0.cell hbl]
        exact (hcells (k * 3) (by omega)).trans this
      have HT := Lib.hid (ands_take gs k hkl)
      generalize gs[k] = g at c0 HT
      clear hcells
      by_cases hg2 : g.k = 2
      · have hg3 : (g.k == 2) = true := by simpa using hg2
        clear hg2
        go_wp2_with fail
        first | (go_quiet (fail)) | skip
        go_wp2_with fail
        go_roundg (gs.length - (k + 1))
        case measure => omega
        case rel => exact ⟨k + 1, by omega, rfl, by go_num, by rw [HT.out, hg3]; go_num, rfl⟩
      · have hg3 : (g.k == 2) = false := by simpa using hg2
        clear hg2
        go_wp2_with fail
        first | (go_quiet (fail)) | skip
        go_wp2_with fail
        go_roundg (gs.length - (k + 1))
        case measure => omega
        case rel => exact ⟨k + 1, by omega, rfl, by go_num, by rw [HT.out, hg3]; rfl, rfl⟩
    · obtain rfl : k = gs.length := by omega
      go_wp2_with fail
      go_ret
      exact ⟨by rw [List.take_length]; rfl, hb0⟩

/-- How many And gates a garbled operation's circuit has, as the reference counts them. -/
def rAnds (k : Int) (c : Nat) : Nat := if k = 1 then parAnds ((c : Int) % 2 == 1) + 63 else parAnds ((c : Int) % 2 == 1) + parAnds ((c : Int) / 2 % 2 == 1) + (if k = 2 then 64 else 128)
theorem make9_any (k : Int) (c : Nat) (w : World) (hc : circOk k c = true) : Calls Tryz.prog 106 #[.int .i64 k, .int .u64 c] w (MadeR w (rAnds k c)) := by
  rcases circOk_cases hc with ⟨rfl, _⟩ | ⟨rfl | rfl, _⟩
  · exact make9_1 c w hc
  · exact make9_2 c w hc
  · exact make9_3 c w hc
set_option maxHeartbeats 1000000 in
set_option maxRecDepth 100000 in
theorem refAnds_any (o : MOp) (w : World) (hc : circOk o.k o.c = true) : Calls Tryz.prog 78 #[.agg o.arr] w (RetB (.int .i64 (rAnds o.k o.c : Nat)) w) := by
  obtain ⟨kind, a, b, k, c, party⟩ := o
  simp only [MOp.arr]
  simp only at hc
  have HC := Lib.hid hc
  clear hc
  go_enter Tryz.func78, Tryz.ntmps78
  go_wp2_with (first | (go_at_call 106; go_must (refine (make9_any k c _ HC.out).mono ?_; rintro e w1 ⟨ni, ao, n, c1, oo, on, oc, gs, rfl, ho, hq, hb1⟩; have HQ := Lib.hid hq; have HO := Lib.hid ho; have HB1 := Lib.hid hb1; clear hq ho hb1)) | (go_at_call 105; go_must (refine (ands9_any ni _ oo on oc gs _ (Arr.of_owns HO.out) (by have := HQ.out.2; omega)).mono ?_; rw [HQ.out.1]; rintro e w2 ⟨rfl, hb2⟩; have HB2 := Lib.hid hb2; clear hb2)))
  go_ret
  exact ⟨rfl, ((Below.refl _ _).alloc (Nat.le_refl _) _).trans ((HB1.out.mono (by simp)).trans (HB2.out.mono (by have := HB1.out.size; simp at this; omega)))⟩
end Go.Proofs.YtjbhgimhcjcpmaaGreatDoor
