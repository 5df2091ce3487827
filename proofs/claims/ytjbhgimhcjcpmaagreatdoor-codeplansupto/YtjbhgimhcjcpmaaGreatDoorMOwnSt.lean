/-
  WORDS for the law CodeOwn: what may be written over, and what stays.
-/
import Derived.Test.YtjbhgimhcjcpmaaGreatDoorMAwake
import Derived.Test.YtjbhgimhcjcpmaaGreatDoorMOwnAny
set_option linter.unusedSimpArgs false
set_option linter.unusedVariables false
namespace Go.Proofs.YtjbhgimhcjcpmaaGreatDoor
open Go.RowKit

/-- A slice that may be written over: it lies in a block from Q0 on, below Bq. -/
def Wr (Q0 Bq : Nat) (W : World) (t : TypeId) (k : Nat) (v : Value) (n : Nat) : Prop :=
  (n = 0 ∧ ∃ ao c, v = .slice ao 0 c) ∨ ∃ g cap cur, v = .slice (some ⟨g, 0, none⟩) n cap ∧ Q0 ≤ g ∧ g < Bq ∧ W.heap[g]? = some (.cells cur t (0, 0)) ∧ n * k ≤ cur.size ∧ n ≤ cap ∧ cap ≤ maxLen
theorem Wr.form {Q0 Bq : Nat} {W : World} {t : TypeId} {k : Nat} {v : Value} {n : Nat} (h : Wr Q0 Bq W t k v n) : ∃ ao c, v = .slice ao n c := by
  rcases h with ⟨rfl, ao, c, rfl⟩ | ⟨g, cap, cur, rfl, _⟩
  · exact ⟨ao, c, rfl⟩
  · exact ⟨_, _, rfl⟩
theorem Wr.of_owns {Q0 : Nat} {W W' : World} {t : TypeId} {k : Nat} {v : Value} {n : Nat} {xs : List Value} (h : W.ownsRow Q0 t k v n xs) (hb : Below W.heap.size W W') : Wr Q0 W.heap.size W' t k v n := by
  rcases h.2 with ⟨rfl, rfl⟩ | ⟨g, cap, cur, rfl, hB, hg, hnc, hcm, hcs, _⟩
  · exact .inl ⟨rfl, _, _, rfl⟩
  · exact .inr ⟨g, cap, cur, rfl, hB, lt_of_block hg, (hb.block g (lt_of_block hg)).trans hg, by rw [hcs]; exact Nat.mul_le_mul_right _ hnc, hnc, hcm⟩
theorem Wr.later {Q0 Bq : Nat} {W W' : World} {t : TypeId} {k : Nat} {v : Value} {n : Nat} (h : Wr Q0 Bq W t k v n) (hb : Below Bq W W') : Wr Q0 Bq W' t k v n := by
  rcases h with h | ⟨g, cap, cur, hv, h1, h2, hg, h3⟩
  · exact .inl h
  · exact .inr ⟨g, cap, cur, hv, h1, h2, (hb.block g h2).trans hg, h3⟩
theorem Wr.set {Q0 Bq : Nat} {W : World} {t : TypeId} {k : Nat} {v : Value} {n : Nat} (h : Wr Q0 Bq W t k v n) (b j : Nat) (x : Value) : Wr Q0 Bq (W.setCell ⟨b, j, none⟩ x) t k v n := by
  rcases h with h | ⟨g, cap, cur, hv, h1, h2, hg, h3, h4⟩
  · exact .inl h
  · by_cases e : g = b
    · subst e
      exact .inr ⟨g, cap, _, hv, h1, h2, heap_setCell hg x, by rw [Array.size_setIfInBounds]; exact h3, h4⟩
    · exact .inr ⟨g, cap, cur, hv, h1, h2, (heap_setCell_other' e x).trans hg, h3, h4⟩
/-- The cell that is written to. -/
theorem Wr.cell {Q0 Bq : Nat} {W : World} {t : TypeId} {k : Nat} {v : Value} {n : Nat} (h : Wr Q0 Bq W t k v n) (hn : 0 < n) :
    ∃ g cap, v = .slice (some ⟨g, 0, none⟩) n cap ∧ Q0 ≤ g ∧ g < Bq ∧ n ≤ cap ∧ cap ≤ maxLen ∧ (∃ cur, W.heap[g]? = some (.cells cur t (0, 0))) ∧ ∀ j, j < n * k → (∃ y, W.cell? ⟨g, j, none⟩ = some y) ∧ W.frozen? ⟨g, j, none⟩ = false := by
  rcases h with ⟨h, _⟩ | ⟨g, cap, cur, hv, h1, h2, hg, h3, h4, h5⟩
  · omega
  · refine ⟨g, cap, hv, h1, h2, h4, h5, ⟨cur, hg⟩, fun j hj => ⟨⟨cur[j]'(by omega), ?_⟩, by simp [World.frozen?, hg]⟩⟩
    rw [cell_of_row W g j cur t (0, 0) hg]
    simp [show j < cur.size by omega]

/-- What may be written over of a plan. -/
structure QWr (Q0 Bq : Nat) (W : World) (C : MPlan) (v : PVals) (vs : List Value) : Prop where
  ops : Wr Q0 Bq W 44 6 v.ops C.ops.length
  slots : Wr Q0 Bq W 3 1 v.slots C.slots.length
  shapes : W.ownsRow Q0 24 1 v.shapes vs.length vs
  len : vs.length = C.shapes.length
  rows : ∀ (i : Nat) (hi : i < vs.length), ∃ n, Wr Q0 Bq W 3 1 vs[i] n
theorem QWr.of_own {Q0 : Nat} {W W' : World} {C : MPlan} {v : PVals} (h : PlanOwn Q0 W C v) (hb : Below W.heap.size W W') : ∃ vs, QWr Q0 W.heap.size W' C v vs := by
  obtain ⟨vs, h1, h2⟩ := h.shapes
  exact ⟨vs, Wr.of_owns h.ops hb, Wr.of_owns h.slots hb, Below.owns h1 hb, h2.length, fun i hi => ⟨_, Wr.of_owns (h2.get i hi (by rw [← h2.length]; exact hi)) hb⟩⟩
theorem QWr.later {Q0 Bq : Nat} {W W' : World} {C : MPlan} {v : PVals} {vs : List Value} (h : QWr Q0 Bq W C v vs) (hb : Below W.heap.size W W') (hB : Bq ≤ W.heap.size) : QWr Q0 Bq W' C v vs :=
  ⟨h.ops.later (hb.mono hB), h.slots.later (hb.mono hB), Below.owns h.shapes hb, h.len, fun i hi => by obtain ⟨n, hn⟩ := h.rows i hi; exact ⟨n, hn.later (hb.mono hB)⟩⟩
/-- The law's state when it writes over the first answer. -/
structure LSt (w : World) (C : MPlan) (u vq vr : PVals) (Q0 Bq Br : Nat) (vs : List Value) (W : World) : Prop where
  bp : W.heap[w.heap.size]? = some (.cells (planArr C u) 30 (0, 0))
  bq : W.heap[Bq]? = some (.cells (planArr C vq) 30 (0, 0))
  br : W.heap[Br]? = some (.cells (planArr C vr) 30 (0, 0))
  below : Below w.heap.size w W
  pu : PlanAt Q0 W C u
  r : PlanOwn (Bq + 1) W C vr
  q : QWr Q0 Bq W C vq vs
  o1 : w.heap.size < Q0
  o2 : Q0 ≤ Bq
  o3 : Bq < Br
theorem LSt.write {w : World} {C : MPlan} {u vq vr : PVals} {Q0 Bq Br : Nat} {vs : List Value} {W : World} (h : LSt w C u vq vr Q0 Bq Br vs W) {g : Nat} (h1 : Q0 ≤ g) (h2 : g < Bq) {cur : Array Value} {t : TypeId} (hg : W.heap[g]? = some (.cells cur t (0, 0))) (ht : t ≠ 24) (j : Nat) (x : Value) :
    LSt w C u vq vr Q0 Bq Br vs (W.setCell ⟨g, j, none⟩ x) := by
  have ho1 := h.o1
  have ho3 := h.o3
  have hlow : Below Q0 W (W.setCell ⟨g, j, none⟩ x) := (Below.refl _ _).setCell (p := ⟨g, j, none⟩) h1 x
  have hoff : ∀ t', Off W (Bq + 1) t' (some g) := fun t' k hk => .inl (by obtain rfl := Option.some.inj hk; omega)
  exact ⟨(heap_setCell_other' (by omega) x).trans h.bp, (heap_setCell_other' (by omega) x).trans h.bq, (heap_setCell_other' (by omega) x).trans h.br, h.below.setCell (p := ⟨g, j, none⟩) (by show w.heap.size ≤ g; omega) x, h.pu.later hlow (Nat.le_refl _),
    h.r.kept (grown_set W g j x) (hoff _) (hoff _) (hoff _), ⟨h.q.ops.set g j x, h.q.slots.set g j x, own_off h.q.shapes (grown_set W g j x) (Off.block hg ht), h.q.len, fun i hi => by obtain ⟨n, hn⟩ := h.q.rows i hi; exact ⟨n, hn.set g j x⟩⟩, h.o1, h.o2, h.o3⟩
theorem LSt.drew {w : World} {C : MPlan} {u vq vr : PVals} {Q0 Bq Br : Nat} {vs : List Value} {W : World} (h : LSt w C u vq vr Q0 Bq Br vs W) (n : Nat) : LSt w C u vq vr Q0 Bq Br vs (W.drewN n) := by
  have hb : Below W.heap.size W (W.drewN n) := ⟨rfl, rfl, rfl, Nat.le_refl _, fun _ _ => rfl⟩
  have hq : Bq ≤ W.heap.size := Nat.le_of_lt (lt_of_block h.bq)
  exact ⟨h.bp, h.bq, h.br, h.below.trans (hb.mono h.below.size), h.pu.later (hb.mono (Nat.le_trans h.o2 hq)) (Nat.le_refl _), h.r.kept (below_off hb) (Off.none _ _ _) (Off.none _ _ _) (Off.none _ _ _), h.q.later hb hq, h.o1, h.o2, h.o3⟩
theorem LSt.puAt {w : World} {C : MPlan} {u vq vr : PVals} {Q0 Bq Br : Nat} {vs : List Value} {W : World} (h : LSt w C u vq vr Q0 Bq Br vs W) : PlanAt W.heap.size W C u := h.pu.later (Below.refl _ _) (by have := lt_of_block h.bq; have := h.o2; omega)
end Go.Proofs.YtjbhgimhcjcpmaaGreatDoor

/-
  THE LAW CodeOwn: its walk.
-/
namespace Go.Proofs.YtjbhgimhcjcpmaaGreatDoor
open Go.RowKit

theorem cutSh_twice (l : List (List Int)) : cutSh (cutSh l) = cutSh l := by
  simp only [cutSh, ← List.map_take, List.take_take, List.map_map, Nat.min_self]
  congr 1
  funext s
  simp [List.take_take]
theorem cutPlan_twice (p : MPlan) : cutPlan (cutPlan p) = cutPlan p := by
  simp [cutPlan, cutSh_twice, List.take_take]
theorem cut_hc {p : MPlan} (h : ∀ o ∈ p.ops, o.c < 18446744073709551616) : ∀ o ∈ (cutPlan p).ops, o.c < 18446744073709551616 := fun o ho => h o (List.mem_of_mem_take ho)
theorem cutSh_len (l : List (List Int)) : (cutSh l).length ≤ 100 := by simp [cutSh]; omega
theorem own_at {B : Nat} {W : World} {p : MPlan} {u : PVals} (h : PlanOwn B W (cutPlan p) u) (hc : ∀ o ∈ p.ops, o.c < 18446744073709551616) : PlanAt W.heap.size W (cutPlan p) u :=
  h.at (by simp [cutPlan]; omega) (by have := cutSh_len p.shapes; show (cutSh p.shapes).length ≤ _; omega) (by have := cutSh_len p.in0; show (cutSh p.in0).length ≤ _; omega) (by have := cutSh_len p.in1; show (cutSh p.in1).length ≤ _; omega) (cut_hc hc)
theorem own_in {B : Nat} {W : World} {p : MPlan} {u : PVals} (h : PlanOwn B W p u) (hc : ∀ o ∈ p.ops, o.c < 18446744073709551616) : PlanIn W.heap.size W p u :=
  ⟨Arr.of_owns h.ops, Arr.of_owns h.slots, h.shapes.sh, h.in0.sh, h.in1.sh, hc⟩
/-- The law's two plans: the one that came in, cut (in its box), and the copy. -/
structure Two (w : World) (C : MPlan) (u v : PVals) (Bi : Nat) (W : World) : Prop where
  bp : W.heap[w.heap.size]? = some (.cells (planArr C u) 30 (0, 0))
  bi : W.heap[Bi]? = some (.cells (planArr C v) 30 (0, 0))
  below : Below w.heap.size w W
  pu : PlanAt Bi W C u
  pv : PlanAt Bi W C v
  lt : w.heap.size < Bi
theorem Two.later {w : World} {C : MPlan} {u v : PVals} {Bi : Nat} {W W' : World} (h : Two w C u v Bi W) (hb : Below W.heap.size W W') : Two w C u v Bi W' :=
  ⟨(hb.block _ (lt_of_block h.bp)).trans h.bp, (hb.block _ (lt_of_block h.bi)).trans h.bi, h.below.trans (hb.mono h.below.size), h.pu.later (hb.mono (Nat.le_of_lt (lt_of_block h.bi))) (Nat.le_refl _), h.pv.later (hb.mono (Nat.le_of_lt (lt_of_block h.bi))) (Nat.le_refl _), h.lt⟩

theorem planBytes_small (p : MPlan) (h : mGood (cutPlan p) = true) : 4 ≤ (planBytes (cutPlan p)).length ∧ (planBytes (cutPlan p)).length ≤ 1000000 := by
  obtain ⟨_, h2, h3, h4, h5, h6⟩ := good_parts h
  have sh : ∀ l : List (List Int), l.length ≤ 100 → (∀ s ∈ l, s.length ≤ 2 ∧ ∀ d ∈ s, 1 ≤ d ∧ d ≤ 16) → (shBytes l).length ≤ 5000 := fun l hl hs => by
    have h1 := flatMap_len_le oneShape 40 l fun s hs' => oneShape_len s (hs s hs')
    have h2 := num7_len3 l.length (by omega)
    unfold shBytes
    rw [List.length_append]; omega
  have hops : (cutPlan p).ops.length ≤ 3000 := by simp [cutPlan]; omega
  have a1 := num7_len3 (cutPlan p).e0.toNat (by omega)
  have a2 := num7_len3 (cutPlan p).e1.toNat (by omega)
  have a3 := num7_len3 (cutPlan p).ops.length (by omega)
  have a4 := sh _ (cutSh_len p.in0) (h6 (cutPlan p).in0 (.inl rfl)).2
  have a5 := sh _ (cutSh_len p.in1) (h6 (cutPlan p).in1 (.inr (.inl rfl))).2
  have a6 := sh _ (cutSh_len p.shapes) (h6 (cutPlan p).shapes (.inr (.inr rfl))).2
  have a7 := flatMap_len_le opBytes 23 (cutPlan p).ops fun o ho => opBytes_len3 o (h5 o ho)
  have e : planBytes (cutPlan p) = [84, 87, 78, 1] ++ (num7 (cutPlan p).e0.toNat ++ (num7 (cutPlan p).e1.toNat ++ (shBytes (cutSh p.in0) ++ (shBytes (cutSh p.in1) ++ (shBytes (cutSh p.shapes) ++ (num7 (cutPlan p).ops.length ++ (cutPlan p).ops.flatMap opBytes)))))) := by simp [planBytes, headBytes, flat, cutPlan]
  rw [e]
  simp only [List.length_append, List.length_cons, List.length_nil]
  omega
theorem Two.pvAt {w : World} {C : MPlan} {u v : PVals} {Bi : Nat} {W : World} (h : Two w C u v Bi W) : PlanAt W.heap.size W C v := h.pv.later (Below.refl _ _) (Nat.le_of_lt (lt_of_block h.bi))
theorem Two.puAt {w : World} {C : MPlan} {u v : PVals} {Bi : Nat} {W : World} (h : Two w C u v Bi W) : PlanAt W.heap.size W C u := h.pu.later (Below.refl _ _) (Nat.le_of_lt (lt_of_block h.bi))
theorem below_new {z : Array Value} (w : World) (cs : Array Value) : Below w.heap.size w ((w.alloc (.cells z 30)).setRow w.heap.size cs) := below_setRow ((Below.refl _ _).alloc (Nat.le_refl _) _) (Nat.le_refl _) _
/-- The first answer is there. -/
structure Mid (w w9 w10 : World) (C : MPlan) (u vq : PVals) (W : World) : Prop where
  bp : W.heap[w.heap.size]? = some (.cells (planArr C u) 30 (0, 0))
  bq : W.heap[w10.heap.size]? = some (.cells (planArr C vq) 30 (0, 0))
  below : Below w.heap.size w W
  pu : PlanAt w9.heap.size W C u
  q : ∃ vs, QWr w9.heap.size w10.heap.size W C vq vs
  o1 : w.heap.size < w9.heap.size
  o2 : w9.heap.size ≤ w10.heap.size
  size : W.heap.size = w10.heap.size + 1
theorem Mid.le9 {w w9 w10 : World} {C : MPlan} {u vq : PVals} {W : World} (h : Mid w w9 w10 C u vq W) : w9.heap.size ≤ W.heap.size := by have := h.o2; have := h.size; omega
theorem mid_st {w w9 w10 : World} {C : MPlan} {u x vq : PVals} {Bi : Nat} {z : Array Value} (h : Two w C u x Bi w9) (hq : PlanOwn w9.heap.size w10 C vq) (hb : Below w9.heap.size w9 w10) : Mid w w9 w10 C u vq ((w10.alloc (.cells z 30)).setRow w10.heap.size (planArr C vq)) := by
  have hn := below_new (z := z) w10 (planArr C vq)
  have h1 := hb.trans (hn.mono hb.size)
  have hlt := lt_of_block h.bp
  exact ⟨(h1.block _ hlt).trans h.bp, setRow_heap _ _ _ _ _ _ (heap_alloc_new w10 _), h.below.trans (h1.mono h.below.size), h.puAt.later h1 (Nat.le_refl _), QWr.of_own hq hn, hlt, hb.size, by rw [size_setRow, World.size_alloc]⟩
theorem last_st {w w9 w10 W w12 : World} {C : MPlan} {u vq vr : PVals} {z : Array Value} (h : Mid w w9 w10 C u vq W) (hr : PlanOwn W.heap.size w12 C vr) (hb : Below W.heap.size W w12) : ∃ vs, LSt w C u vq vr w9.heap.size w10.heap.size w12.heap.size vs ((w12.alloc (.cells z 30)).setRow w12.heap.size (planArr C vr)) := by
  have hn := below_new (z := z) w12 (planArr C vr)
  have h1 := hb.trans (hn.mono hb.size)
  have hs := hb.size
  have hsz := h.size
  have ho1 := h.o1
  have ho2 := h.o2
  obtain ⟨vs, hq⟩ := h.q
  refine ⟨vs, (h1.block _ (lt_of_block h.bp)).trans h.bp, (h1.block _ (lt_of_block h.bq)).trans h.bq, setRow_heap _ _ _ _ _ _ (heap_alloc_new w12 _), h.below.trans (h1.mono h.below.size), h.pu.later (h1.mono (by omega)) (Nat.le_refl _), ?_, hq.later h1 (by omega), ho1, ho2, by omega⟩
  rw [← hsz]
  exact hr.kept (below_off hn) (Off.none _ _ _) (Off.none _ _ _) (Off.none _ _ _)
theorem plan_one {B : Nat} {W : World} {p : MPlan} {u : PVals} (h : PlanOwn B W p u) : (planArr p u).all (·.oneCell') = true := by
  obtain ⟨_, _, e1, _⟩ := own_open h.ops
  obtain ⟨_, _, e2, _⟩ := own_open h.slots
  obtain ⟨_, _, e3⟩ := h.shapes.form
  obtain ⟨_, _, e4⟩ := h.in0.form
  obtain ⟨_, _, e5⟩ := h.in1.form
  simp [planArr, Value.oneCell', e1, e2, e3, e4, e5]

theorem two_start {w W3 w4 : World} {C : MPlan} {u x : PVals} {z : Array Value} (hx : W3.heap[w.heap.size]? = some (.cells (planArr C u) 30 (0, 0))) (hb : Below w.heap.size w W3) (hu : PlanAt W3.heap.size W3 C u) (hb4 : Below W3.heap.size W3 w4) (hv : PlanAt w4.heap.size w4 C x) :
    Two w C u x w4.heap.size ((w4.alloc (.cells z 30)).setRow w4.heap.size (planArr C x)) := by
  have hlt := lt_of_block hx
  have hsz := hb4.size
  have h1 : Below w4.heap.size w4 ((w4.alloc (.cells z 30)).setRow w4.heap.size (planArr C x)) := below_setRow ((Below.refl _ _).alloc (Nat.le_refl _) _) (Nat.le_refl _) _
  exact ⟨(h1.block _ (by omega)).trans ((hb4.block _ hlt).trans hx), setRow_heap _ _ _ _ _ _ (heap_alloc_new w4 _), (hb.trans (hb4.mono hb.size)).trans (h1.mono (by have := hb.size; omega)), (hu.later hb4 hsz).later h1 (Nat.le_refl _), hv.later h1 (Nat.le_refl _), by omega⟩

set_option maxHeartbeats 8000000 in
set_option maxRecDepth 100000 in
theorem codeOwn_walk (p : MPlan) (v : PVals) (w : World) (h : PlanIn w.heap.size w p v) (hE : ErrT w) :
    Calls Tryz.prog 3 #[.agg (planArr p v)] w (RetB (.bool true) w) := by
  have HP := Lib.hid h
  have HE := Lib.hid hE
  have HC := Lib.hid h.hc
  have HB0 := Lib.hid ((Below.refl w.heap.size w).alloc (Nat.le_refl _) (.cells (planArr p v) 30))
  have HX0 := Lib.hid (heap_alloc_new w (.cells (planArr p v) 30))
  clear h hE
  simp only [planArr] at HB0 HX0 ⊢
  go_enter Tryz.func3, Tryz.ntmps3
  go_upto_region 4 with (first | (go_at_call 6; go_must (refine (awake_any _ (HE.out.below HB0.out)).mono ?_; unfold RetB; rintro e w1 ⟨rfl, hb1⟩; have hx := (hb1.block _ (by rw [World.size_alloc]; omega)).trans HX0.out; have HB1 := Lib.hid (HB0.out.trans (hb1.mono HB0.out.size)); have HX1 := Lib.hid hx; obtain ⟨⟨c0, c1, c2, c3, c4⟩, ⟨c5, c6, c7, c8, c9, c10, c11, c12⟩, c13, c14, c15⟩ := plan_cells (p := p) (v := v) hx; clear hb1 hx)) | (go_at_call 7; go_must (refine (own_any p v _ (HP.out.later HB1.out HB1.out.size)).mono ?_; rintro e w2 ⟨u, rfl, ho, hb⟩; have HX2 := Lib.hid ((hb.block _ (lt_of_block HX1.out)).trans HX1.out); have HO2 := Lib.hid ho; have HB2 := Lib.hid (HB1.out.trans (hb.mono HB1.out.size)); clear ho hb c0 c1 c2 c3 c4 c5 c6 c7 c8 c9 c10 c11 c12 c13 c14 c15)) | ((with_reducible show wpList _ _ _ (⟨_, Op.store 30 (.tmp 1) _, _, _, _, _⟩ :: _) _ _); go_must (refine wpList_store_row rfl 30 _ _ rfl w.heap.size (planArr (cutPlan p) u) rfl rfl 30 _ HX2.out info_planP rfl (plan_one HO2.out) ?_)))
  have HX3 := Lib.hid (setRow_heap _ _ _ _ _ _ HX2.out : (w2.setRow w.heap.size (planArr (cutPlan p) u)).heap[w.heap.size]? = _)
  have HO3 := Lib.hid (HO2.out.kept (grown_setRow w2 w.heap.size (planArr (cutPlan p) u)) (Off.block HX2.out (by decide)) (Off.block HX2.out (by decide)) (Off.block HX2.out (by decide)))
  have HB3 := Lib.hid (below_setRow HB2.out (Nat.le_refl _) (planArr (cutPlan p) u))
  clear HX2 HO2 HB2 HX1 HB1 HX0 HB0
  generalize w2.setRow w.heap.size (planArr (cutPlan p) u) = W3 at HX3 HO3 HB3 ⊢
  have HT := Lib.hid (cutPlan_twice p)
  go_upto_region 5 with (first | ((with_reducible show wpList _ _ _ (⟨some 19, Op.load 30 _, _, _, _, _⟩ :: _) _ _); go_must (refine wpList_load_row rfl 30 _ rfl w.heap.size rfl _ (planArr (cutPlan p) u) _ _ HX3.out Tryz.underlying30 rfl info_planP ?_)) | (go_at_call 7; go_must (refine (own_any (cutPlan p) u _ (own_in HO3.out (cut_hc HC.out))).mono ?_; rw [HT.out]; rintro e w4 ⟨x, rfl, ho, hb⟩; have HO4 := Lib.hid ho; have HBb := Lib.hid hb; clear ho hb)) | ((with_reducible show wpList _ _ _ (⟨_, Op.store 30 (.tmp 3) _, _, _, _, _⟩ :: _) _ _); go_must (refine wpList_store_row rfl 30 _ _ rfl w4.heap.size (planArr (cutPlan p) x) rfl rfl 30 zeroPlan (heap_alloc_new w4 _) info_planP rfl (plan_one HO4.out) ?_)))
  have HT5 := Lib.hid (two_start (z := zeroPlan) HX3.out HB3.out (own_at HO3.out HC.out) HBb.out (own_at HO4.out HC.out))
  clear HX3 HB3 HO3 HBb HO4 HT HP
  simp only [zeroPlan] at HT5
  generalize World.setRow _ _ _ = W5 at HT5 ⊢
  generalize w4.heap.size = Bi at HT5 ⊢
  rcases hg : mGood (cutPlan p) with _ | _
  · have HG := Lib.hid hg
    clear hg
    as_aux_lemma =>
      go_wp2_with (first | ((with_reducible show wpList _ _ _ (⟨some 22, Op.load 30 _, _, _, _, _⟩ :: _) _ _); go_must (refine wpList_load_row rfl 30 _ rfl (Bi) rfl _ (planArr (cutPlan p) x) _ _ HT5.out.bi Tryz.underlying30 rfl info_planP ?_)) | ((with_reducible show wpList _ _ _ (⟨some 26, Op.load 30 _, _, _, _, _⟩ :: _) _ _); go_must (refine wpList_load_row rfl 30 _ rfl (Bi) rfl _ (planArr (cutPlan p) x) _ _ HT6.out.bi Tryz.underlying30 rfl info_planP ?_)) | ((with_reducible show wpList _ _ _ (⟨some 27, Op.load 30 _, _, _, _, _⟩ :: _) _ _); go_must (refine wpList_load_row rfl 30 _ rfl (w.heap.size) rfl _ (planArr (cutPlan p) u) _ _ HT6.out.bp Tryz.underlying30 rfl info_planP ?_)) | (go_at_call 8; go_must (refine (encode_no (cutPlan p) x _ HT5.out.pvAt (HE.out.below HT5.out.below) HG.out).mono ?_; rintro e w6 ⟨er, rfl, ⟨l, hu⟩, hb⟩; obtain ⟨TT, xx, rfl⟩ := hu.form; have HT6 := Lib.hid (HT5.out.later hb); clear hb hu)) | (go_at_call 9; go_must (refine (refSame_yes (cutPlan p) x u _ HT6.out.pvAt HT6.out.puAt).mono ?_; unfold RetB; rintro e w7 ⟨rfl, hb⟩; have HT7 := Lib.hid (HT6.out.later hb); clear hb)))
      go_ret
      exact ⟨rfl, HT7.out.below⟩
  have HG := Lib.hid hg
  clear hg
  go_upto_region 10 with (first | ((with_reducible show wpList _ _ _ (⟨some 22, Op.load 30 _, _, _, _, _⟩ :: _) _ _); go_must (refine wpList_load_row rfl 30 _ rfl (Bi) rfl _ (planArr (cutPlan p) x) _ _ HT5.out.bi Tryz.underlying30 rfl info_planP ?_)) | ((with_reducible show wpList _ _ _ (⟨some 26, Op.load 30 _, _, _, _, _⟩ :: _) _ _); go_must (refine wpList_load_row rfl 30 _ rfl (Bi) rfl _ (planArr (cutPlan p) x) _ _ HT6.out.bi Tryz.underlying30 rfl info_planP ?_)) | ((with_reducible show wpList _ _ _ (⟨some 27, Op.load 30 _, _, _, _, _⟩ :: _) _ _); go_must (refine wpList_load_row rfl 30 _ rfl (w.heap.size) rfl _ (planArr (cutPlan p) u) _ _ HT6.out.bp Tryz.underlying30 rfl info_planP ?_)) | (go_at_call 8; go_must (refine (encode_yes (cutPlan p) x _ HT5.out.pvAt (HE.out.below HT5.out.below) HG.out).mono ?_; rintro e w6 ⟨bv, rfl, ho, hb⟩; obtain ⟨ba, bc, rfl, -⟩ := own_open ho; have HT6 := Lib.hid (HT5.out.later hb); have HO6 := Lib.hid ho; clear hb ho)) | (go_at_call 9; go_must (refine (refSame_yes (cutPlan p) x u _ HT6.out.pvAt HT6.out.puAt).mono ?_; unfold RetB; rintro e w7 ⟨rfl, hb⟩; have HT7 := Lib.hid (HT6.out.later hb); have HO7 := Lib.hid (Below.owns HO6.out hb); clear hb HT6 HO6)))
  clear HT5
  have HDC := Lib.hid (mDecode_planBytes (cutPlan p) HG.out (cut_hc HC.out))
  have hNb := planBytes_small p HG.out
  have HBY := Lib.hid (planBytes_bytes (cutPlan p))
  obtain ⟨bs, hbs⟩ : ∃ bs, planBytes (cutPlan p) = bs := ⟨_, rfl⟩
  rw [hbs] at HDC HBY HO7 hNb ⊢
  clear hbs
  obtain ⟨hN1, hN2⟩ := hNb
  have hz7 := HT7.out.below.size
  go_upto_region 11 with (first | (at_builtin; refine app_arr rfl _ _ 33 rfl 5 (.int .u8 0) 1 1 Tryz.underlying33 info_u8 rfl (by decide) 0 bs.length w7.heap.size w7.heap.size (.slice (some ⟨w7.heap.size, 0, none⟩) 0 0) (.slice ba bs.length bc) [] (bts bs) (World.ownsRow_made w7 #[] 0 (Nat.le_refl _) (by unfold maxLen; omega) rfl) ((show Arr w7.heap.size w7 1 (.slice ba bs.length bc) bs.length (bts bs) from Arr.of_owns HO7.out).later ((Below.refl _ _).alloc (Nat.le_refl _) _) (Nat.le_refl _)) rfl rfl (bts_one _) (by rw [World.size_alloc]; omega) (by omega) (by unfold maxLen; omega) ?_; intro v8 w8 ho hg _; rw [Nat.zero_add] at ho; obtain ⟨a8, c8, rfl, -⟩ := own_open ho; have HB8 := Lib.hid (((Below.refl w7.heap.size w7).alloc (Nat.le_refl _) (.cells #[] 5)).grown hg (by rw [World.size_alloc]; omega) (fun k hk => by obtain rfl := Option.some.inj hk; exact Nat.le_refl _)); have ho8 := ho; have hz8 := HB8.out.size; clear ho hg) | (at_builtin; refine app_k rfl _ _ 33 rfl 5 (.int .u8 0) 1 1 Tryz.underlying33 info_u8 rfl (by decide) #[.int .u8 7] _ _ _ _ ho8 rfl rfl rfl (by intro u hu; simp at hu; subst hu; rfl) hz8 (by omega) (by unfold maxLen; omega) ?_; intro v9 w9 ho hg _; obtain ⟨a9, c9, rfl, -, hg9⟩ := own_open ho; obtain ⟨g9, rfl, -, -, -⟩ := hg9 (by omega); have HB9 := Lib.hid (HB8.out.grown hg hz8 (fun k hk => (ho8.lt k hk).1)); have HO9 := Lib.hid ho; clear ho hg hg9 ho8))
  have HT9 := Lib.hid (HT7.out.later HB9.out)
  have HOb := Lib.hid (Below.owns HO7.out HB9.out)
  clear HT7 HO7 HB8 HB9 hz7 hz8
  have HA9 := Lib.hid (show Arr w9.heap.size w9 1 (.slice (some ⟨g9, 0, none⟩) bs.length c9) bs.length (bts bs) by
    have := Arr.take (Arr.of_owns HO9.out) bs.length (by omega)
    rw [Nat.mul_one, List.nil_append, List.take_append_of_le_length (by rw [bts_length]; omega), List.take_of_length_le (by rw [bts_length]; omega)] at this
    exact this)
  have hc9 : bs.length + 1 ≤ c9 := by
    obtain ⟨_, _, h1, h2, _⟩ := (Arr.of_owns HO9.out).open
    cases h1; exact h2
  go_upto_region 12 with (first | (go_at_call 10; go_must (refine (decode_any bs _ _ HA9.out hN2 HBY.out (HE.out.below HT9.out.below)).mono ?_; unfold DecPost; rw [HDC.out]; rintro e w10 ⟨vq, rfl, ho, hb⟩; have HQ10 := Lib.hid ho; have HB10 := Lib.hid hb; clear ho hb)) | ((with_reducible show wpList _ _ _ (⟨_, Op.store 30 (.tmp 7) _, _, _, _, _⟩ :: _) _ _); go_must (refine wpList_store_row rfl 30 _ _ rfl w10.heap.size (planArr (cutPlan p) vq) rfl rfl 30 zeroPlan (heap_alloc_new w10 _) info_planP rfl (plan_one HQ10.out) ?_)))
  have HM := Lib.hid (mid_st (z := zeroPlan) HT9.out HQ10.out HB10.out)
  have HAb := Lib.hid (HA9.out.later ((Below.refl w9.heap.size w9).trans (HB10.out.trans (below_new (z := zeroPlan) w10 (planArr (cutPlan p) vq) |>.mono HB10.out.size))) (Nat.le_refl _))
  have HOr := Lib.hid (Below.owns HO9.out (HB10.out.trans (below_new (z := zeroPlan) w10 (planArr (cutPlan p) vq) |>.mono HB10.out.size)))
  have HOc := Lib.hid (Below.owns HOb.out (HB10.out.trans (below_new (z := zeroPlan) w10 (planArr (cutPlan p) vq) |>.mono HB10.out.size)))
  clear HQ10 HA9 HO9 HOb
  simp only [zeroPlan] at HM HAb HOr HOc
  have hz10 := HB10.out.size
  have hz9 := HT9.out.below.size
  generalize World.setRow _ _ _ = W11 at HM HAb HOr HOc ⊢
  go_upto_region 13 with (first | (go_at_call 10; go_must (refine (decode_any bs _ _ (HAb.out.later (Below.refl _ _) HM.out.le9) hN2 HBY.out (HE.out.below HM.out.below)).mono ?_; unfold DecPost; rw [HDC.out]; rintro e w12 ⟨vr, rfl, ho, hb⟩; have HR12 := Lib.hid ho; have HB12 := Lib.hid hb; clear ho hb)) | ((with_reducible show wpList _ _ _ (⟨_, Op.store 30 (.tmp 9) _, _, _, _, _⟩ :: _) _ _); go_must (refine wpList_store_row rfl 30 _ _ rfl w12.heap.size (planArr (cutPlan p) vr) rfl rfl 30 zeroPlan (heap_alloc_new w12 _) info_planP rfl (plan_one HR12.out) ?_)))
  obtain ⟨vs, hl⟩ := last_st (z := zeroPlan) HM.out HR12.out HB12.out
  have HL := Lib.hid hl
  clear hl
  have hb13 := HB12.out.trans (below_new (z := zeroPlan) w12 (planArr (cutPlan p) vr) |>.mono HB12.out.size)
  have HAc := Lib.hid (HAb.out.later (hb13.mono HM.out.le9) (Nat.le_refl _))
  have HOd := Lib.hid (Below.owns HOr.out hb13)
  have HOe := Lib.hid (Below.owns HOc.out hb13)
  clear hb13 HAb HOr HOc HM HR12
  simp only [zeroPlan] at HL HAc HOd HOe
  generalize World.setRow _ _ _ = W13 at HL HAc HOd HOe ⊢
  obtain ⟨_, _, hbe, -, hgb⟩ := own_open HOe.out
  obtain ⟨gb, hba, -, -, -⟩ := hgb (by omega)
  cases hbe
  subst hba
  have hcN : W13.cell? ⟨g9, bs.length, none⟩ = some (.int .u8 7) := by
    have := HOd.out.cellAt bs.length (by omega)
    simpa [bts] using this
  have hv1 : ∀ n, (convert 33 9 (.slice (some ⟨g9, 0, none⟩) bs.length c9)).run Tryz.prog (W13.drewN n) = .ok (.string (strB bs)) (W13.drewN n) := fun n => conv_arr (show Arr w9.heap.size (W13.drewN n) 1 _ _ _ from HAc.out) rfl
  have hv2 : ∀ n, (convert 33 9 (.slice (some ⟨gb, 0, none⟩) bs.length bc)).run Tryz.prog (W13.drewN n) = .ok (.string (strB bs)) (W13.drewN n) := fun n => conv_arr (show Arr W13.heap.size (W13.drewN n) 1 (.slice (some ⟨gb, 0, none⟩) bs.length bc) bs.length (bts bs) from Arr.of_owns HOe.out) rfl
  clear HAc HOd HOe hgb
  have i0 : (0 : Int) ≤ (bs.length : Int) := by omega
  have i1 : (bs.length : Int) < (bs.length : Int) + 1 := by omega
  have i2 : (bs.length : Int) ≤ (c9 : Int) := by omega
  go_quiet (fail)
  rename Nat => nq
  have HL2 := Lib.hid (HL.out.drew nq)
  clear hv1 hv2 hcN i0 i1 i2 HL hc9
  generalize W13.drewN nq = W14 at HL2 ⊢
  generalize w10.heap.size = Bq at HL2 ⊢
  generalize w12.heap.size = Br at HL2 ⊢
  generalize w9.heap.size = Q0 at HL2
  obtain ⟨qo, qs, qsh, q0, q1⟩ := vq
  obtain ⟨oa, oc, ho1⟩ := HL2.out.q.ops.form
  obtain ⟨sa, sc, hs1⟩ := HL2.out.q.slots.form
  obtain ⟨ha, hc, hh1, -, -⟩ := own_open HL2.out.q.shapes
  simp only at ho1 hs1 hh1
  subst ho1 hs1 hh1
  obtain ⟨⟨c0, c1, c2, c3, c4⟩, ⟨c5, c6, c7, c8, c9, c10, c11, c12⟩, c13, c14, c15⟩ := plan_cells HL2.out.bq
  simp only at c0
  have hlo : (cutPlan p).ops.length ≤ 3000 := by simp [cutPlan]; omega
  have hls : (cutPlan p).slots.length ≤ 3000 := by simp [cutPlan]; omega
  clear c1 c2 c3 c4 c5 c6 c7 c8 c9 c10 c11 c12 c13 c14 c15
  go_wp2_with fail
  clear c0
  go_loopg [72] (cutPlan p).ops.length (fun g i wr => ∃ k : Nat, k ≤ (cutPlan p).ops.length ∧ g = (cutPlan p).ops.length - k ∧ i = .int .i64 k ∧ Hid (LSt w (cutPlan p) u ⟨.slice oa (cutPlan p).ops.length oc, .slice sa (cutPlan p).slots.length sc, .slice ha vs.length hc, q0, q1⟩ vr Q0 Bq Br vs wr))
  case atStart => exact ⟨0, Nat.zero_le _, rfl, rfl, HL2.out⟩
  case round =>
    obtain ⟨k, hk, hgk, rfl, HB⟩ := hrel
    clear HL2
    obtain ⟨⟨c0, c1, c2, c3, c4⟩, ⟨c5, c6, c7, c8, c9, c10, c11, c12⟩, c13, c14, c15⟩ := plan_cells HB.out.bq
    simp only at c0 c3 c13
    clear c1 c2 c4 c5 c6 c7 c8 c9 c10 c11 c12 c14 c15
    by_cases hkl : k < (cutPlan p).ops.length
    · obtain ⟨g, cap, hv, h1, h2, h3, h4, ⟨cur, hg⟩, hcell⟩ := HB.out.q.ops.cell (by omega)
      cases hv
      obtain ⟨⟨y, hy⟩, hf⟩ := hcell (k * 6 + 4) (by omega)
      have HG2 := Lib.hid hg
      unfold maxLen at h4
      clear hcell hg c3 c13
      go_wp2_with fail
      go_roundg ((cutPlan p).ops.length - (k + 1))
      case measure => omega
      case rel => exact ⟨k + 1, by omega, rfl, by go_num, HB.out.write h1 h2 HG2.out (by decide) _ _⟩
    · obtain rfl : k = (cutPlan p).ops.length := by omega
      clear c0 c13 hgk
      go_wp2_with fail
      clear c3
      go_loopg [84] (cutPlan p).slots.length (fun g i wr => ∃ k : Nat, k ≤ (cutPlan p).slots.length ∧ g = (cutPlan p).slots.length - k ∧ i = .int .i64 k ∧ Hid (LSt w (cutPlan p) u ⟨.slice oa (cutPlan p).ops.length oc, .slice sa (cutPlan p).slots.length sc, .slice ha vs.length hc, q0, q1⟩ vr Q0 Bq Br vs wr))
      case atStart => exact ⟨0, Nat.zero_le _, rfl, rfl, HB.out⟩
      case round =>
        obtain ⟨k, hk, hgk, rfl, HB2⟩ := hrel
        clear HB
        obtain ⟨⟨c0, c1, c2, c3, c4⟩, ⟨c5, c6, c7, c8, c9, c10, c11, c12⟩, c13, c14, c15⟩ := plan_cells HB2.out.bq
        simp only at c0 c3 c13
        clear c1 c2 c4 c5 c6 c7 c8 c9 c10 c11 c12 c14 c15 c0
        by_cases hkl2 : k < (cutPlan p).slots.length
        · obtain ⟨g, cap, hv, h1, h2, h3, h4, ⟨cur, hg⟩, hcell⟩ := HB2.out.q.slots.cell (by omega)
          cases hv
          obtain ⟨⟨y, hy⟩, hf⟩ := hcell k (by omega)
          have HG2 := Lib.hid hg
          unfold maxLen at h4
          clear hcell hg c13
          go_wp2_with fail
          go_roundg ((cutPlan p).slots.length - (k + 1))
          case measure => omega
          case rel => exact ⟨k + 1, by omega, rfl, by go_num, HB2.out.write h1 h2 HG2.out (by decide) _ _⟩
        · obtain rfl : k = (cutPlan p).slots.length := by omega
          have hvl : vs.length ≤ 100 := by rw [HB2.out.q.len]; exact cutSh_len p.shapes
          clear c3 hgk
          go_wp2_with fail
          clear c13
          go_loopg [95] vs.length (fun g i wr => ∃ k : Nat, k ≤ vs.length ∧ g = vs.length - k ∧ i = .int .i64 k ∧ Hid (LSt w (cutPlan p) u ⟨.slice oa (cutPlan p).ops.length oc, .slice sa (cutPlan p).slots.length sc, .slice ha vs.length hc, q0, q1⟩ vr Q0 Bq Br vs wr))
          case atStart => exact ⟨0, Nat.zero_le _, rfl, rfl, HB2.out⟩
          case round =>
            obtain ⟨k, hk, hgk, rfl, HB3⟩ := hrel
            clear HB2
            by_cases hkl3 : k < vs.length
            · obtain ⟨-, -, c13, -, -⟩ := plan_cells HB3.out.bq
              simp only at c13
              obtain ⟨_, _, hv, hcap, hx⟩ := own_open HB3.out.q.shapes
              cases hv
              obtain ⟨gs, rfl, -, -, hcl⟩ := hx (by omega)
              obtain ⟨n, hw⟩ := HB3.out.q.rows k hkl3
              obtain ⟨ia, ic, hvk⟩ := hw.form
              have hcx : wr.cell? ⟨gs, k, none⟩ = some (.slice ia n ic) := by rw [hcl k (by omega), List.getElem?_eq_getElem hkl3, hvk]
              have hn : n ≤ 9223372036854775807 := by
                rcases Nat.eq_zero_or_pos n with h0 | h0
                · omega
                · obtain ⟨_, _, _, _, _, h3, h4, _⟩ := hw.cell h0
                  unfold maxLen at h4; omega
              have HVK := Lib.hid hvk
              clear hx hcl hw hvk
              obtain ⟨wo, rfl⟩ : ∃ wo : World, wo = wr := ⟨_, rfl⟩
              go_wp2_with fail
              clear c13 hcx
              go_loopg [104] n (fun g i wr => ∃ j : Nat, j ≤ n ∧ g = n - j ∧ i = .int .i64 j ∧ Hid (LSt w (cutPlan p) u ⟨.slice oa (cutPlan p).ops.length oc, .slice sa (cutPlan p).slots.length sc, .slice (some ⟨gs, 0, none⟩) vs.length hc, q0, q1⟩ vr Q0 Bq Br vs wr))
              case atStart => exact ⟨0, Nat.zero_le _, rfl, rfl, HB3.out⟩
              case round =>
                obtain ⟨j, hj, hgj, rfl, HB4⟩ := hrel
                clear HB3
                by_cases hjl : j < n
                · obtain ⟨-, -, c13, -, -⟩ := plan_cells HB4.out.bq
                  simp only at c13
                  obtain ⟨_, _, hv, hcap2, hx⟩ := own_open HB4.out.q.shapes
                  cases hv
                  obtain ⟨gs2, hgs, -, -, hcl⟩ := hx (by omega)
                  cases hgs
                  obtain ⟨n2, hw⟩ := HB4.out.q.rows k hkl3
                  obtain ⟨ia2, ic2, hvk2⟩ := hw.form
                  rw [HVK.out] at hvk2 hw
                  cases hvk2
                  have hcx : wr.cell? ⟨gs, k, none⟩ = some (.slice ia n ic) := by rw [hcl k (by omega), List.getElem?_eq_getElem hkl3, HVK.out]
                  obtain ⟨gi, cap, hv, h1, h2, h3, h4, ⟨cur, hg⟩, hcell⟩ := hw.cell (by omega)
                  cases hv
                  obtain ⟨⟨y, hy⟩, hf⟩ := hcell j (by omega)
                  have HG2 := Lib.hid hg
                  clear hcell hg hx hcl hw
                  go_wp2_with fail
                  go_roundg (n - (j + 1))
                  case measure => omega
                  case rel => exact ⟨j + 1, by omega, rfl, by go_num, HB4.out.write h1 h2 HG2.out (by decide) _ _⟩
                · obtain rfl : j = n := by omega
                  go_wp2_with fail
                  go_roundg (vs.length - (k + 1))
                  case measure => omega
                  case rel => exact ⟨k + 1, by omega, rfl, by go_num, HB4.out⟩
            · obtain rfl : k = vs.length := by omega
              clear hgk
              go_wp2_with (first | ((with_reducible show wpList _ _ _ (⟨some 116, Op.load 30 _, _, _, _, _⟩ :: _) _ _); go_must (refine wpList_load_row rfl 30 _ rfl (Br) rfl _ (planArr (cutPlan p) vr) _ _ HB3.out.br Tryz.underlying30 rfl info_planP ?_)) | ((with_reducible show wpList _ _ _ (⟨some 117, Op.load 30 _, _, _, _, _⟩ :: _) _ _); go_must (refine wpList_load_row rfl 30 _ rfl (w.heap.size) rfl _ (planArr (cutPlan p) u) _ _ HB3.out.bp Tryz.underlying30 rfl info_planP ?_)) | (go_at_call 9; go_must (refine (refSame_yes (cutPlan p) vr u _ (own_at HB3.out.r HC.out) HB3.out.puAt).mono ?_; unfold RetB; rintro e w17 ⟨rfl, hb⟩; have HBE := Lib.hid (HB3.out.below.trans (hb.mono HB3.out.below.size)); clear hb)))
              go_ret
              exact ⟨rfl, HBE.out⟩
end Go.Proofs.YtjbhgimhcjcpmaaGreatDoor
