/-
  WORDS for plans in memory, and the contract of plan.Check, where it is one.
-/
import Derived.Test.YtjbhgimhcjcpmaaGreatDoorMMost
import Derived.Test.YtjbhgimhcjcpmaaGreatDoorMSlots
import Derived.Test.YtjbhgimhcjcpmaaGreatDoorMEqual
import Derived.Test.YtjbhgimhcjcpmaaGreatDoorMRounds
import Derived.Test.YtjbhgimhcjcpmaaGreatDoorMNeed
set_option linter.unusedSimpArgs false
set_option linter.unusedVariables false
namespace Go.Proofs.YtjbhgimhcjcpmaaGreatDoor
open Go.RowKit

/-- A plan, as data. -/
structure MPlan where
  ops : List MOp
  e0 : Int
  e1 : Int
  slots : List Int
  arena : Int
  need : MNeed
  shapes : List (List Int)
  in0 : List (List Int)
  in1 : List (List Int)
/-- Its lists in memory, as values. -/
structure PVals where
  ops : Value
  slots : Value
  shapes : Value
  in0 : Value
  in1 : Value
def planArr (p : MPlan) (v : PVals) : Array Value :=
  #[v.ops, .int .i64 p.e0, .int .i64 p.e1, v.slots, .int .i64 p.arena, .int .i64 p.need.tri, .int .i64 p.need.bits, .int .i64 p.need.ots, .int .i64 p.need.t0, .int .i64 p.need.t1, .int .i64 p.need.rounds, .int .i64 p.need.w0, .int .i64 p.need.w1, v.shapes, v.in0, v.in1]
/-- Shapes that can be read. -/
def ShAt (B : Nat) (w : World) (v : Value) (l : List (List Int)) : Prop := ∃ vs, vs.length = l.length ∧ Arr B w 1 v vs.length vs ∧ Nest B w vs (l.map ints)
theorem ShAt.later {B B' : Nat} {w w' : World} {v : Value} {l : List (List Int)} (h : ShAt B w v l) (hb : Below B w w') (hB : B ≤ B') : ShAt B' w' v l := by
  obtain ⟨vs, h0, h1, h2⟩ := h; exact ⟨vs, h0, h1.later hb hB, h2.later hb hB⟩
theorem ShAt.form {B : Nat} {w : World} {v : Value} {l : List (List Int)} (h : ShAt B w v l) : ∃ ao c, v = .slice ao l.length c := by
  obtain ⟨vs, h0, h1, _⟩ := h
  obtain ⟨ao, c, hv, _⟩ := h1.open
  exact ⟨ao, c, by rw [hv, h0]⟩
/-- A plan that can be read, not too long. -/
structure PlanAt (B : Nat) (w : World) (p : MPlan) (v : PVals) : Prop where
  ops : Arr B w 6 v.ops p.ops.length (ocells p.ops)
  slots : Arr B w 1 v.slots p.slots.length (ints p.slots)
  shapes : ShAt B w v.shapes p.shapes
  in0 : ShAt B w v.in0 p.in0
  in1 : ShAt B w v.in1 p.in1
  l1 : p.ops.length ≤ 1000000
  l3 : p.shapes.length ≤ 1000000000
  l4 : p.in0.length ≤ 1000000000
  l5 : p.in1.length ≤ 1000000000
  hc : ∀ o ∈ p.ops, o.c < 18446744073709551616
theorem PlanAt.later {B B' : Nat} {w w' : World} {p : MPlan} {v : PVals} (h : PlanAt B w p v) (hb : Below B w w') (hB : B ≤ B') : PlanAt B' w' p v :=
  ⟨h.ops.later hb hB, h.slots.later hb hB, h.shapes.later hb hB, h.in0.later hb hB, h.in1.later hb hB, h.l1, h.l3, h.l4, h.l5, h.hc⟩

theorem total_sh (v : Value) (l : List (List Int)) (w : World) (h : ShAt w.heap.size w v l) (hl : l.length ≤ 1000000000) (T : Int) (hT : mTotal l = T) :
    Calls Tryz.prog 51 #[v] w fun e w' => e = .returned (.int .i64 T) ∧ w' = w := by
  obtain ⟨vs, h0, h1, h2⟩ := h
  subst hT
  exact (total_any v vs l w h1 h2 (by omega)).mono fun e w' ⟨he, hw⟩ => ⟨he, hw.symm⟩

/-- The block of a plan that came in by value, behind whatever was called. -/
structure CSt (w : World) (p : MPlan) (v : PVals) (W : World) : Prop where
  box : W.heap[w.heap.size]? = some (.cells (planArr p v) 30 (0, 0))
  below : Below w.heap.size w W
theorem CSt.later {w : World} {p : MPlan} {v : PVals} {W W' : World} (h : CSt w p v W) (hb : Below W.heap.size W W') : CSt w p v W' := ⟨(hb.block _ (lt_of_block' h.box)).trans h.box, h.below.trans (hb.mono h.below.size)⟩
theorem CSt.drewN {w : World} {p : MPlan} {v : PVals} {W : World} (h : CSt w p v W) (n : Nat) : CSt w p v (W.drewN n) := ⟨h.box, ⟨h.below.os, h.below.tape, h.below.output, h.below.size, h.below.block⟩⟩
theorem CSt.drew {w : World} {p : MPlan} {v : PVals} {W : World} (h : CSt w p v W) : CSt w p v W.drew := ⟨h.box, h.below.drew⟩
theorem CSt.lt {w : World} {p : MPlan} {v : PVals} {W : World} (h : CSt w p v W) : w.heap.size < W.heap.size := lt_of_block' h.box
theorem CSt.cells {w : World} {p : MPlan} {v : PVals} {W : World} (h : CSt w p v W) :
    (W.cell? ⟨w.heap.size, 0, none⟩ = some v.ops ∧ W.cell? ⟨w.heap.size, 1, none⟩ = some (.int .i64 p.e0) ∧ W.cell? ⟨w.heap.size, 2, none⟩ = some (.int .i64 p.e1) ∧ W.cell? ⟨w.heap.size, 3, none⟩ = some v.slots ∧ W.cell? ⟨w.heap.size, 4, none⟩ = some (.int .i64 p.arena)) ∧
    (W.cell? ⟨w.heap.size, 5, none⟩ = some (.int .i64 p.need.tri) ∧ W.cell? ⟨w.heap.size, 6, none⟩ = some (.int .i64 p.need.bits) ∧ W.cell? ⟨w.heap.size, 7, none⟩ = some (.int .i64 p.need.ots) ∧ W.cell? ⟨w.heap.size, 8, none⟩ = some (.int .i64 p.need.t0) ∧
    W.cell? ⟨w.heap.size, 9, none⟩ = some (.int .i64 p.need.t1) ∧ W.cell? ⟨w.heap.size, 10, none⟩ = some (.int .i64 p.need.rounds) ∧ W.cell? ⟨w.heap.size, 11, none⟩ = some (.int .i64 p.need.w0) ∧ W.cell? ⟨w.heap.size, 12, none⟩ = some (.int .i64 p.need.w1)) ∧
    (W.cell? ⟨w.heap.size, 13, none⟩ = some v.shapes ∧ W.cell? ⟨w.heap.size, 14, none⟩ = some v.in0 ∧ W.cell? ⟨w.heap.size, 15, none⟩ = some v.in1) := by
  have := h.box
  refine ⟨⟨?_, ?_, ?_, ?_, ?_⟩, ⟨?_, ?_, ?_, ?_, ?_, ?_, ?_, ?_⟩, ?_, ?_, ?_⟩ <;> simp [World.cell?, this, planArr]

/-- Is it a plan? -/
def mGood (p : MPlan) : Bool :=
  decide (p.in0.length + p.in1.length ≤ 8) && (mTotal p.in0 == p.e0) && (mTotal p.in1 == p.e1) && mCheck p.ops p.e0 p.e1 && mSorted (mRounds p.ops) && decide (mMost p.ops ≤ 65536) &&
  decide ((mSlots p.ops).1 = p.slots) && ((mSlots p.ops).2 == p.arena) && needEq (mNeed p.ops) p.need && (mTotal p.shapes == (mOuts p.ops : Int))

set_option maxHeartbeats 1000000 in
set_option maxRecDepth 100000 in
theorem bad_any (name : ByteArray) (w : World) (hE : ErrT w) :
    Calls Tryz.prog 50 #[.string name] w fun e w' => ∃ v, e = .returned v ∧ (∃ l, IsErr w'.heap.size w' l 180 v) ∧ Below w.heap.size w w' := by
  have HE := Lib.hid hE
  clear hE
  go_enter Tryz.func50, Tryz.ntmps50
  go_wp2_with (go_at_call 27; go_must (refine (wrap_errno _ _ _ _ HE.out).mono ?_; rintro e w1 ⟨v, rfl, hv, hb⟩; have HV := Lib.hid hv; have HB := Lib.hid hb; clear hv hb))
  go_ret
  exact ⟨_, rfl, ⟨_, HV.out⟩, HB.out⟩

set_option maxHeartbeats 4000000 in
set_option maxRecDepth 100000 in
theorem planCheck_yes (p : MPlan) (v : PVals) (w : World) (h : PlanAt w.heap.size w p v) (hE : ErrT w) (hg : mGood p = true) :
    Calls Tryz.prog 19 #[.agg (planArr p v)] w (RetB .nilIface w) := by
  simp only [mGood, Bool.and_eq_true, decide_eq_true_eq, beq_iff_eq] at hg
  obtain ⟨⟨⟨⟨⟨⟨⟨⟨⟨g0, g1⟩, g2⟩, g3⟩, g4⟩, g5⟩, g6⟩, g7⟩, g8⟩, g9⟩ := hg
  obtain ⟨vo, vsl, vsh, v0, v1⟩ := v
  obtain ⟨ao, cc, hvo, hcc, hm, hx, hy⟩ := h.ops.open
  obtain ⟨i0o, i0c, hi0⟩ := h.in0.form
  obtain ⟨i1o, i1c, hi1⟩ := h.in1.form
  simp only at hi0 hi1 hvo
  subst hi0 hi1 hvo
  have HY := Lib.hid hy
  clear hy hx hm hcc
  have HP := Lib.hid h
  have HE := Lib.hid hE
  have hS := (show CSt w p ⟨.slice ao p.ops.length cc, vsl, vsh, .slice i0o p.in0.length i0c, .slice i1o p.in1.length i1c⟩ (w.alloc (.cells (planArr p ⟨.slice ao p.ops.length cc, vsl, vsh, .slice i0o p.in0.length i0c, .slice i1o p.in1.length i1c⟩) 30)) from ⟨heap_alloc_new _ _, (Below.refl _ _).alloc (Nat.le_refl _) _⟩)
  simp only [planArr] at hS ⊢
  have HS := Lib.hid hS
  have ga := mCheck_all _ _ _ g3
  have hl2 : p.ops.length ≤ 16384 := by
    simp only [mCheck, Bool.and_eq_true, decide_eq_true_eq] at ga
    exact ga.1.2
  have GA := Lib.hid ga
  have HL2 := Lib.hid hl2
  have HL1 := Lib.hid h.l1
  clear ga hl2
  have G1 := Lib.hid g1
  have G2 := Lib.hid g2
  have G3 := Lib.hid g3
  have G4 := Lib.hid g4
  have G5 := Lib.hid g5
  have G6 := Lib.hid g6
  have G7 := Lib.hid g7
  have G8 := Lib.hid g8
  have G9 := Lib.hid g9
  clear h hE g1 g2 g3 g4 g5 g6 g7 g8 g9 hS
  go_enter Tryz.func19, Tryz.ntmps19
  go_wp2_with fail
  generalize w.alloc _ = W at HS ⊢
  obtain ⟨⟨c0, c1, c2, c3, c4⟩, ⟨c5, c6, c7, c8, c9, c10, c11, c12⟩, c13, c14, c15⟩ := HS.out.cells
  simp only at c0 c3 c13 c14 c15
  refine wp_loop_rounds 3 ?_
  rw [rounds_succ]
  go_wp2_with fail
  go_quiet ((go_at_call 51; exact Calls.quiet_of_same (total_sh _ p.in0 _ (HP.out.in0.later (HS.out.drewN _).below (HS.out.drewN _).below.size) HP.out.l4 p.e0 G1.out)))
  rename Nat => nq
  have HS1 := Lib.hid (HS.out.drewN nq)
  generalize W.drewN nq = W1 at HS1 ⊢
  clear c0 c1 c2 c3 c4 c5 c6 c7 c8 c9 c10 c11 c12 c13 c14 c15
  obtain ⟨⟨c0, c1, c2, c3, c4⟩, ⟨c5, c6, c7, c8, c9, c10, c11, c12⟩, c13, c14, c15⟩ := HS1.out.cells
  simp only at c0 c3 c13 c14 c15
  go_wp2_with fail
  rw [rounds_succ]
  go_wp2_with fail
  go_quiet ((go_at_call 51; exact Calls.quiet_of_same (total_sh _ p.in1 _ (HP.out.in1.later (HS1.out.drewN _).below (HS1.out.drewN _).below.size) HP.out.l5 p.e1 G2.out)))
  rename Nat => nq2
  have HS2 := Lib.hid (HS1.out.drewN nq2)
  generalize W1.drewN nq2 = W2 at HS2 ⊢
  clear c0 c1 c2 c3 c4 c5 c6 c7 c8 c9 c10 c11 c12 c13 c14 c15
  obtain ⟨⟨c0, c1, c2, c3, c4⟩, ⟨c5, c6, c7, c8, c9, c10, c11, c12⟩, c13, c14, c15⟩ := HS2.out.cells
  simp only at c0 c3 c13 c14 c15
  go_wp2_with fail
  rw [rounds_succ]
  have HM5 := G5.out
  go_upto_region 13 with (first | (go_at_call 52; go_must (refine (check_yes _ p.ops p.e0 p.e1 _ G3.out (HP.out.ops.later HS2.out.below HS2.out.below.size) HP.out.hc (HE.out.below HS2.out.below)).mono ?_; rintro e w3 ⟨rfl, hb3⟩; have hs3 := HS2.out.later hb3; clear hb3 c0 c1 c2 c3 c4 c5 c6 c7 c8 c9 c10 c11 c12 c13 c14 c15; obtain ⟨⟨c0, c1, c2, c3, c4⟩, ⟨c5, c6, c7, c8, c9, c10, c11, c12⟩, c13, c14, c15⟩ := hs3.cells; simp only at c0 c3 c13 c14 c15; have HS3 := Lib.hid hs3; clear hs3)) | (go_at_call 54; go_must (refine (rounds_any _ p.ops _ (HP.out.ops.later HS3.out.below HS3.out.below.size) HL1.out HP.out.hc (HE.out.below HS3.out.below)).mono ?_; rintro e w4 ⟨u, rfl, hown, hb4⟩; have hs4 := HS3.out.later hb4; clear hb4 c0 c1 c2 c3 c4 c5 c6 c7 c8 c9 c10 c11 c12 c13 c14 c15; obtain ⟨⟨c0, c1, c2, c3, c4⟩, ⟨c5, c6, c7, c8, c9, c10, c11, c12⟩, c13, c14, c15⟩ := hs4.cells; simp only at c0 c3 c13 c14 c15; have HO4 := Lib.hid hown; have HS4 := Lib.hid hs4; clear hs4 hown)) | (go_at_call 53; go_must (refine (isSorted_any _ (mRounds p.ops) _ (Arr.of_owns HO4.out)).mono ?_; rw [G4.out]; rintro e w5 ⟨rfl, n5, rfl⟩; have hs5 := HS4.out.drewN n5; clear c0 c1 c2 c3 c4 c5 c6 c7 c8 c9 c10 c11 c12 c13 c14 c15; obtain ⟨⟨c0, c1, c2, c3, c4⟩, ⟨c5, c6, c7, c8, c9, c10, c11, c12⟩, c13, c14, c15⟩ := hs5.cells; simp only at c0 c3 c13 c14 c15; have HS5 := Lib.hid hs5; clear hs5)) | (go_at_call 55; go_must (refine (most_any _ p.ops _ GA.out (HP.out.ops.later HS5.out.below HS5.out.below.size) HL2.out HP.out.hc (HE.out.below HS5.out.below)).mono ?_; unfold RetB; rintro e w6 ⟨rfl, hb6⟩; have hs6 := HS5.out.later hb6; clear hb6 c0 c1 c2 c3 c4 c5 c6 c7 c8 c9 c10 c11 c12 c13 c14 c15; obtain ⟨⟨c0, c1, c2, c3, c4⟩, ⟨c5, c6, c7, c8, c9, c10, c11, c12⟩, c13, c14, c15⟩ := hs6.cells; simp only at c0 c3 c13 c14 c15; have HS6 := Lib.hid hs6; clear hs6)) | (go_at_call 33; go_must (refine (slots_any _ p.ops _ (HP.out.ops.later HS6.out.below HS6.out.below.size) HL1.out HP.out.hc (HE.out.below HS6.out.below)).mono ?_; rw [G6.out, G7.out]; rintro e w7 ⟨us, rfl, hown, hb7⟩; have hs7 := HS6.out.later hb7; clear hb7 c0 c1 c2 c3 c4 c5 c6 c7 c8 c9 c10 c11 c12 c13 c14 c15; obtain ⟨⟨c0, c1, c2, c3, c4⟩, ⟨c5, c6, c7, c8, c9, c10, c11, c12⟩, c13, c14, c15⟩ := hs7.cells; simp only at c0 c3 c13 c14 c15; have HO7 := Lib.hid hown; have HS7 := Lib.hid hs7; clear hs7 hown)))
  have HT := Lib.hid (show decide (p.slots = p.slots) = true by simp)
  obtain ⟨aos, cs, hus, hcs, hcells7⟩ := own_open HO7.out
  subst hus
  have HA1 := Lib.hid (Arr.of_owns HO7.out)
  have HA2 := Lib.hid (HP.out.slots.later HS7.out.below HS7.out.below.size)
  obtain ⟨X, hX⟩ : ∃ X, mNeed p.ops = X := ⟨_, rfl⟩
  have HX := Lib.hid hX
  have hnq := run_neq_need X p.need
  rw [← hX, G8.out, hX] at hnq
  clear hcells7 HM5 hX
  go_cut [83] from 65 (fun s83 wx => s83 = .bool false ∧ Hid (CSt w p ⟨.slice ao p.ops.length cc, vsl, vsh, .slice i0o p.in0.length i0c, .slice i1o p.in1.length i1c⟩ wx))
  case first =>
    go_region_with (first | (go_at_call 56; go_must (refine (equalI_any _ _ p.slots p.slots _ (by first | exact HA1.out | exact Arr.drew HA1.out) (by first | exact HA2.out | exact Arr.drew HA2.out)).mono ?_; rw [HT.out]; rintro e w8 ⟨rfl, n8, hw8⟩; have hs8 := HS7.out.drew.drewN n8; rw [← hw8] at hs8; clear hw8 c0 c1 c2 c3 c4 c5 c6 c7 c8 c9 c10 c11 c12 c13 c14 c15; obtain ⟨⟨c0, c1, c2, c3, c4⟩, ⟨c5, c6, c7, c8, c9, c10, c11, c12⟩, c13, c14, c15⟩ := hs8.cells; simp only at c0 c3 c13 c14 c15; have HS8 := Lib.hid hs8; clear hs8)) | (go_at_call 34; go_must (refine (need_any _ p.ops _ (HP.out.ops.later HS8.out.below HS8.out.below.size) HL1.out HP.out.hc (HE.out.below HS8.out.below)).mono ?_; unfold RetB; rw [HX.out]; unfold MNeed.arr; rintro e w9 ⟨rfl, hb9⟩; have hs9 := HS8.out.later hb9; clear hb9 c0 c1 c2 c3 c4 c5 c6 c7 c8 c9 c10 c11 c12 c13 c14 c15; obtain ⟨⟨c0, c1, c2, c3, c4⟩, ⟨c5, c6, c7, c8, c9, c10, c11, c12⟩, c13, c14, c15⟩ := hs9.cells; simp only at c0 c3 c13 c14 c15; have HS9 := Lib.hid hs9; clear hs9)))
    all_goals (go_wp2_with fail; go_meet; exact ⟨rfl, HS9⟩)
  case rest =>
    obtain ⟨rfl, HC0⟩ := hcut
    clear c0 c1 c2 c3 c4 c5 c6 c7 c8 c9 c10 c11 c12 c13 c14 c15
    obtain ⟨⟨c0, c1, c2, c3, c4⟩, ⟨c5, c6, c7, c8, c9, c10, c11, c12⟩, c13, c14, c15⟩ := HC0.out.cells
    simp only at c0 c3 c13 c14 c15
    go_wp2_with fail
    clear c0 c1 c2 c3 c4 c5 c6 c7 c8 c9 c10 c11 c12 c13 c14 c15
    go_loopg [7, 89] p.ops.length (fun g x i wr => ∃ k : Nat, k ≤ p.ops.length ∧ g = p.ops.length - k ∧ i = .int .i64 k ∧ x = .int .i64 (mOuts (p.ops.take k) : Nat) ∧ Hid (CSt w p ⟨.slice ao p.ops.length cc, vsl, vsh, .slice i0o p.in0.length i0c, .slice i1o p.in1.length i1c⟩ wr))
    case atStart => exact ⟨0, Nat.zero_le _, rfl, rfl, rfl, HC0⟩
    case round =>
      obtain ⟨k, hk, hg, rfl, rfl, HB⟩ := hrel
      have hle := mOuts_le (p.ops.take k)
      rw [List.length_take] at hle
      have hl1 := HL1.out
      by_cases hkl : k < p.ops.length
      · obtain ⟨b, off, rfl, hbl, hcells⟩ := HY.out (by omega)
        obtain ⟨c0, c1, c2, c3, c4, c5⟩ := op_cells hcells HB.out.below hbl rfl k hkl
        have HT := Lib.hid (mOuts_take p.ops k hkl)
        generalize p.ops[k] = o at c0 c1 c2 c3 c4 c5 HT
        clear hcells
        by_cases h18 : o.kind = 18
        · have HT2 := Lib.hid (show mTold o = true by simp [mTold, h18])
          go_wp2_with fail
          go_roundg (p.ops.length - (k + 1))
          case measure => omega
          case rel => exact ⟨k + 1, by omega, rfl, by go_num, by rw [HT.out, HT2.out]; go_num, Lib.hid (HB.out.later ((Below.refl _ _).alloc (Nat.le_refl _) _))⟩
        · by_cases h19 : o.kind = 19
          · have HT2 := Lib.hid (show mTold o = true by simp [mTold, h19])
            go_wp2_with fail
            go_roundg (p.ops.length - (k + 1))
            case measure => omega
            case rel => exact ⟨k + 1, by omega, rfl, by go_num, by rw [HT.out, HT2.out]; go_num, Lib.hid (HB.out.later ((Below.refl _ _).alloc (Nat.le_refl _) _))⟩
          · have HT2 := Lib.hid (show ¬ mTold o = true by simp [mTold, h18, h19])
            have b18 : (o.kind == 18) = false := by simp [h18]
            have b19 : (o.kind == 19) = false := by simp [h19]
            go_wp2_with fail
            go_roundg (p.ops.length - (k + 1))
            case measure => omega
            case rel => exact ⟨k + 1, by omega, rfl, by go_num, by rw [HT.out, if_neg HT2.out]; rfl, Lib.hid (HB.out.later ((Below.refl _ _).alloc (Nat.le_refl _) _))⟩
      · obtain rfl : k = p.ops.length := by omega
        rw [List.take_length] at hle ⊢
        obtain ⟨⟨c0, c1, c2, c3, c4⟩, ⟨c5, c6, c7, c8, c9, c10, c11, c12⟩, c13, c14, c15⟩ := HB.out.cells
        simp only at c0 c3 c13 c14 c15
        go_wp2_with (go_at_call 51; go_must (refine (total_sh _ p.shapes _ (HP.out.shapes.later HB.out.below HB.out.below.size) HP.out.l3 _ G9.out).mono ?_; rintro e w10 ⟨rfl, rfl⟩))
        go_ret
        exact ⟨rfl, HB.out.below⟩
end Go.Proofs.YtjbhgimhcjcpmaaGreatDoor

/-
  THE PLAIN LAW of a plan's bytes: what they are, that its numbers are small, that they are not too many.
-/
namespace Go.Proofs.YtjbhgimhcjcpmaaGreatDoor

def le8 (c : Nat) : List Nat := (List.range 8).map fun j => c / 2 ^ (8 * j) % 256
def opNums (o : MOp) : List Nat := num7 o.kind.toNat ++ (num7 o.a.toNat ++ (num7 o.b.toNat ++ (num7 o.k.toNat ++ num7 o.party.toNat)))
def opBytes (o : MOp) : List Nat := opNums o ++ le8 o.c
def headBytes (p : MPlan) : List Nat := flat [[84, 87, 78, 1], num7 p.e0.toNat, num7 p.e1.toNat, shBytes p.in0, shBytes p.in1, shBytes p.shapes, num7 p.ops.length]
def planBytes (p : MPlan) : List Nat := headBytes p ++ p.ops.flatMap opBytes

/-- An operation whose numbers are small. -/
structure OpSmall (o : MOp) : Prop where
  kind : 0 ≤ o.kind ∧ o.kind ≤ 65536
  a : 0 ≤ o.a ∧ o.a ≤ 65536
  b : 0 ≤ o.b ∧ o.b ≤ 65536
  k : 0 ≤ o.k ∧ o.k ≤ 65536
  party : 0 ≤ o.party ∧ o.party ≤ 65536

theorem formsGo_ok {e0 e1 : Int} {outs : Nat} : ∀ {l : List MOp} {seen made x : List Int}, formsGo e0 e1 outs l seen made = some x → ∀ j (hj : j < l.length), ∃ seen' made', made'.length = made.length + j ∧ opOk outs seen' made' l[j] (mRule l[j] e0 e1) = true
  | [], _, _, _, _, j, hj => absurd hj (by simp)
  | o :: l, seen, made, x, h, j, hj => by
    rw [formsGo] at h
    by_cases ho : opOk outs seen made o (mRule o e0 e1) = true
    · rw [if_pos ho] at h
      cases j with
      | zero => exact ⟨seen, made, rfl, ho⟩
      | succ j =>
        obtain ⟨s, m, h1, h2⟩ := formsGo_ok h j (by simpa using hj)
        exact ⟨s, m, by rw [h1]; simp; omega, h2⟩
    · rw [if_neg ho] at h; cases h

theorem mWants_small {made : List Int} {a w : Int} (h : mWants made a w = true) (hm : made.length ≤ 65536) : 0 ≤ a ∧ a ≤ 65536 := by
  unfold mWants at h
  split at h
  · simp only [beq_iff_eq] at h; omega
  · simp only [Bool.and_eq_true, decide_eq_true_eq] at h; omega
theorem tabRule_k (kind : Int) : (tabRule kind).1.k ≤ 65536 := by
  by_cases h : (tabRule kind).2 = true
  · rcases tabRule_known kind h with (rfl | rfl | rfl | rfl | rfl | rfl | rfl | rfl | rfl | rfl | rfl | rfl | rfl | rfl | rfl | rfl | rfl) <;> decide
  · rw [tabRule_none kind (by simpa using h)]; decide
theorem mRule_k (o : MOp) (e0 e1 : Int) (h0 : e0 ≤ 65536) (h1 : e1 ≤ 65536) : (mRule o e0 e1).1.k ≤ 65536 := by
  unfold mRule
  split
  · unfold mInRule; repeat' split
    all_goals simp [rule0] <;> omega
  · split
    · unfold mGarbRule; split <;> simp [rule0]
    · exact tabRule_k _
theorem mRule_kind (o : MOp) (e0 e1 : Int) (h : (mRule o e0 e1).2 = true) : 0 ≤ o.kind ∧ o.kind ≤ 65536 := by
  by_cases h1 : o.kind = 1
  · omega
  · by_cases h17 : o.kind = 17
    · omega
    · rw [mRule, if_neg h1, if_neg h17] at h
      have := tabRule_known _ h
      omega
theorem opOk_small {o : MOp} {e0 e1 : Int} {outs : Nat} {seen made : List Int} (h0 : e0 ≤ 65536) (h1 : e1 ≤ 65536) (ho : outs ≤ 65536) (hm : made.length ≤ 65536) (h : opOk outs seen made o (mRule o e0 e1) = true) : OpSmall o := by
  have hk := mRule_k o e0 e1 h0 h1
  have hkk := mRule_kind o e0 e1
  generalize mRule o e0 e1 = r at h hk hkk
  simp only [opOk, opOk1, opNum, Bool.and_eq_true, Bool.or_eq_true, decide_eq_true_eq, beq_iff_eq] at h
  obtain ⟨⟨⟨hr, _⟩, hwa, hwb⟩, ⟨hkn, _⟩, hp⟩ := h
  have hK : opK outs o r ≤ 65536 := by unfold opK; split <;> omega
  exact ⟨hkk hr, mWants_small hwa hm, mWants_small hwb hm, by omega, by omega⟩
theorem check_small {ops : List MOp} {e0 e1 : Int} (h : mCheck ops e0 e1 = true) : ∀ o ∈ ops, OpSmall o := by
  intro o ho
  obtain ⟨j, hj, rfl⟩ := List.getElem_of_mem ho
  simp only [mCheck, mForms, Bool.and_eq_true, decide_eq_true_eq] at h
  obtain ⟨⟨⟨⟨⟨a, b⟩, c⟩, d⟩, e⟩, f⟩ := h
  obtain ⟨x, hx⟩ := Option.isSome_iff_exists.1 f
  obtain ⟨s, m, hm, hok⟩ := formsGo_ok hx j hj
  have := mOuts_le ops
  simp only [List.length_nil] at hm
  exact opOk_small b d (by omega) (by omega) hok

theorem elemsGo_dims : ∀ (s : List Int) (n : Int), elemsGo s n ≠ 0 → ∀ d ∈ s, 1 ≤ d ∧ d ≤ 16
  | [], _, _, d, hd => by cases hd
  | d :: l, n, h, d', hd => by
    rw [elemsGo] at h
    by_cases h1 : d < 1
    · rw [if_pos h1] at h; exact absurd rfl h
    · by_cases h2 : 16 < d
      · rw [if_neg h1, if_pos h2] at h; exact absurd rfl h
      · rw [if_neg h1, if_neg h2] at h
        by_cases h3 : 32 < n * d
        · rw [if_pos h3] at h; exact absurd rfl h
        · rw [if_neg h3] at h
          rcases List.mem_cons.1 hd with rfl | hd
          · omega
          · exact elemsGo_dims l _ h d' hd
theorem mElems_dims (s : List Int) (h : mElems s ≠ 0) : s.length ≤ 2 ∧ ∀ d ∈ s, 1 ≤ d ∧ d ≤ 16 := by
  unfold mElems at h
  by_cases h1 : elemsGo s 1 = 0
  · rw [if_pos h1] at h; exact absurd rfl h
  · by_cases h2 : 2 < s.length
    · rw [if_neg h1, if_pos h2] at h; exact absurd rfl h
    · exact ⟨by omega, elemsGo_dims s 1 h1⟩
/-- Shapes with a total: few, short and small. -/
theorem mTotal_shapes (l : List (List Int)) (n : Int) (h : mTotal l = n) (h0 : 0 ≤ n) : (l.length : Int) ≤ n ∧ ∀ s ∈ l, s.length ≤ 2 ∧ ∀ d ∈ s, 1 ≤ d ∧ d ≤ 16 := by
  rcases totalGo_bd l 0 (by omega) with h1 | ⟨h1, h2, h3, h4⟩
  · rw [mTotal] at h; omega
  · rw [mTotal] at h
    exact ⟨by omega, fun s hs => mElems_dims s (h4 s hs)⟩
theorem oneShape_len (s : List Int) (h : s.length ≤ 2 ∧ ∀ d ∈ s, 1 ≤ d ∧ d ≤ 16) : (oneShape s).length ≤ 40 := by
  obtain ⟨h1, h2⟩ := h
  have h3 := (num7_len s.length).2
  match s, h1, h2 with
  | [], _, _ => simp [oneShape, dimBytes, num7_small]
  | [d], _, h2 =>
    have := h2 d (by simp)
    have := (num7_len d.toNat).2
    simp [oneShape, dimBytes, num7_small]; omega
  | [d, e], _, h2 =>
    have := h2 d (by simp)
    have := h2 e (by simp)
    have := (num7_len d.toNat).2
    have := (num7_len e.toNat).2
    simp [oneShape, dimBytes, num7_small]; omega
  | _ :: _ :: _ :: _, h1, _ => simp at h1
theorem flatMap_len_le {α : Type} (f : α → List Nat) (m : Nat) : ∀ (l : List α), (∀ x ∈ l, (f x).length ≤ m) → (l.flatMap f).length ≤ l.length * m
  | [], _ => by simp
  | x :: l, h => by
    have h1 := h x (by simp)
    have h2 := flatMap_len_le f m l fun y hy => h y (by simp [hy])
    simp only [List.flatMap_cons, List.length_append, List.length_cons, Nat.add_mul]; omega
theorem shBytes_len (l : List (List Int)) (n : Int) (h : mTotal l = n) (h0 : 0 ≤ n) (h1 : n ≤ 65536) : (shBytes l).length ≤ 3000000 := by
  obtain ⟨h2, h3⟩ := mTotal_shapes l n h h0
  have h4 := flatMap_len_le oneShape 40 l fun s hs => oneShape_len s (h3 s hs)
  have h5 := (num7_len l.length).2
  unfold shBytes
  rw [List.length_append]
  omega
theorem opBytes_len (o : MOp) (h : OpSmall o) : (opBytes o).length ≤ 400000 := by
  obtain ⟨h1, h2, h3, h4, h5⟩ := h
  have a1 := (num7_len o.kind.toNat).2
  have a2 := (num7_len o.a.toNat).2
  have a3 := (num7_len o.b.toNat).2
  have a4 := (num7_len o.k.toNat).2
  have a5 := (num7_len o.party.toNat).2
  simp only [opBytes, opNums, le8, List.length_append, List.length_map, List.length_range]
  omega
end Go.Proofs.YtjbhgimhcjcpmaaGreatDoor
