/-
  THE CONTRACTS of the references' comparisons: twainref01.Ints, twainref14.Same.
-/
import Derived.Test.YtjbhgimhcjcpmaaGreatDoorMEqual
import Derived.Test.YtjbhgimhcjcpmaaGreatDoorMPlanCheck
set_option linter.unusedSimpArgs false
set_option linter.unusedVariables false
namespace Go.Proofs.YtjbhgimhcjcpmaaGreatDoor
open Go.RowKit

theorem Arr.same {B B' : Nat} {w w' : World} {k : Nat} {v : Value} {n : Nat} {xs : List Value} (h : Arr B w k v n xs) (hw : ∀ a, w'.cell? a = w.cell? a) (hB : B ≤ B') : Arr B' w' k v n xs := by
  obtain ⟨ao, c, hv, hc, hm, hn, hl, h⟩ := h
  refine ⟨ao, c, hv, hc, hm, hn, hl, ?_⟩
  rcases h with h | ⟨b, off, ha, hlt, hcell⟩
  · exact .inl h
  · exact .inr ⟨b, off, ha, by omega, fun i hi => (hw _).trans (hcell i hi)⟩

set_option maxHeartbeats 1000000 in
set_option maxRecDepth 100000 in
theorem refInts_any (v1 v2 : Value) (a b : List Int) (w : World) (h1 : Arr w.heap.size w 1 v1 a.length (ints a)) (h2 : Arr w.heap.size w 1 v2 b.length (ints b)) :
    Calls Tryz.prog 24 #[v1, v2] w fun e w' => e = .returned (.bool (decide (a = b))) ∧ ∃ n, w' = w.drewN n := by
  obtain ⟨ao, cc, rfl, hcc, hm, hx, hy⟩ := h1.open
  obtain ⟨ao2, cc2, rfl, hcc2, hm2, hx2, hy2⟩ := h2.open
  have HY := Lib.hid hy
  have HY2 := Lib.hid hy2
  unfold maxLen at hm hm2
  clear h1 h2 hx hx2 hy hy2
  by_cases hl : a.length = b.length
  · have hl' : ((a.length : Int) != (b.length : Int)) = false := by simp [hl]
    have HL := Lib.hid hl
    clear hl
    go_enter Tryz.func24, Tryz.ntmps24
    go_wp2_with fail
    go_loopg [13] a.length (fun g i wr => ∃ (k m : Nat), k ≤ a.length ∧ g = a.length - k ∧ i = .int .i64 k ∧ Hid (a.take k = b.take k) ∧ wr = w.drewN m)
    case atStart => exact ⟨0, 0, Nat.zero_le _, rfl, rfl, by simp [Hid], rfl⟩
    case round =>
      obtain ⟨k, m, hk, hg, rfl, HT, rfl⟩ := hrel
      by_cases hkl : k < a.length
      · have hkb : k < b.length := by have := HL.out; omega
        obtain ⟨p, off, rfl, hp, hc⟩ := HY.out (by omega)
        obtain ⟨p2, off2, rfl, hp2, hc2⟩ := HY2.out (by omega)
        have hcx : w.cell? ⟨p, off + k, none⟩ = some (.int .i64 a[k]) := by rw [hc k (by omega)]; simp [ints, hkl]
        have hcy : w.cell? ⟨p2, off2 + k, none⟩ = some (.int .i64 b[k]) := by rw [hc2 k (by omega)]; simp [ints, hkb]
        have h3 : (0 : Int) ≤ (k : Int) := by omega
        have h4 : (k : Int) < (a.length : Int) := by omega
        have h5 : (k : Int) < (b.length : Int) := by omega
        clear hc hc2
        by_cases hxy : a[k] = b[k]
        · have HT2 := Lib.hid (show a.take (k + 1) = b.take (k + 1) by rw [List.take_succ_eq_append_getElem hkl, List.take_succ_eq_append_getElem hkb, HT.out, hxy])
          rw [← hxy] at hcy
          generalize a[k] = x at hcx hcy
          clear hxy
          go_wp2_with fail
          go_quiet (fail)
          go_wp2_with fail
          go_roundg (a.length - (k + 1))
          case measure => omega
          case rel => exact ⟨k + 1, _, by omega, rfl, by go_num, HT2.out, rfl⟩
        · have HNE := Lib.hid (show decide (a = b) = false by
            simp only [decide_eq_false_iff_not]; rintro rfl; exact hxy rfl)
          generalize a[k] = x at hcx hxy
          generalize b[k] = y at hcy hxy
          have hxy' : ((x : Int) != (y : Int)) = true := by simp; omega
          clear hxy
          go_wp2_with fail
          go_quiet (fail)
          go_wp2_with fail
          go_ret
          exact ⟨by rw [HNE.out]; rfl, by first | exact ⟨_, rfl⟩ | exact ⟨_, World.drewN_drewN _ _ _⟩⟩
      · obtain rfl : k = a.length := by omega
        have HEQ := Lib.hid (show decide (a = b) = true by
          have h1 := HT.out
          rw [List.take_length, List.take_of_length_le (by have := HL.out; omega)] at h1
          simp [h1])
        go_wp2_with fail
        go_ret
        exact ⟨by rw [HEQ.out]; rfl, _, rfl⟩
  · have HNE := Lib.hid (show decide (a = b) = false by simp only [decide_eq_false_iff_not]; rintro rfl; exact hl rfl)
    have hl' : ((a.length : Int) != (b.length : Int)) = true := by simp; omega
    go_enter Tryz.func24, Tryz.ntmps24
    go_wp2_with fail
    go_ret
    exact ⟨by rw [HNE.out]; rfl, 0, rfl⟩


theorem Arr.drewS {w : World} {k : Nat} {v : Value} {n : Nat} {xs : List Value} (h : Arr w.heap.size w k v n xs) (m : Nat) : Arr (w.drewN m).heap.size (w.drewN m) k v n xs := h
theorem refInts_b (v1 v2 : Value) (a b : List Int) (w : World) (B : Bool) (hB : decide (a = b) = B) (h1 : Arr w.heap.size w 1 v1 a.length (ints a)) (h2 : Arr w.heap.size w 1 v2 b.length (ints b)) :
    Calls Tryz.prog 24 #[v1, v2] w fun e w' => e = .returned (.bool B) ∧ ∃ n, w' = w.drewN n := by
  subst hB; exact refInts_any v1 v2 a b w h1 h2

set_option maxHeartbeats 1000000 in
set_option maxRecDepth 100000 in
theorem refSh_any (v1 v2 : Value) (us vs : List Value) (a b : List (List Int)) (w : World) (h1 : Arr w.heap.size w 1 v1 us.length us) (h2 : Arr w.heap.size w 1 v2 vs.length vs) (n1 : Nest w.heap.size w us (a.map ints)) (n2 : Nest w.heap.size w vs (b.map ints)) :
    Calls Tryz.prog 25 #[v1, v2] w fun e w' => e = .returned (.bool (decide (a = b))) ∧ ∃ n, w' = w.drewN n := by
  have l1 := n1.length
  have l2 := n2.length
  simp only [List.length_map] at l1 l2
  obtain ⟨ao, cc, rfl, hcc, hm, hx, hy⟩ := h1.open
  obtain ⟨ao2, cc2, rfl, hcc2, hm2, hx2, hy2⟩ := h2.open
  have HY := Lib.hid hy
  have HY2 := Lib.hid hy2
  have HN1 := Lib.hid n1
  have HN2 := Lib.hid n2
  have HL1 := Lib.hid l1
  have HL2 := Lib.hid l2
  unfold maxLen at hm hm2
  clear h1 h2 hx hx2 hy hy2 n1 n2 l1 l2
  by_cases hl : us.length = vs.length
  · have hl' : ((us.length : Int) != (vs.length : Int)) = false := by simp [hl]
    have HL := Lib.hid hl
    clear hl
    go_enter Tryz.func25, Tryz.ntmps25
    go_wp2_with fail
    go_loopg [13] us.length (fun g i wr => ∃ (k : Nat), k ≤ us.length ∧ g = us.length - k ∧ i = .int .i64 k ∧ Hid (a.take k = b.take k) ∧ Hid (∃ m, wr = w.drewN m))
    case atStart => exact ⟨0, Nat.zero_le _, rfl, rfl, by simp [Hid], ⟨0, rfl⟩⟩
    case round =>
      obtain ⟨k, hk, hg, rfl, HT, HW⟩ := hrel
      by_cases hkl : k < us.length
      · have hkb : k < vs.length := by have := HL.out; omega
        have hka : k < a.length := by have := HL1.out; omega
        have hkc : k < b.length := by have := HL2.out; omega
        obtain ⟨p, off, rfl, hp, hc⟩ := HY.out (by omega)
        obtain ⟨p2, off2, rfl, hp2, hc2⟩ := HY2.out (by omega)
        have hw : ∀ a, wr.cell? a = w.cell? a := fun a => by obtain ⟨m, hm⟩ := HW.out; rw [hm]; rfl
        have hws : wr.heap.size = w.heap.size := by obtain ⟨m, hm⟩ := HW.out; rw [hm]; rfl
        have hA := HN1.out.get k hkl (by simpa using hka)
        have hB := HN2.out.get k hkb (by simpa using hkc)
        simp only [List.getElem_map, ints_length] at hA hB
        have hcx : wr.cell? ⟨p, off + k, none⟩ = some us[k] := by rw [hw, hc k (by omega)]; simp [hkl]
        have hcy : wr.cell? ⟨p2, off2 + k, none⟩ = some vs[k] := by rw [hw, hc2 k (by omega)]; simp [hkb]
        have HA := Lib.hid (hA.same (B' := wr.heap.size) hw (by omega))
        have HB := Lib.hid (hB.same (B' := wr.heap.size) hw (by omega))
        have h3 : (0 : Int) ≤ (k : Int) := by omega
        have h4 : (k : Int) < (us.length : Int) := by omega
        have h5 : (k : Int) < (vs.length : Int) := by omega
        by_cases hxy : a[k] = b[k]
        · have HT2 := Lib.hid (show a.take (k + 1) = b.take (k + 1) by rw [List.take_succ_eq_append_getElem hka, List.take_succ_eq_append_getElem hkc, HT.out, hxy])
          have HD := Lib.hid (show decide (a[k] = b[k]) = true by simpa using hxy)
          generalize us[k] = u at hcx HA
          generalize vs[k] = v at hcy HB
          clear hc hc2 hw hws hA hB hxy
          go_wp2_with fail
          go_quiet ((go_at_call 24; exact Calls.quiet_of (refInts_b _ _ _ _ _ _ HD.out (HA.out.drewS _) (HB.out.drewS _))))
          go_wp2_with fail
          go_roundg (us.length - (k + 1))
          case measure => omega
          case rel =>
            obtain ⟨m, hm⟩ := HW.out
            subst hm
            exact ⟨k + 1, by omega, rfl, by go_num, HT2.out, by first | exact ⟨_, World.drewN_drewN _ _ _⟩ | exact ⟨_, rfl⟩⟩
        · have HNE := Lib.hid (show decide (a = b) = false by
            simp only [decide_eq_false_iff_not]; rintro rfl; exact hxy rfl)
          have HD := Lib.hid (show decide (a[k] = b[k]) = false by simpa using hxy)
          generalize us[k] = u at hcx HA
          generalize vs[k] = v at hcy HB
          clear hc hc2 hw hws hA hB hxy
          go_wp2_with fail
          go_quiet ((go_at_call 24; exact Calls.quiet_of (refInts_b _ _ _ _ _ _ HD.out (HA.out.drewS _) (HB.out.drewS _))))
          go_wp2_with fail
          go_ret
          obtain ⟨m, hm⟩ := HW.out
          subst hm
          exact ⟨by rw [HNE.out]; rfl, by first | exact ⟨_, World.drewN_drewN _ _ _⟩ | exact ⟨_, rfl⟩⟩
      · obtain rfl : k = us.length := by omega
        have HEQ := Lib.hid (show decide (a = b) = true by
          have h1 := HT.out
          rw [List.take_of_length_le (by have := HL1.out; omega), List.take_of_length_le (by have := HL2.out; have := HL.out; omega)] at h1
          simp [h1])
        go_wp2_with fail
        go_ret
        exact ⟨by rw [HEQ.out]; rfl, HW.out⟩
  · have HNE := Lib.hid (show decide (a = b) = false by simp only [decide_eq_false_iff_not]; rintro rfl; exact hl (by rw [HL1.out, HL2.out]))
    have hl' : ((us.length : Int) != (vs.length : Int)) = true := by simp; omega
    go_enter Tryz.func25, Tryz.ntmps25
    go_wp2_with fail
    go_ret
    exact ⟨by rw [HNE.out]; rfl, 0, rfl⟩
end Go.Proofs.YtjbhgimhcjcpmaaGreatDoor

/-
  THE CONTRACT of twainref18.Same, at two plans that read alike.
-/
namespace Go.Proofs.YtjbhgimhcjcpmaaGreatDoor
open Go.RowKit

theorem refSh_b (v1 v2 : Value) (a : List (List Int)) (w : World) (h1 : ShAt w.heap.size w v1 a) (h2 : ShAt w.heap.size w v2 a) :
    Calls Tryz.prog 25 #[v1, v2] w fun e w' => e = .returned (.bool true) ∧ ∃ n, w' = w.drewN n := by
  obtain ⟨us, l1, a1, n1⟩ := h1
  obtain ⟨vs, l2, a2, n2⟩ := h2
  have := refSh_any v1 v2 us vs a a w a1 a2 n1 n2
  simpa using this
theorem run_neq_two (a b : Int) (w : World) : (binOp .neq 23 (.agg #[.int .i64 a, .int .i64 b]) (.agg #[.int .i64 a, .int .i64 b])).run Tryz.prog w = .ok (.bool false) w := by
  rw [run_neq_struct]
  rw [eq_two 9998 a b a b w]
  simp
theorem run_neq_op (a : MOp) (w : World) : (binOp .neq 44 (.agg #[.int .i64 a.kind, .int .i64 a.a, .int .i64 a.b, .int .i64 a.k, .int .u64 a.c, .int .i64 a.party]) (.agg #[.int .i64 a.kind, .int .i64 a.a, .int .i64 a.b, .int .i64 a.k, .int .u64 a.c, .int .i64 a.party])).run Tryz.prog w = .ok (.bool false) w := by
  rw [run_neq_struct, eq_op]
  simp
theorem needEq_self (a : MNeed) : needEq a a = true := by simp [needEq]

/-- The blocks of two plans that came in by value. -/
structure S2 (w : World) (p : MPlan) (v1 v2 : PVals) (W : World) : Prop where
  a : W.heap[w.heap.size]? = some (.cells (planArr p v1) 30 (0, 0))
  b : W.heap[w.heap.size + 1]? = some (.cells (planArr p v2) 30 (0, 0))
  below : Below w.heap.size w W
theorem S2.drewN {w : World} {p : MPlan} {v1 v2 : PVals} {W : World} (h : S2 w p v1 v2 W) (n : Nat) : S2 w p v1 v2 (W.drewN n) := ⟨h.a, h.b, ⟨h.below.os, h.below.tape, h.below.output, h.below.size, h.below.block⟩⟩
theorem plan_cells {W : World} {B : Nat} {p : MPlan} {v : PVals} {t : TypeId} {fr : Nat × Nat} (h : W.heap[B]? = some (.cells (planArr p v) t fr)) :
    (W.cell? ⟨B, 0, none⟩ = some v.ops ∧ W.cell? ⟨B, 1, none⟩ = some (.int .i64 p.e0) ∧ W.cell? ⟨B, 2, none⟩ = some (.int .i64 p.e1) ∧ W.cell? ⟨B, 3, none⟩ = some v.slots ∧ W.cell? ⟨B, 4, none⟩ = some (.int .i64 p.arena)) ∧
    (W.cell? ⟨B, 5, none⟩ = some (.int .i64 p.need.tri) ∧ W.cell? ⟨B, 6, none⟩ = some (.int .i64 p.need.bits) ∧ W.cell? ⟨B, 7, none⟩ = some (.int .i64 p.need.ots) ∧ W.cell? ⟨B, 8, none⟩ = some (.int .i64 p.need.t0) ∧
    W.cell? ⟨B, 9, none⟩ = some (.int .i64 p.need.t1) ∧ W.cell? ⟨B, 10, none⟩ = some (.int .i64 p.need.rounds) ∧ W.cell? ⟨B, 11, none⟩ = some (.int .i64 p.need.w0) ∧ W.cell? ⟨B, 12, none⟩ = some (.int .i64 p.need.w1)) ∧
    (W.cell? ⟨B, 13, none⟩ = some v.shapes ∧ W.cell? ⟨B, 14, none⟩ = some v.in0 ∧ W.cell? ⟨B, 15, none⟩ = some v.in1) := by
  refine ⟨⟨?_, ?_, ?_, ?_, ?_⟩, ⟨?_, ?_, ?_, ?_, ?_, ?_, ?_, ?_⟩, ?_, ?_, ?_⟩ <;> simp [World.cell?, h, planArr]

set_option maxHeartbeats 4000000 in
set_option maxRecDepth 100000 in
theorem refSame_yes (p : MPlan) (v1 v2 : PVals) (w : World) (h1 : PlanAt w.heap.size w p v1) (h2 : PlanAt w.heap.size w p v2) :
    Calls Tryz.prog 9 #[.agg (planArr p v1), .agg (planArr p v2)] w (RetB (.bool true) w) := by
  obtain ⟨vo, vsl, vsh, v0, v1⟩ := v1
  obtain ⟨uo, usl, ush, u0, u1⟩ := v2
  obtain ⟨ao, cc, hvo, hcc, hm, hx, hy⟩ := h1.ops.open
  obtain ⟨ao2, cc2, hvo2, hcc2, hm2, hx2, hy2⟩ := h2.ops.open
  simp only at hvo hvo2
  subst hvo hvo2
  have HY := Lib.hid hy
  have HY2 := Lib.hid hy2
  have HP := Lib.hid h1
  have HQ := Lib.hid h2
  have hS := (show S2 w p ⟨.slice ao p.ops.length cc, vsl, vsh, v0, v1⟩ ⟨.slice ao2 p.ops.length cc2, usl, ush, u0, u1⟩ ((w.alloc (.cells (planArr p ⟨.slice ao p.ops.length cc, vsl, vsh, v0, v1⟩) 30)).alloc (.cells (planArr p ⟨.slice ao2 p.ops.length cc2, usl, ush, u0, u1⟩) 30)) from ⟨heap_alloc2_old _ _ _, heap_alloc2_new _ _ _, below_alloc2 _ _ _⟩)
  simp only [planArr] at hS ⊢
  have HS := Lib.hid hS
  have hl1 := h1.l1
  have ht2 := run_neq_two p.e0 p.e1
  have htn := run_neq_need p.need p.need
  rw [needEq_self] at htn
  simp only [Bool.not_true] at htn
  clear h1 h2 hx hy hx2 hy2 hS hm hm2
  go_enter Tryz.func9, Tryz.ntmps9
  have HS0 := HS
  clear HS
  go_wp2_with (go_at_call 24; go_must (refine (refInts_b _ _ p.slots p.slots _ true (by simp) (HP.out.slots.later HS0.out.below HS0.out.below.size) (HQ.out.slots.later HS0.out.below HS0.out.below.size)).mono ?_; rintro e W1 ⟨rfl, n1, hw1⟩; have hs1 := HS0.out.drewN n1; rw [← hw1] at hs1; clear hw1; obtain ⟨⟨c0, c1, c2, c3, c4⟩, ⟨c5, c6, c7, c8, c9, c10, c11, c12⟩, c13, c14, c15⟩ := plan_cells hs1.a; obtain ⟨⟨d0, d1, d2, d3, d4⟩, ⟨d5, d6, d7, d8, d9, d10, d11, d12⟩, d13, d14, d15⟩ := plan_cells hs1.b; simp only at c0 c3 c13 c14 c15 d0 d3 d13 d14 d15; have HS1 := Lib.hid hs1; clear hs1))
  clear c0 c1 c2 c3 c4 c5 c6 c7 c8 c9 c10 c11 c12 c13 c14 c15 d0 d1 d2 d3 d4 d5 d6 d7 d8 d9 d10 d11 d12 d13 d14 d15
  go_loopg [45] p.ops.length (fun g i wr => ∃ (k : Nat), k ≤ p.ops.length ∧ g = p.ops.length - k ∧ i = .int .i64 k ∧ Hid (S2 w p ⟨.slice ao p.ops.length cc, vsl, vsh, v0, v1⟩ ⟨.slice ao2 p.ops.length cc2, usl, ush, u0, u1⟩ wr))
  case atStart => exact ⟨0, Nat.zero_le _, rfl, rfl, HS1.out⟩
  case round =>
    obtain ⟨k, hk, hg, rfl, HB⟩ := hrel
    clear HS1 HS0
    have hb := HB.out
    obtain ⟨⟨c0, c1, c2, c3, c4⟩, ⟨c5, c6, c7, c8, c9, c10, c11, c12⟩, c13, c14, c15⟩ := plan_cells hb.a
    obtain ⟨⟨d0, d1, d2, d3, d4⟩, ⟨d5, d6, d7, d8, d9, d10, d11, d12⟩, d13, d14, d15⟩ := plan_cells hb.b
    simp only at c0 c3 c13 c14 c15 d0 d3 d13 d14 d15
    clear hb
    by_cases hkl : k < p.ops.length
    · obtain ⟨b, off, rfl, hbl, hcells⟩ := HY.out (by omega)
      obtain ⟨b2, off2, rfl, hbl2, hcells2⟩ := HY2.out (by omega)
      obtain ⟨e0, e1, e2, e3, e4, e5⟩ := op_cells hcells HB.out.below hbl rfl k hkl
      obtain ⟨f0, f1, f2, f3, f4, f5⟩ := op_cells hcells2 HB.out.below hbl2 rfl k hkl
      have hno := run_neq_op p.ops[k]
      generalize p.ops[k] = o at e0 e1 e2 e3 e4 e5 f0 f1 f2 f3 f4 f5 hno
      have h3 : (0 : Int) ≤ (k : Int) := by omega
      have h4 : (k : Int) < (p.ops.length : Int) := by omega
      clear hcells hcells2
      go_wp2_with fail
      go_quiet (fail)
      go_wp2_with fail
      rename Nat => nq
      go_roundg (p.ops.length - (k + 1))
      case measure => omega
      case rel => exact ⟨k + 1, by omega, rfl, by go_num, HB.out.drewN nq⟩
    · obtain rfl : k = p.ops.length := by omega
      have HS0 := HB
      go_wp2_with (first | ((with_reducible refine (refSh_b _ _ p.shapes _ (HP.out.shapes.later HS0.out.below HS0.out.below.size) (HQ.out.shapes.later HS0.out.below HS0.out.below.size)).mono ?_); rintro e W1 ⟨rfl, n1, hw1⟩; have hs1 := HS0.out.drewN n1; rw [← hw1] at hs1; clear hw1; clear c0 c1 c2 c3 c4 c5 c6 c7 c8 c9 c10 c11 c12 c13 c14 c15 d0 d1 d2 d3 d4 d5 d6 d7 d8 d9 d10 d11 d12 d13 d14 d15; obtain ⟨⟨c0, c1, c2, c3, c4⟩, ⟨c5, c6, c7, c8, c9, c10, c11, c12⟩, c13, c14, c15⟩ := plan_cells hs1.a; obtain ⟨⟨d0, d1, d2, d3, d4⟩, ⟨d5, d6, d7, d8, d9, d10, d11, d12⟩, d13, d14, d15⟩ := plan_cells hs1.b; simp only at c0 c3 c13 c14 c15 d0 d3 d13 d14 d15; have HS1 := Lib.hid hs1; clear hs1) | ((with_reducible refine (refSh_b _ _ p.in0 _ (HP.out.in0.later HS1.out.below HS1.out.below.size) (HQ.out.in0.later HS1.out.below HS1.out.below.size)).mono ?_); rintro e W2 ⟨rfl, n2, hw2⟩; have hs2 := HS1.out.drewN n2; rw [← hw2] at hs2; clear hw2; clear c0 c1 c2 c3 c4 c5 c6 c7 c8 c9 c10 c11 c12 c13 c14 c15 d0 d1 d2 d3 d4 d5 d6 d7 d8 d9 d10 d11 d12 d13 d14 d15; obtain ⟨⟨c0, c1, c2, c3, c4⟩, ⟨c5, c6, c7, c8, c9, c10, c11, c12⟩, c13, c14, c15⟩ := plan_cells hs2.a; obtain ⟨⟨d0, d1, d2, d3, d4⟩, ⟨d5, d6, d7, d8, d9, d10, d11, d12⟩, d13, d14, d15⟩ := plan_cells hs2.b; simp only at c0 c3 c13 c14 c15 d0 d3 d13 d14 d15; have HS2 := Lib.hid hs2; clear hs2) | ((with_reducible refine (refSh_b _ _ p.in1 _ (HP.out.in1.later HS2.out.below HS2.out.below.size) (HQ.out.in1.later HS2.out.below HS2.out.below.size)).mono ?_); rintro e W3 ⟨rfl, n3, hw3⟩; have hs3 := HS2.out.drewN n3; rw [← hw3] at hs3; clear hw3; clear c0 c1 c2 c3 c4 c5 c6 c7 c8 c9 c10 c11 c12 c13 c14 c15 d0 d1 d2 d3 d4 d5 d6 d7 d8 d9 d10 d11 d12 d13 d14 d15; obtain ⟨⟨c0, c1, c2, c3, c4⟩, ⟨c5, c6, c7, c8, c9, c10, c11, c12⟩, c13, c14, c15⟩ := plan_cells hs3.a; obtain ⟨⟨d0, d1, d2, d3, d4⟩, ⟨d5, d6, d7, d8, d9, d10, d11, d12⟩, d13, d14, d15⟩ := plan_cells hs3.b; simp only at c0 c3 c13 c14 c15 d0 d3 d13 d14 d15; have HS3 := Lib.hid hs3; clear hs3))
      go_ret
      exact ⟨rfl, HS3.out.below⟩
end Go.Proofs.YtjbhgimhcjcpmaaGreatDoor
