/-
  THE CONTRACT of twainref18.Good.
-/
import Derived.Test.YtjbhgimhcjcpmaaGreatDoorMRefWanted2
import Derived.Test.YtjbhgimhcjcpmaaGreatDoorMRefTotal
import Derived.Test.YtjbhgimhcjcpmaaGreatDoorMRefLast
import Derived.Test.YtjbhgimhcjcpmaaGreatDoorMRefSame1
set_option linter.unusedSimpArgs false
set_option linter.unusedVariables false
namespace Go.Proofs.YtjbhgimhcjcpmaaGreatDoor
open Go.RowKit

theorem refTotal_sh (v : Value) (l : List (List Int)) (w : World) (h : ShAt w.heap.size w v l) (hl : l.length ≤ 1000000000) (T : Int) (hT : mTotal l = T) :
    Calls Tryz.prog 46 #[v] w fun e w' => e = .returned (.int .i64 T) ∧ w' = w := by
  subst hT
  exact refTotal_any v l w h hl

set_option maxHeartbeats 4000000 in
theorem run_eql_need (a b : MNeed) (w : World) : (binOp .eql 26 (.agg #[.int .i64 a.tri, .int .i64 a.bits, .int .i64 a.ots, .int .i64 a.t0, .int .i64 a.t1, .int .i64 a.rounds, .int .i64 a.w0, .int .i64 a.w1])
    (.agg #[.int .i64 b.tri, .int .i64 b.bits, .int .i64 b.ots, .int .i64 b.t0, .int .i64 b.t1, .int .i64 b.rounds, .int .i64 b.w0, .int .i64 b.w1])).run Tryz.prog w = .ok (.bool (needEq a b)) w := by
  have u1 := Tryz.underlying3
  have a1 := isAgg_int
  have a2 := isAgg_two
  have z1 := sizeOf_int
  have z2 := sizeOf_two
  have e2 := fun a b c d w => eq_two 9997 a b c d w
  simp only [show (9997 + 2 : Nat) = 9999 from rfl] at e2
  have hS : Tryz.prog.underlying 26 = some (.struct (Tryz.prog.fieldsOf 26)) := by kernel_rfl
  rw [run_eql_struct, show (10000 : Nat) = 9999 + 1 from rfl, run_equalIn_agg w 9999 26 _ _ hS (by kernel_rfl)]
  simp only [Program.fieldsOf, Tryz.underlying26]
  go_simp
  simp only [needEq]
  by_cases h1 : a.tri = b.tri <;> (first | (simp [h1]; done) | skip)
  by_cases h2 : a.bits = b.bits <;> (first | (simp [h2]; done) | skip)
  by_cases h3 : a.ots = b.ots <;> (first | (simp [h3]; done) | skip)
  by_cases h4 : a.rounds = b.rounds <;> (first | (simp [h4]; done) | skip)
  all_goals by_cases h5 : a.t0 = b.t0 <;> by_cases h6 : a.t1 = b.t1 <;> by_cases h7 : a.w0 = b.w0 <;> by_cases h8 : a.w1 = b.w1 <;> simp [h1, h2, h3, h4, h5, h6, h7, h8]
theorem CSt.twelve {w : World} {p : MPlan} {v : PVals} {W : World} (h : CSt w p v W) : W.cell? ⟨w.heap.size, 0, none⟩ = some v.ops ∧ W.cell? ⟨w.heap.size, 3, none⟩ = some v.slots ∧ W.cell? ⟨w.heap.size, 4, none⟩ = some (.int .i64 p.arena) ∧ W.cell? ⟨w.heap.size, 5, none⟩ = some (.int .i64 p.need.tri) ∧ W.cell? ⟨w.heap.size, 6, none⟩ = some (.int .i64 p.need.bits) ∧ W.cell? ⟨w.heap.size, 7, none⟩ = some (.int .i64 p.need.ots) ∧ W.cell? ⟨w.heap.size, 8, none⟩ = some (.int .i64 p.need.t0) ∧ W.cell? ⟨w.heap.size, 9, none⟩ = some (.int .i64 p.need.t1) ∧ W.cell? ⟨w.heap.size, 10, none⟩ = some (.int .i64 p.need.rounds) ∧ W.cell? ⟨w.heap.size, 11, none⟩ = some (.int .i64 p.need.w0) ∧ W.cell? ⟨w.heap.size, 12, none⟩ = some (.int .i64 p.need.w1) ∧ W.cell? ⟨w.heap.size, 13, none⟩ = some v.shapes := by
  obtain ⟨⟨c0, c1, c2, c3, c4⟩, ⟨c5, c6, c7, c8, c9, c10, c11, c12⟩, c13, c14, c15⟩ := h.cells
  exact ⟨c0, c3, c4, c5, c6, c7, c8, c9, c10, c11, c12, c13⟩
theorem kind_le {o : MOp} {e0 e1 : Int} (h : (mRule o e0 e1).2 = true) : o.kind ≤ 19 := by
  by_cases h1 : o.kind = 1
  · omega
  by_cases h17 : o.kind = 17
  · omega
  have hr : mRule o e0 e1 = tabRule o.kind := by unfold mRule; rw [if_neg h1, if_neg h17]
  rw [hr] at h
  rcases tabRule_known _ h with h | h | h | h | h | h | h | h | h | h | h | h | h | h | h | h | h <;> omega

set_option maxHeartbeats 8000000 in
set_option maxRecDepth 100000 in
theorem refGood_any (p : MPlan) (v : PVals) (w : World) (h : PlanAt w.heap.size w p v) :
    Calls Tryz.prog 15 #[.agg (planArr p v)] w (RetB (.bool (mGood p)) w) := by
  obtain ⟨vo, vsl, vsh, v0, v1⟩ := v
  obtain ⟨ao, cc, hvo, hcc, hm, hx, hy⟩ := h.ops.open
  obtain ⟨i0o, i0c, hi0⟩ := h.in0.form
  obtain ⟨i1o, i1c, hi1⟩ := h.in1.form
  simp only at hi0 hi1 hvo
  subst hi0 hi1 hvo
  have HY := Lib.hid hy
  have HP := Lib.hid h
  have hS := (show CSt w p ⟨.slice ao p.ops.length cc, vsl, vsh, .slice i0o p.in0.length i0c, .slice i1o p.in1.length i1c⟩ (w.alloc (.cells (planArr p ⟨.slice ao p.ops.length cc, vsl, vsh, .slice i0o p.in0.length i0c, .slice i1o p.in1.length i1c⟩) 30)) from ⟨heap_alloc_new _ _, (Below.refl _ _).alloc (Nat.le_refl _) _⟩)
  simp only [planArr] at hS ⊢
  have HS := Lib.hid hS
  have HL1 := Lib.hid h.l1
  have hl4 := h.l4
  have hl5 := h.l5
  obtain ⟨T0, hT0⟩ : ∃ T, mTotal p.in0 = T := ⟨_, rfl⟩
  obtain ⟨T1, hT1⟩ : ∃ T, mTotal p.in1 = T := ⟨_, rfl⟩
  obtain ⟨T2, hT2⟩ : ∃ T, mTotal p.shapes = T := ⟨_, rfl⟩
  have HT0 := Lib.hid hT0
  have HT1 := Lib.hid hT1
  have HT2 := Lib.hid hT2
  obtain ⟨G, hG⟩ : ∃ G, mGood p = G := ⟨_, rfl⟩
  rw [hG]
  have HG := Lib.hid hG
  clear h hS hy hx hm hcc hT0 hT1 hT2 hG
  go_enter Tryz.func15, Tryz.ntmps15
  go_upto_region 1 with fail
  generalize w.alloc _ = W at HS ⊢
  obtain ⟨⟨c0, c1, c2, c3, c4⟩, ⟨c5, c6, c7, c8, c9, c10, c11, c12⟩, c13, c14, c15⟩ := HS.out.cells
  simp only at c0 c3 c13 c14 c15
  by_cases g0 : 8 < p.in0.length + p.in1.length
  · have d0 : decide ((8 : Int) < (p.in0.length : Int) + (p.in1.length : Int)) = true := decide_eq_true (by omega)
    have HF := Lib.hid (show G = false by rw [← HG.out]; unfold mGood; rw [decide_eq_false (show ¬ (p.in0.length + p.in1.length ≤ 8) by omega)]; simp)
    go_quiet (fail)
    go_wp2_with fail
    go_ret
    exact ⟨by rw [HF.out]; rfl, by first | exact below_drewN HS.out.below _ | exact HS.out.below⟩
  have d0 : decide ((8 : Int) < (p.in0.length : Int) + (p.in1.length : Int)) = false := decide_eq_false (by omega)
  by_cases t0 : T0 = p.e0
  rotate_left
  · have b0 : (T0 != p.e0) = true := by simpa using t0
    have HF := Lib.hid (show G = false by rw [← HG.out]; unfold mGood; rw [HT0.out, show (T0 == p.e0) = false by simpa using t0]; simp)
    go_quiet ((first | ((with_reducible show Calls _ _ #[.slice i0o p.in0.length i0c] _ _); exact Calls.quiet_of_same (refTotal_sh _ p.in0 _ (HP.out.in0.later (HS.out.drewN _).below (HS.out.drewN _).below.size) HP.out.l4 T0 HT0.out)) | ((with_reducible show Calls _ _ #[.slice i1o p.in1.length i1c] _ _); exact Calls.quiet_of_same (refTotal_sh _ p.in1 _ (HP.out.in1.later (HS.out.drewN _).below (HS.out.drewN _).below.size) HP.out.l5 T1 HT1.out))))
    go_wp2_with fail
    go_ret
    exact ⟨by rw [HF.out]; rfl, by first | exact below_drewN HS.out.below _ | exact HS.out.below⟩
  have b0 : (T0 != p.e0) = false := by simp [t0]
  by_cases t1 : T1 = p.e1
  rotate_left
  · have b1 : (T1 != p.e1) = true := by simpa using t1
    have HF := Lib.hid (show G = false by rw [← HG.out]; unfold mGood; rw [HT1.out, show (T1 == p.e1) = false by simpa using t1]; simp)
    go_quiet ((first | ((with_reducible show Calls _ _ #[.slice i0o p.in0.length i0c] _ _); exact Calls.quiet_of_same (refTotal_sh _ p.in0 _ (HP.out.in0.later (HS.out.drewN _).below (HS.out.drewN _).below.size) HP.out.l4 T0 HT0.out)) | ((with_reducible show Calls _ _ #[.slice i1o p.in1.length i1c] _ _); exact Calls.quiet_of_same (refTotal_sh _ p.in1 _ (HP.out.in1.later (HS.out.drewN _).below (HS.out.drewN _).below.size) HP.out.l5 T1 HT1.out))))
    go_wp2_with fail
    go_ret
    exact ⟨by rw [HF.out]; rfl, by first | exact below_drewN HS.out.below _ | exact HS.out.below⟩
  have b1 : (T1 != p.e1) = false := by simp [t1]
  go_quiet ((first | ((with_reducible show Calls _ _ #[.slice i0o p.in0.length i0c] _ _); exact Calls.quiet_of_same (refTotal_sh _ p.in0 _ (HP.out.in0.later (HS.out.drewN _).below (HS.out.drewN _).below.size) HP.out.l4 T0 HT0.out)) | ((with_reducible show Calls _ _ #[.slice i1o p.in1.length i1c] _ _); exact Calls.quiet_of_same (refTotal_sh _ p.in1 _ (HP.out.in1.later (HS.out.drewN _).below (HS.out.drewN _).below.size) HP.out.l5 T1 HT1.out))))
  rename Nat => nq
  have HS1 := Lib.hid (HS.out.drewN nq)
  clear c0 c1 c2 c3 c4 c5 c6 c7 c8 c9 c10 c11 c12 c13 c14 c15 HS
  generalize W.drewN nq = W1 at HS1 ⊢
  obtain ⟨⟨c0, c1, c2, c3, c4⟩, ⟨c5, c6, c7, c8, c9, c10, c11, c12⟩, c13, c14, c15⟩ := HS1.out.cells; simp only at c0 c3 c13 c14 c15
  obtain ⟨MC, hMC⟩ : ∃ MC, mCheck p.ops p.e0 p.e1 = MC := ⟨_, rfl⟩
  have HMC := Lib.hid hMC
  have HMD := Lib.hid (show rMade p.ops p.e0 p.e1 = MC by rw [rMade_eq, hMC])
  cases MC with
  | false =>
    have HF := Lib.hid (show G = false by rw [← HG.out]; unfold mGood; rw [hMC]; simp)
    clear hMC
    go_wp2_with (go_at_call 38; go_must (refine (refMade_any _ p.ops _ _ _ (HP.out.ops.later HS1.out.below HS1.out.below.size) HL1.out).mono ?_; unfold MadePost; rw [HMD.out]; rintro e w2 ⟨u2, rfl, hb2⟩; have HS2 := Lib.hid (HS1.out.later hb2); clear hb2))
    go_ret
    exact ⟨by rw [HF.out]; rfl, HS2.out.below⟩
  | true =>
    have hca := mCheck_all _ _ _ hMC
    have HCA := Lib.hid hca
    have hl2 : p.ops.length ≤ 16384 := by simp only [mCheck, Bool.and_eq_true, decide_eq_true_eq] at hca; exact hca.1.2
    obtain ⟨rl, hrl⟩ : ∃ rl, mRounds p.ops = rl := ⟨_, rfl⟩
    have HRL := Lib.hid hrl
    have hlen : rl.length = p.ops.length := by rw [← hrl, mRounds_len, if_pos hca]
    have HLEN := Lib.hid hlen
    clear hMC hca hrl hlen
    go_upto_region 8 with (first | (go_at_call 38; go_must (refine (refMade_any _ p.ops _ _ _ (HP.out.ops.later HS1.out.below HS1.out.below.size) HL1.out).mono ?_; unfold MadePost; rw [HMD.out]; rintro e w2 ⟨u2, rfl, hb2⟩; have HS2 := Lib.hid (HS1.out.later hb2); clear hb2 c0 c1 c2 c3 c4 c5 c6 c7 c8 c9 c10 c11 c12 c13 c14 c15; obtain ⟨⟨c0, c1, c2, c3, c4⟩, ⟨c5, c6, c7, c8, c9, c10, c11, c12⟩, c13, c14, c15⟩ := HS2.out.cells; simp only at c0 c3 c13 c14 c15)) | (go_at_call 47; go_must (refine (refRounds_any _ p.ops _ HCA.out (HP.out.ops.later HS2.out.below HS2.out.below.size)).mono ?_; unfold RetInts; rw [HRL.out]; rintro e w3 ⟨y, rfl, hown3, hb3⟩; have HS3 := Lib.hid (HS2.out.later hb3); have HO3 := Lib.hid hown3; clear hown3 hb3 c0 c1 c2 c3 c4 c5 c6 c7 c8 c9 c10 c11 c12 c13 c14 c15; obtain ⟨⟨c0, c1, c2, c3, c4⟩, ⟨c5, c6, c7, c8, c9, c10, c11, c12⟩, c13, c14, c15⟩ := HS3.out.cells; simp only at c0 c3 c13 c14 c15)))
    go_wp2_with fail
    clear c0 c1 c2 c3 c4 c5 c6 c7 c8 c9 c10 c11 c12 c13 c14 c15
    go_loopg [6, 56] p.ops.length (fun g x iv wr => ∃ i : Nat, i ≤ p.ops.length ∧ g = p.ops.length - i ∧ iv = .int .i64 i ∧ x = .int .i64 (mOuts (p.ops.take i) : Nat) ∧ Hid (∀ j, j + 1 < i → rl.getD j 0 ≤ rl.getD (j + 1) 0) ∧ Hid (CSt w p ⟨.slice ao p.ops.length cc, vsl, vsh, .slice i0o p.in0.length i0c, .slice i1o p.in1.length i1c⟩ wr) ∧ Hid (wr.ownsRow w2.heap.size 3 1 y rl.length (ints rl)))
    case atStart => exact ⟨0, Nat.zero_le _, rfl, rfl, rfl, Lib.hid (fun j hj => absurd hj (Nat.not_lt_zero _)), HS3, HO3⟩
    case round =>
      obtain ⟨i, hi, hg, rfl, rfl, HQ, HC, HO⟩ := hrel
      have hle := mOuts_le (p.ops.take i)
      rw [List.length_take] at hle
      by_cases hil : i < p.ops.length
      · obtain ⟨b, off, rfl, hbl, hcells⟩ := HY.out (by omega)
        have hcs := fun (W : World) (hb : Below w.heap.size w W) => op_cells hcells hb hbl rfl i hil
        have HT := Lib.hid (mOuts_take p.ops i hil)
        have HK := Lib.hid (kind_le (check_rules HCA.out i hil))
        generalize p.ops[i] = o at hcs HT HK
        have HCS := Lib.hid hcs
        clear hcs hcells
        have h3 : (0 : Int) ≤ (i : Int) := by omega
        have h4 : (i : Int) < (p.ops.length : Int) := by omega
        go_upto_region 11 with fail
        by_cases hi0 : i = 0
        · have i0 : decide ((0 : Int) < (i : Int)) = false := decide_eq_false (by omega)
          have i00 : decide (0 < i) = false := decide_eq_false (by omega)
          have HI0 := Lib.hid hi0
          clear hi0
          go_quiet (fail)
          rename Nat => nq2
          have HC2 := Lib.hid (HC.out.drewN nq2)
          have HO2 := Lib.hid (show (wr.drewN nq2).ownsRow _ _ _ _ _ _ from HO.out)
          have HQ2 := Lib.hid (show ∀ j, j + 1 < i + 1 → rl.getD j 0 ≤ rl.getD (j + 1) 0 from fun j hj => by have := HI0.out; omega)
          clear HC HO HQ
          generalize wr.drewN nq2 = W4 at HC2 HO2 ⊢
          obtain ⟨k0, k1, k2, k3, k4, k5⟩ := HCS.out W4 HC2.out.below
          obtain ⟨⟨c0, c1, c2, c3, c4⟩, ⟨c5, c6, c7, c8, c9, c10, c11, c12⟩, c13, c14, c15⟩ := HC2.out.cells; simp only at c0 c3 c13 c14 c15
          by_cases h18 : o.kind < 18
          · have HT2 := Lib.hid (show ¬ mTold o = true by simp [mTold]; omega)
            have e1 : decide ((18 : Int) ≤ o.kind) = false := decide_eq_false (by omega)
            clear h18
            go_wp2_with fail
            go_roundg (p.ops.length - (i + 1))
            case measure => omega
            case rel => exact ⟨i + 1, by omega, rfl, by go_num, by rw [HT.out, if_neg HT2.out]; rfl, HQ2, HC2, HO2⟩
          · have HT2 := Lib.hid (show mTold o = true by have := HK.out; simp [mTold]; omega)
            have e1 : decide ((18 : Int) ≤ o.kind) = true := decide_eq_true (by omega)
            clear h18
            go_wp2_with fail
            go_roundg (p.ops.length - (i + 1))
            case measure => omega
            case rel => exact ⟨i + 1, by omega, rfl, by go_num, by rw [HT.out, if_pos HT2.out]; go_num, HQ2, HC2, HO2⟩
        · have hir : i < rl.length := by have := HLEN.out; omega
          obtain ⟨g1, cp1, rfl, hg1, hg3⟩ := HO.out.form (by omega)
          have a1 := ints_getD HO.out i hir
          have a2 := ints_getD HO.out (i - 1) (by omega)
          have i0 : decide ((0 : Int) < (i : Int)) = true := decide_eq_true (by omega)
          have i00 : decide (0 < i) = true := decide_eq_true (by omega)
          have i1 : (0 : Int) ≤ (i : Int) - 1 := by omega
          have i2 : (i : Int) - 1 < (rl.length : Int) := by omega
          have i3 : ((i : Int) - 1).toNat = i - 1 := by omega
          have i4 : (i : Int) < (rl.length : Int) := by omega
          obtain ⟨y1, hy1⟩ : ∃ z, rl.getD i 0 = z := ⟨_, rfl⟩
          obtain ⟨y0, hy0⟩ : ∃ z, rl.getD (i - 1) 0 = z := ⟨_, rfl⟩
          rw [hy1] at a1
          rw [hy0] at a2
          have HY1 := Lib.hid hy1
          have HY0 := Lib.hid hy0
          clear hy1 hy0
          by_cases hlt : y1 < y0
          · have e0 : decide (y1 < y0) = true := decide_eq_true hlt
            have HF := Lib.hid (show G = false by
              rw [← HG.out]; unfold mGood
              have hns : mSorted (mRounds p.ops) = false := by
                rw [HRL.out]
                refine Bool.eq_false_iff.2 fun hs => ?_
                have := (mSorted_iff rl).1 hs (i - 1) (by omega)
                rw [show i - 1 + 1 = i by omega, HY1.out, HY0.out] at this
                omega
              rw [hns]; simp)
            clear hlt
            go_quiet (fail)
            rename Nat => nq2
            have HC2 := Lib.hid (HC.out.drewN nq2)
            clear a1 a2
            generalize wr.drewN nq2 = W4 at HC2 ⊢
            go_wp2_with fail
            go_ret
            exact ⟨by rw [HF.out]; rfl, HC2.out.below⟩
          · have e0 : decide (y1 < y0) = false := decide_eq_false hlt
            have HQ2 := Lib.hid (show ∀ j, j + 1 < i + 1 → rl.getD j 0 ≤ rl.getD (j + 1) 0 from fun j hj => by
              by_cases hj2 : j + 1 < i
              · exact HQ.out j hj2
              · obtain rfl : j = i - 1 := by omega
                rw [show i - 1 + 1 = i by omega, HY1.out, HY0.out]; omega)
            clear hlt
            go_quiet (fail)
            rename Nat => nq2
            have HC2 := Lib.hid (HC.out.drewN nq2)
            have HO2 := Lib.hid (show (wr.drewN nq2).ownsRow _ _ _ _ _ _ from HO.out)
            clear HC HO HQ a1 a2
            generalize wr.drewN nq2 = W4 at HC2 HO2 ⊢
            obtain ⟨k0, k1, k2, k3, k4, k5⟩ := HCS.out W4 HC2.out.below
            obtain ⟨⟨c0, c1, c2, c3, c4⟩, ⟨c5, c6, c7, c8, c9, c10, c11, c12⟩, c13, c14, c15⟩ := HC2.out.cells; simp only at c0 c3 c13 c14 c15
            by_cases h18 : o.kind < 18
            · have HT2 := Lib.hid (show ¬ mTold o = true by simp [mTold]; omega)
              have e1 : decide ((18 : Int) ≤ o.kind) = false := decide_eq_false (by omega)
              clear h18
              go_wp2_with fail
              go_roundg (p.ops.length - (i + 1))
              case measure => omega
              case rel => exact ⟨i + 1, by omega, rfl, by go_num, by rw [HT.out, if_neg HT2.out]; rfl, HQ2, HC2, HO2⟩
            · have HT2 := Lib.hid (show mTold o = true by have := HK.out; simp [mTold]; omega)
              have e1 : decide ((18 : Int) ≤ o.kind) = true := decide_eq_true (by omega)
              clear h18
              go_wp2_with fail
              go_roundg (p.ops.length - (i + 1))
              case measure => omega
              case rel => exact ⟨i + 1, by omega, rfl, by go_num, by rw [HT.out, if_pos HT2.out]; go_num, HQ2, HC2, HO2⟩
      · obtain rfl : i = p.ops.length := by omega
        rw [List.take_length] at hle ⊢
        have HSO := Lib.hid (show mSorted (mRounds p.ops) = true by
          rw [HRL.out]
          exact (mSorted_iff rl).2 fun j hj => HQ.out j (by have := HLEN.out; omega))
        have HML := Lib.hid (most_law HCA.out HSO.out)
        obtain ⟨MM, hMM⟩ : ∃ MM, mMost p.ops = MM := ⟨_, rfl⟩
        have HMO := Lib.hid (show rMost p.ops rl = MM by have := HML.out; rw [HRL.out] at this; rw [this, hMM])
        obtain ⟨⟨c0, c1, c2, c3, c4⟩, ⟨c5, c6, c7, c8, c9, c10, c11, c12⟩, c13, c14, c15⟩ := HC.out.cells; simp only at c0 c3 c13 c14 c15
        by_cases hmx : 65536 < MM
        · have e0 : decide (65536 < MM) = true := decide_eq_true hmx
          have HF := Lib.hid (show G = false by rw [← HG.out]; unfold mGood; rw [hMM, decide_eq_false (show ¬ (MM ≤ 65536) by omega)]; simp)
          clear hmx hMM
          go_wp2_with (go_at_call 48; go_must (refine (refMost_any _ y p.ops rl w2.heap.size _ HCA.out HRL.out (HP.out.ops.later HC.out.below HC.out.below.size) HO.out).mono ?_; rw [HMO.out]; unfold RetB; rintro e w5 ⟨rfl, hb5⟩; have HS5 := Lib.hid (HC.out.later hb5); clear hb5 c0 c1 c2 c3 c4 c5 c6 c7 c8 c9 c10 c11 c12 c13 c14 c15; obtain ⟨⟨c0, c1, c2, c3, c4⟩, ⟨c5, c6, c7, c8, c9, c10, c11, c12⟩, c13, c14, c15⟩ := HS5.out.cells; simp only at c0 c3 c13 c14 c15))
          go_ret
          exact ⟨by rw [HF.out]; rfl, HS5.out.below⟩
        have e0 : decide (65536 < MM) = false := decide_eq_false hmx
        obtain ⟨S1, hS1⟩ : ∃ S, (mSlots p.ops).1 = S := ⟨_, rfl⟩
        obtain ⟨A1, hA1⟩ : ∃ S, (mSlots p.ops).2 = S := ⟨_, rfl⟩
        have HSL := Lib.hid hS1
        have HAR := Lib.hid hA1
        have hG2 : G = (decide (S1 = p.slots) && (A1 == p.arena) && needEq (mNeed p.ops) p.need && (T2 == (mOuts p.ops : Int))) := by
          rw [← HG.out]; unfold mGood
          rw [decide_eq_true (show p.in0.length + p.in1.length ≤ 8 by omega), HT0.out, HT1.out, HT2.out, HMC.out, HSO.out, hMM, decide_eq_true (show MM ≤ 65536 by omega), hS1, hA1, show (T0 == p.e0) = true by simpa using t0, show (T1 == p.e1) = true by simpa using t1]
          simp
        have HG2 := Lib.hid hG2
        clear hmx hMM hS1 hA1 hG2
        go_upto_region 19 with (first | (go_at_call 48; go_must (refine (refMost_any _ y p.ops rl w2.heap.size _ HCA.out HRL.out (HP.out.ops.later HC.out.below HC.out.below.size) HO.out).mono ?_; rw [HMO.out]; unfold RetB; rintro e w5 ⟨rfl, hb5⟩; have HS5 := Lib.hid (HC.out.later hb5); clear hb5 c0 c1 c2 c3 c4 c5 c6 c7 c8 c9 c10 c11 c12 c13 c14 c15; obtain ⟨⟨c0, c1, c2, c3, c4⟩, ⟨c5, c6, c7, c8, c9, c10, c11, c12⟩, c13, c14, c15⟩ := HS5.out.cells; simp only at c0 c3 c13 c14 c15)) | (go_at_call 39; go_must (refine (refSlots_any _ p.ops _ HCA.out (HP.out.ops.later HS5.out.below HS5.out.below.size)).mono ?_; rintro e w6 ⟨u6, sl6, ar6, rfl, hrs6, hown6, hb6⟩; obtain ⟨hs1, hs2⟩ := slots_law HCA.out hrs6; rw [HSL.out] at hs1; rw [HAR.out] at hs2; subst hs1; subst hs2; have HS6 := Lib.hid (HS5.out.later hb6); have HO6 := Lib.hid hown6; clear hb6 hown6 hrs6 c0 c1 c2 c3 c4 c5 c6 c7 c8 c9 c10 c11 c12 c13 c14 c15; obtain ⟨⟨c0, c1, c2, c3, c4⟩, ⟨c5, c6, c7, c8, c9, c10, c11, c12⟩, c13, c14, c15⟩ := HS6.out.cells; simp only at c0 c3 c13 c14 c15)))
        obtain ⟨aos, cs, hus, hcs, hcells7⟩ := own_open HO6.out
        subst hus
        have HA1 := Lib.hid (Arr.of_owns HO6.out)
        have HA2 := Lib.hid (HP.out.slots.later HS6.out.below HS6.out.below.size)
        clear hcells7
        cases hB1 : decide (sl6 = p.slots) with
        | false =>
          have HB1 := Lib.hid hB1
          have HF := Lib.hid (show G = false by rw [HG2.out, hB1]; simp)
          clear hB1
          as_aux_lemma =>
            obtain ⟨⟨c0, c1, c2, c3, c4⟩, ⟨c5, c6, c7, c8, c9, c10, c11, c12⟩, c13, c14, c15⟩ := HS6.out.cells
            simp only at c0 c3 c13 c14 c15
            go_quiet ((go_at_call 24; exact Calls.quiet_of (refInts_b _ _ sl6 p.slots _ _ HB1.out (HA1.out.drewS _) (HA2.out.drewS _))))
            go_wp2_with fail
            go_ret
            exact ⟨by rw [HF.out]; rfl, below_drewN HS6.out.below _⟩
        | true =>
          have HB1 := Lib.hid hB1
          cases hB2 : (ar6 == p.arena) with
          | false =>
            have HF := Lib.hid (show G = false by rw [HG2.out, hB2]; simp)
            clear hB1
            as_aux_lemma =>
              obtain ⟨⟨c0, c1, c2, c3, c4⟩, ⟨c5, c6, c7, c8, c9, c10, c11, c12⟩, c13, c14, c15⟩ := HS6.out.cells
              simp only at c0 c3 c13 c14 c15
              go_quiet ((go_at_call 24; exact Calls.quiet_of (refInts_b _ _ sl6 p.slots _ _ HB1.out (HA1.out.drewS _) (HA2.out.drewS _))))
              go_wp2_with fail
              go_ret
              exact ⟨by rw [HF.out]; rfl, below_drewN HS6.out.below _⟩
          | true =>
            obtain ⟨X, hX⟩ : ∃ X, mNeed p.ops = X := ⟨_, rfl⟩
            have HX := Lib.hid hX
            have hnq := run_eql_need X p.need
            cases hB3 : needEq X p.need with
            | false =>
              rw [hB3] at hnq
              have HF := Lib.hid (show G = false by rw [HG2.out, hX, hB3]; simp)
              clear hB1 hX hB3
              as_aux_lemma =>
                first | (go_region_with (first | (go_at_call 24; go_must (refine (refInts_b _ _ sl6 p.slots _ _ HB1.out (by first | exact HA1.out | exact Arr.drew HA1.out) (by first | exact HA2.out | exact Arr.drew HA2.out)).mono ?_; rintro e w8 ⟨rfl, n8, hw8⟩; have hs8 := HS6.out.drew.drewN n8; rw [← hw8] at hs8; clear hw8; clear c0 c1 c2 c3 c4 c5 c6 c7 c8 c9 c10 c11 c12 c13 c14 c15; obtain ⟨⟨c0, c1, c2, c3, c4⟩, ⟨c5, c6, c7, c8, c9, c10, c11, c12⟩, c13, c14, c15⟩ := hs8.cells; simp only at c0 c3 c13 c14 c15; have HS8 := Lib.hid hs8; clear hs8)) | (go_at_call 40; go_must (refine (refNeed_any _ p.ops _ HCA.out (HP.out.ops.later HS8.out.below HS8.out.below.size)).mono ?_; unfold RetB; rw [HX.out]; unfold MNeed.arr; rintro e w9 ⟨rfl, hb9⟩; have hs9 := HS8.out.later hb9; clear hb9; clear c0 c1 c2 c3 c4 c5 c6 c7 c8 c9 c10 c11 c12 c13 c14 c15; obtain ⟨⟨c0, c1, c2, c3, c4⟩, ⟨c5, c6, c7, c8, c9, c10, c11, c12⟩, c13, c14, c15⟩ := hs9.cells; simp only at c0 c3 c13 c14 c15; have HS9 := Lib.hid hs9; clear hs9)))) | (fail "region")
                all_goals
                  go_wp2_with fail
                  go_ret
                  exact ⟨by rw [HF.out]; rfl, HS9.out.below⟩
            | true =>
              rw [hB3] at hnq
              have HF := Lib.hid (show G = (T2 == (mOuts p.ops : Int)) by rw [HG2.out, hB1, hB2, hX, hB3]; simp)
              clear hB1 hX hB3
              as_aux_lemma =>
                first | (go_region_with (first | (go_at_call 24; go_must (refine (refInts_b _ _ sl6 p.slots _ _ HB1.out (by first | exact HA1.out | exact Arr.drew HA1.out) (by first | exact HA2.out | exact Arr.drew HA2.out)).mono ?_; rintro e w8 ⟨rfl, n8, hw8⟩; have hs8 := HS6.out.drew.drewN n8; rw [← hw8] at hs8; clear hw8; clear c0 c1 c2 c3 c4 c5 c6 c7 c8 c9 c10 c11 c12 c13 c14 c15; obtain ⟨⟨c0, c1, c2, c3, c4⟩, ⟨c5, c6, c7, c8, c9, c10, c11, c12⟩, c13, c14, c15⟩ := hs8.cells; simp only at c0 c3 c13 c14 c15; have HS8 := Lib.hid hs8; clear hs8)) | (go_at_call 40; go_must (refine (refNeed_any _ p.ops _ HCA.out (HP.out.ops.later HS8.out.below HS8.out.below.size)).mono ?_; unfold RetB; rw [HX.out]; unfold MNeed.arr; rintro e w9 ⟨rfl, hb9⟩; have hs9 := HS8.out.later hb9; clear hb9; clear c0 c1 c2 c3 c4 c5 c6 c7 c8 c9 c10 c11 c12 c13 c14 c15; obtain ⟨⟨c0, c1, c2, c3, c4⟩, ⟨c5, c6, c7, c8, c9, c10, c11, c12⟩, c13, c14, c15⟩ := hs9.cells; simp only at c0 c3 c13 c14 c15; have HS9 := Lib.hid hs9; clear hs9)) | (go_at_call 46; go_must (refine (refTotal_sh _ p.shapes _ (HP.out.shapes.later HS9.out.below HS9.out.below.size) HP.out.l3 T2 HT2.out).mono ?_; rintro e w' ⟨rfl, rfl⟩)))) | (fail "region")
                all_goals
                  go_wp2_with fail
                  go_ret
                  exact ⟨by rw [HF.out]; rfl, HS9.out.below⟩
end Go.Proofs.YtjbhgimhcjcpmaaGreatDoor
