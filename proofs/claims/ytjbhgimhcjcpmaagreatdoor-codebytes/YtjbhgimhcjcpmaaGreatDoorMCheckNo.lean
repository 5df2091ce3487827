/-
  THE CONTRACT of plan.Check, where it is no plan.
-/
import Derived.Test.YtjbhgimhcjcpmaaGreatDoorMPlanCheck
import Derived.Test.YtjbhgimhcjcpmaaGreatDoorMEncode
set_option linter.unusedSimpArgs false
set_option linter.unusedVariables false
namespace Go.Proofs.YtjbhgimhcjcpmaaGreatDoor
open Go.RowKit

/-- An error of the kind that a plan's check tells. -/
def RetErr (w : World) (e : Ending) (w' : World) : Prop := ∃ u, e = .returned u ∧ (∃ l, IsErr w'.heap.size w' l 180 u) ∧ Below w.heap.size w w'

set_option maxHeartbeats 16000000 in
set_option maxRecDepth 100000 in
theorem planCheck_no (p : MPlan) (v : PVals) (w : World) (h : PlanAt w.heap.size w p v) (hE : ErrT w) (hg : mGood p = false) :
    Calls Tryz.prog 19 #[.agg (planArr p v)] w (RetErr w) := by
  obtain ⟨vo, vsl, vsh, v0, v1⟩ := v
  obtain ⟨ao, cc, hvo, hcc, hm, hx, hy⟩ := h.ops.open
  obtain ⟨i0o, i0c, hi0⟩ := h.in0.form
  obtain ⟨i1o, i1c, hi1⟩ := h.in1.form
  simp only at hi0 hi1 hvo
  subst hi0 hi1 hvo
  have HY := Lib.hid hy
  have HP := Lib.hid h
  have HE := Lib.hid hE
  have HG := Lib.hid hg
  have hS := (show CSt w p ⟨.slice ao p.ops.length cc, vsl, vsh, .slice i0o p.in0.length i0c, .slice i1o p.in1.length i1c⟩ (w.alloc (.cells (planArr p ⟨.slice ao p.ops.length cc, vsl, vsh, .slice i0o p.in0.length i0c, .slice i1o p.in1.length i1c⟩) 30)) from ⟨heap_alloc_new _ _, (Below.refl _ _).alloc (Nat.le_refl _) _⟩)
  simp only [planArr] at hS ⊢
  have HS := Lib.hid hS
  have HL1 := Lib.hid h.l1
  have hl4 := h.l4
  have hl5 := h.l5
  obtain ⟨T0, hT0⟩ : ∃ T, mTotal p.in0 = T := ⟨_, rfl⟩
  obtain ⟨T1, hT1⟩ : ∃ T, mTotal p.in1 = T := ⟨_, rfl⟩
  obtain ⟨T2, hT2⟩ : ∃ T, mTotal p.shapes = T := ⟨_, rfl⟩
  have HT0 := Lib.hid hT0
  have HT1 := Lib.hid hT1
  have HT2 := Lib.hid hT2
  clear h hE hg hS hy hx hm hcc hT0 hT1 hT2
  by_cases g0 : p.in0.length + p.in1.length ≤ 8
  rotate_left
  · as_aux_lemma =>
      go_enter Tryz.func19, Tryz.ntmps19
      go_wp2_with fail
      generalize w.alloc _ = W at HS ⊢
      obtain ⟨⟨c0, c1, c2, c3, c4⟩, ⟨c5, c6, c7, c8, c9, c10, c11, c12⟩, c13, c14, c15⟩ := HS.out.cells
      simp only at c0 c3 c13 c14 c15
      go_wp2_with (go_at_call 50; go_must (refine (bad_any _ _ (HE.out.below HS.out.below)).mono ?_; rintro e wz ⟨vz, rfl, hz, hbz⟩; have HZ := Lib.hid hz; have HBZ := Lib.hid (HS.out.below.trans (hbz.mono HS.out.below.size)); clear hz hbz))
      go_ret
      exact ⟨_, rfl, HZ.out, HBZ.out⟩
  go_enter Tryz.func19, Tryz.ntmps19
  go_wp2_with fail
  generalize w.alloc _ = W at HS ⊢
  obtain ⟨⟨c0, c1, c2, c3, c4⟩, ⟨c5, c6, c7, c8, c9, c10, c11, c12⟩, c13, c14, c15⟩ := HS.out.cells
  simp only at c0 c3 c13 c14 c15
  refine wp_loop_rounds 3 ?_
  rw [rounds_succ]
  go_wp2_with fail
  go_quiet ((go_at_call 51; exact Calls.quiet_of_same (total_sh _ p.in0 _ (HP.out.in0.later (HS.out.drewN _).below (HS.out.drewN _).below.size) HP.out.l4 T0 HT0.out)))
  rename Nat => nq
  have HS1 := Lib.hid (HS.out.drewN nq)
  generalize W.drewN nq = W1 at HS1 ⊢
  clear c0 c1 c2 c3 c4 c5 c6 c7 c8 c9 c10 c11 c12 c13 c14 c15
  obtain ⟨⟨c0, c1, c2, c3, c4⟩, ⟨c5, c6, c7, c8, c9, c10, c11, c12⟩, c13, c14, c15⟩ := HS1.out.cells
  simp only at c0 c3 c13 c14 c15
  by_cases g1 : T0 = p.e0
  rotate_left
  · have b1 : (T0 != p.e0) = true := by simp [g1]
    clear g1
    as_aux_lemma =>
      go_wp2_with (go_at_call 50; go_must (refine (bad_any _ _ (HE.out.below HS1.out.below)).mono ?_; rintro e wz ⟨vz, rfl, hz, hbz⟩; have HZ := Lib.hid hz; have HBZ := Lib.hid (HS1.out.below.trans (hbz.mono HS1.out.below.size)); clear hz hbz))
      go_ret
      exact ⟨_, rfl, HZ.out, HBZ.out⟩
  have b1 : (T0 != p.e0) = false := by simp [g1]
  have G1 := Lib.hid g1
  clear g1
  go_wp2_with fail
  rw [rounds_succ]
  go_wp2_with fail
  go_quiet ((go_at_call 51; exact Calls.quiet_of_same (total_sh _ p.in1 _ (HP.out.in1.later (HS1.out.drewN _).below (HS1.out.drewN _).below.size) HP.out.l5 T1 HT1.out)))
  rename Nat => nq2
  have HS2 := Lib.hid (HS1.out.drewN nq2)
  generalize W1.drewN nq2 = W2 at HS2 ⊢
  clear c0 c1 c2 c3 c4 c5 c6 c7 c8 c9 c10 c11 c12 c13 c14 c15
  obtain ⟨⟨c0, c1, c2, c3, c4⟩, ⟨c5, c6, c7, c8, c9, c10, c11, c12⟩, c13, c14, c15⟩ := HS2.out.cells
  simp only at c0 c3 c13 c14 c15
  by_cases g2 : T1 = p.e1
  rotate_left
  · have b2 : (T1 != p.e1) = true := by simp [g2]
    clear g2
    as_aux_lemma =>
      go_wp2_with (go_at_call 50; go_must (refine (bad_any _ _ (HE.out.below HS2.out.below)).mono ?_; rintro e wz ⟨vz, rfl, hz, hbz⟩; have HZ := Lib.hid hz; have HBZ := Lib.hid (HS2.out.below.trans (hbz.mono HS2.out.below.size)); clear hz hbz))
      go_ret
      exact ⟨_, rfl, HZ.out, HBZ.out⟩
  have b2 : (T1 != p.e1) = false := by simp [g2]
  have G2 := Lib.hid g2
  clear g2
  go_wp2_with fail
  rw [rounds_succ]
  go_wp2_with fail
  rcases g3 : mCheck p.ops p.e0 p.e1 with _ | _
  · have G3 := Lib.hid g3
    clear g3
    as_aux_lemma =>
      go_wp2_with (first | (go_at_call 52; go_must (refine (check_no _ p.ops p.e0 p.e1 _ G3.out (HP.out.ops.later HS2.out.below HS2.out.below.size) HL1.out HP.out.hc (HE.out.below HS2.out.below)).mono ?_; rintro e w3 ⟨⟨TT, xx, rfl⟩, hb3⟩; have hs3 := HS2.out.later hb3; clear hb3 c0 c1 c2 c3 c4 c5 c6 c7 c8 c9 c10 c11 c12 c13 c14 c15; obtain ⟨⟨c0, c1, c2, c3, c4⟩, ⟨c5, c6, c7, c8, c9, c10, c11, c12⟩, c13, c14, c15⟩ := hs3.cells; simp only at c0 c3 c13 c14 c15; have HS3 := Lib.hid hs3; clear hs3)) | (go_at_call 50; go_must (refine (bad_any _ _ (HE.out.below HS3.out.below)).mono ?_; rintro e wz ⟨vz, rfl, hz, hbz⟩; have HZ := Lib.hid hz; have HBZ := Lib.hid (HS3.out.below.trans (hbz.mono HS3.out.below.size)); clear hz hbz)))
      go_ret
      exact ⟨_, rfl, HZ.out, HBZ.out⟩
  have ga := mCheck_all _ _ _ g3
  have hl2 : p.ops.length ≤ 16384 := by
    simp only [mCheck, Bool.and_eq_true, decide_eq_true_eq] at ga
    exact ga.1.2
  have GA := Lib.hid ga
  have HL2 := Lib.hid hl2
  have G3 := Lib.hid g3
  clear g3 ga hl2
  rcases g4 : mSorted (mRounds p.ops) with _ | _
  · have G4 := Lib.hid g4
    clear g4
    as_aux_lemma =>
      go_wp2_with (first | (go_at_call 52; go_must (refine (check_yes _ p.ops p.e0 p.e1 _ G3.out (HP.out.ops.later HS2.out.below HS2.out.below.size) HP.out.hc (HE.out.below HS2.out.below)).mono ?_; rintro e w3 ⟨rfl, hb3⟩; have hs3 := HS2.out.later hb3; clear hb3 c0 c1 c2 c3 c4 c5 c6 c7 c8 c9 c10 c11 c12 c13 c14 c15; obtain ⟨⟨c0, c1, c2, c3, c4⟩, ⟨c5, c6, c7, c8, c9, c10, c11, c12⟩, c13, c14, c15⟩ := hs3.cells; simp only at c0 c3 c13 c14 c15; have HS3 := Lib.hid hs3; clear hs3)) | (go_at_call 54; go_must (refine (rounds_any _ p.ops _ (HP.out.ops.later HS3.out.below HS3.out.below.size) HL1.out HP.out.hc (HE.out.below HS3.out.below)).mono ?_; rintro e w4 ⟨u, rfl, hown, hb4⟩; have HO4 := Lib.hid hown; clear hown; have hs4 := HS3.out.later hb4; clear hb4 c0 c1 c2 c3 c4 c5 c6 c7 c8 c9 c10 c11 c12 c13 c14 c15; obtain ⟨⟨c0, c1, c2, c3, c4⟩, ⟨c5, c6, c7, c8, c9, c10, c11, c12⟩, c13, c14, c15⟩ := hs4.cells; simp only at c0 c3 c13 c14 c15; have HS4 := Lib.hid hs4; clear hs4)) | (go_at_call 53; go_must (refine (isSorted_any _ (mRounds p.ops) _ (Arr.of_owns HO4.out)).mono ?_; rw [G4.out]; rintro e w5 ⟨rfl, n5, rfl⟩; have hs5 := HS4.out.drewN n5; clear c0 c1 c2 c3 c4 c5 c6 c7 c8 c9 c10 c11 c12 c13 c14 c15; obtain ⟨⟨c0, c1, c2, c3, c4⟩, ⟨c5, c6, c7, c8, c9, c10, c11, c12⟩, c13, c14, c15⟩ := hs5.cells; simp only at c0 c3 c13 c14 c15; have HS5 := Lib.hid hs5; clear hs5)) | (go_at_call 50; go_must (refine (bad_any _ _ (HE.out.below HS5.out.below)).mono ?_; rintro e wz ⟨vz, rfl, hz, hbz⟩; have HZ := Lib.hid hz; have HBZ := Lib.hid (HS5.out.below.trans (hbz.mono HS5.out.below.size)); clear hz hbz)))
      go_ret
      exact ⟨_, rfl, HZ.out, HBZ.out⟩
  have G4 := Lib.hid g4
  clear g4
  by_cases g5 : mMost p.ops ≤ 65536
  rotate_left
  · have g5' : 65536 < mMost p.ops := by omega
    clear g5
    as_aux_lemma =>
      go_wp2_with (first | (go_at_call 52; go_must (refine (check_yes _ p.ops p.e0 p.e1 _ G3.out (HP.out.ops.later HS2.out.below HS2.out.below.size) HP.out.hc (HE.out.below HS2.out.below)).mono ?_; rintro e w3 ⟨rfl, hb3⟩; have hs3 := HS2.out.later hb3; clear hb3 c0 c1 c2 c3 c4 c5 c6 c7 c8 c9 c10 c11 c12 c13 c14 c15; obtain ⟨⟨c0, c1, c2, c3, c4⟩, ⟨c5, c6, c7, c8, c9, c10, c11, c12⟩, c13, c14, c15⟩ := hs3.cells; simp only at c0 c3 c13 c14 c15; have HS3 := Lib.hid hs3; clear hs3)) | (go_at_call 54; go_must (refine (rounds_any _ p.ops _ (HP.out.ops.later HS3.out.below HS3.out.below.size) HL1.out HP.out.hc (HE.out.below HS3.out.below)).mono ?_; rintro e w4 ⟨u, rfl, hown, hb4⟩; have HO4 := Lib.hid hown; clear hown; have hs4 := HS3.out.later hb4; clear hb4 c0 c1 c2 c3 c4 c5 c6 c7 c8 c9 c10 c11 c12 c13 c14 c15; obtain ⟨⟨c0, c1, c2, c3, c4⟩, ⟨c5, c6, c7, c8, c9, c10, c11, c12⟩, c13, c14, c15⟩ := hs4.cells; simp only at c0 c3 c13 c14 c15; have HS4 := Lib.hid hs4; clear hs4)) | (go_at_call 53; go_must (refine (isSorted_any _ (mRounds p.ops) _ (Arr.of_owns HO4.out)).mono ?_; rw [G4.out]; rintro e w5 ⟨rfl, n5, rfl⟩; have hs5 := HS4.out.drewN n5; clear c0 c1 c2 c3 c4 c5 c6 c7 c8 c9 c10 c11 c12 c13 c14 c15; obtain ⟨⟨c0, c1, c2, c3, c4⟩, ⟨c5, c6, c7, c8, c9, c10, c11, c12⟩, c13, c14, c15⟩ := hs5.cells; simp only at c0 c3 c13 c14 c15; have HS5 := Lib.hid hs5; clear hs5)) | (go_at_call 55; go_must (refine (most_any _ p.ops _ GA.out (HP.out.ops.later HS5.out.below HS5.out.below.size) HL2.out HP.out.hc (HE.out.below HS5.out.below)).mono ?_; unfold RetB; rintro e w6 ⟨rfl, hb6⟩; have hs6 := HS5.out.later hb6; clear hb6 c0 c1 c2 c3 c4 c5 c6 c7 c8 c9 c10 c11 c12 c13 c14 c15; obtain ⟨⟨c0, c1, c2, c3, c4⟩, ⟨c5, c6, c7, c8, c9, c10, c11, c12⟩, c13, c14, c15⟩ := hs6.cells; simp only at c0 c3 c13 c14 c15; have HS6 := Lib.hid hs6; clear hs6)) | (go_at_call 50; go_must (refine (bad_any _ _ (HE.out.below HS6.out.below)).mono ?_; rintro e wz ⟨vz, rfl, hz, hbz⟩; have HZ := Lib.hid hz; have HBZ := Lib.hid (HS6.out.below.trans (hbz.mono HS6.out.below.size)); clear hz hbz)))
      go_ret
      exact ⟨_, rfl, HZ.out, HBZ.out⟩
  obtain ⟨SL, hSL⟩ : ∃ SL, mSlots p.ops = SL := ⟨_, rfl⟩
  obtain ⟨S1, A1⟩ := SL
  have HSL := Lib.hid hSL
  clear hSL
  go_upto_region 13 with (first | (go_at_call 52; go_must (refine (check_yes _ p.ops p.e0 p.e1 _ G3.out (HP.out.ops.later HS2.out.below HS2.out.below.size) HP.out.hc (HE.out.below HS2.out.below)).mono ?_; rintro e w3 ⟨rfl, hb3⟩; have hs3 := HS2.out.later hb3; clear hb3 c0 c1 c2 c3 c4 c5 c6 c7 c8 c9 c10 c11 c12 c13 c14 c15; obtain ⟨⟨c0, c1, c2, c3, c4⟩, ⟨c5, c6, c7, c8, c9, c10, c11, c12⟩, c13, c14, c15⟩ := hs3.cells; simp only at c0 c3 c13 c14 c15; have HS3 := Lib.hid hs3; clear hs3)) | (go_at_call 54; go_must (refine (rounds_any _ p.ops _ (HP.out.ops.later HS3.out.below HS3.out.below.size) HL1.out HP.out.hc (HE.out.below HS3.out.below)).mono ?_; rintro e w4 ⟨u, rfl, hown, hb4⟩; have HO4 := Lib.hid hown; clear hown; have hs4 := HS3.out.later hb4; clear hb4 c0 c1 c2 c3 c4 c5 c6 c7 c8 c9 c10 c11 c12 c13 c14 c15; obtain ⟨⟨c0, c1, c2, c3, c4⟩, ⟨c5, c6, c7, c8, c9, c10, c11, c12⟩, c13, c14, c15⟩ := hs4.cells; simp only at c0 c3 c13 c14 c15; have HS4 := Lib.hid hs4; clear hs4)) | (go_at_call 53; go_must (refine (isSorted_any _ (mRounds p.ops) _ (Arr.of_owns HO4.out)).mono ?_; rw [G4.out]; rintro e w5 ⟨rfl, n5, rfl⟩; have hs5 := HS4.out.drewN n5; clear c0 c1 c2 c3 c4 c5 c6 c7 c8 c9 c10 c11 c12 c13 c14 c15; obtain ⟨⟨c0, c1, c2, c3, c4⟩, ⟨c5, c6, c7, c8, c9, c10, c11, c12⟩, c13, c14, c15⟩ := hs5.cells; simp only at c0 c3 c13 c14 c15; have HS5 := Lib.hid hs5; clear hs5)) | (go_at_call 55; go_must (refine (most_any _ p.ops _ GA.out (HP.out.ops.later HS5.out.below HS5.out.below.size) HL2.out HP.out.hc (HE.out.below HS5.out.below)).mono ?_; unfold RetB; rintro e w6 ⟨rfl, hb6⟩; have hs6 := HS5.out.later hb6; clear hb6 c0 c1 c2 c3 c4 c5 c6 c7 c8 c9 c10 c11 c12 c13 c14 c15; obtain ⟨⟨c0, c1, c2, c3, c4⟩, ⟨c5, c6, c7, c8, c9, c10, c11, c12⟩, c13, c14, c15⟩ := hs6.cells; simp only at c0 c3 c13 c14 c15; have HS6 := Lib.hid hs6; clear hs6)) | (go_at_call 33; go_must (refine (slots_any _ p.ops _ (HP.out.ops.later HS6.out.below HS6.out.below.size) HL1.out HP.out.hc (HE.out.below HS6.out.below)).mono ?_; rw [HSL.out]; simp only; rintro e w7 ⟨us, rfl, hown, hb7⟩; have HO7 := Lib.hid hown; clear hown; have hs7 := HS6.out.later hb7; clear hb7 c0 c1 c2 c3 c4 c5 c6 c7 c8 c9 c10 c11 c12 c13 c14 c15; obtain ⟨⟨c0, c1, c2, c3, c4⟩, ⟨c5, c6, c7, c8, c9, c10, c11, c12⟩, c13, c14, c15⟩ := hs7.cells; simp only at c0 c3 c13 c14 c15; have HS7 := Lib.hid hs7; clear hs7)))
  have G5 := Lib.hid g5
  clear g5
  obtain ⟨aos, cs, hus, hcs, hcells7⟩ := own_open HO7.out
  subst hus
  have HA1 := Lib.hid (Arr.of_owns HO7.out)
  have HA2 := Lib.hid (HP.out.slots.later HS7.out.below HS7.out.below.size)
  clear hcells7
  by_cases gS : S1 = p.slots
  rotate_left
  · have HT := Lib.hid (show decide (S1 = p.slots) = false by simpa using gS)
    clear gS
    as_aux_lemma =>
      go_cut [83] from 65 (fun s83 wx => s83 = .bool true ∧ Hid (CSt w p ⟨.slice ao p.ops.length cc, vsl, vsh, .slice i0o p.in0.length i0c, .slice i1o p.in1.length i1c⟩ wx))
      case first =>
        first | (go_region_with (go_at_call 56; go_must (refine (equalI_any _ _ S1 p.slots _ (by first | exact HA1.out | exact Arr.drew HA1.out) (by first | exact HA2.out | exact Arr.drew HA2.out)).mono ?_; rw [HT.out]; rintro e w8 ⟨rfl, n8, hw8⟩; have hs8 := HS7.out.drew.drewN n8; rw [← hw8] at hs8; clear hw8; clear c0 c1 c2 c3 c4 c5 c6 c7 c8 c9 c10 c11 c12 c13 c14 c15; obtain ⟨⟨c0, c1, c2, c3, c4⟩, ⟨c5, c6, c7, c8, c9, c10, c11, c12⟩, c13, c14, c15⟩ := hs8.cells; simp only at c0 c3 c13 c14 c15; have HS8 := Lib.hid hs8; clear hs8))) | (fail "region")
        all_goals (go_wp2_with fail; go_meet; exact ⟨rfl, HS8⟩)
      case rest =>
        obtain ⟨rfl, HC0⟩ := hcut
        clear c0 c1 c2 c3 c4 c5 c6 c7 c8 c9 c10 c11 c12 c13 c14 c15
        obtain ⟨⟨c0, c1, c2, c3, c4⟩, ⟨c5, c6, c7, c8, c9, c10, c11, c12⟩, c13, c14, c15⟩ := HC0.out.cells
        simp only at c0 c3 c13 c14 c15
        go_wp2_with (go_at_call 50; go_must (refine (bad_any _ _ (HE.out.below HC0.out.below)).mono ?_; rintro e wz ⟨vz, rfl, hz, hbz⟩; have HZ := Lib.hid hz; have HBZ := Lib.hid (HC0.out.below.trans (hbz.mono HC0.out.below.size)); clear hz hbz))
        go_ret
        exact ⟨_, rfl, HZ.out, HBZ.out⟩
  have HT := Lib.hid (show decide (S1 = p.slots) = true by simpa using gS)
  have GS := Lib.hid gS
  clear gS
  by_cases gA : A1 = p.arena
  rotate_left
  · have bA : (A1 != p.arena) = true := by simp [gA]
    clear gA
    as_aux_lemma =>
      go_cut [83] from 65 (fun s83 wx => s83 = .bool true ∧ Hid (CSt w p ⟨.slice ao p.ops.length cc, vsl, vsh, .slice i0o p.in0.length i0c, .slice i1o p.in1.length i1c⟩ wx))
      case first =>
        first | (go_region_with (go_at_call 56; go_must (refine (equalI_any _ _ S1 p.slots _ (by first | exact HA1.out | exact Arr.drew HA1.out) (by first | exact HA2.out | exact Arr.drew HA2.out)).mono ?_; rw [HT.out]; rintro e w8 ⟨rfl, n8, hw8⟩; have hs8 := HS7.out.drew.drewN n8; rw [← hw8] at hs8; clear hw8; clear c0 c1 c2 c3 c4 c5 c6 c7 c8 c9 c10 c11 c12 c13 c14 c15; obtain ⟨⟨c0, c1, c2, c3, c4⟩, ⟨c5, c6, c7, c8, c9, c10, c11, c12⟩, c13, c14, c15⟩ := hs8.cells; simp only at c0 c3 c13 c14 c15; have HS8 := Lib.hid hs8; clear hs8))) | (fail "region")
        all_goals (go_wp2_with fail; go_meet; exact ⟨rfl, HS8⟩)
      case rest =>
        obtain ⟨rfl, HC0⟩ := hcut
        clear c0 c1 c2 c3 c4 c5 c6 c7 c8 c9 c10 c11 c12 c13 c14 c15
        obtain ⟨⟨c0, c1, c2, c3, c4⟩, ⟨c5, c6, c7, c8, c9, c10, c11, c12⟩, c13, c14, c15⟩ := HC0.out.cells
        simp only at c0 c3 c13 c14 c15
        go_wp2_with (go_at_call 50; go_must (refine (bad_any _ _ (HE.out.below HC0.out.below)).mono ?_; rintro e wz ⟨vz, rfl, hz, hbz⟩; have HZ := Lib.hid hz; have HBZ := Lib.hid (HC0.out.below.trans (hbz.mono HC0.out.below.size)); clear hz hbz))
        go_ret
        exact ⟨_, rfl, HZ.out, HBZ.out⟩
  have bA : (A1 != p.arena) = false := by simp [gA]
  have GAR := Lib.hid gA
  clear gA
  obtain ⟨X, hX⟩ : ∃ X, mNeed p.ops = X := ⟨_, rfl⟩
  have HX := Lib.hid hX
  clear hX
  have hnq := run_neq_need X p.need
  rcases gX : needEq X p.need with _ | _
  · rw [gX] at hnq
    clear gX
    as_aux_lemma =>
      go_cut [83] from 65 (fun s83 wx => s83 = .bool true ∧ Hid (CSt w p ⟨.slice ao p.ops.length cc, vsl, vsh, .slice i0o p.in0.length i0c, .slice i1o p.in1.length i1c⟩ wx))
      case first =>
        go_region_with (first | (go_at_call 56; go_must (refine (equalI_any _ _ S1 p.slots _ (by first | exact HA1.out | exact Arr.drew HA1.out) (by first | exact HA2.out | exact Arr.drew HA2.out)).mono ?_; rw [HT.out]; rintro e w8 ⟨rfl, n8, hw8⟩; have hs8 := HS7.out.drew.drewN n8; rw [← hw8] at hs8; clear hw8; clear c0 c1 c2 c3 c4 c5 c6 c7 c8 c9 c10 c11 c12 c13 c14 c15; obtain ⟨⟨c0, c1, c2, c3, c4⟩, ⟨c5, c6, c7, c8, c9, c10, c11, c12⟩, c13, c14, c15⟩ := hs8.cells; simp only at c0 c3 c13 c14 c15; have HS8 := Lib.hid hs8; clear hs8)) | (go_at_call 34; go_must (refine (need_any _ p.ops _ (HP.out.ops.later HS8.out.below HS8.out.below.size) HL1.out HP.out.hc (HE.out.below HS8.out.below)).mono ?_; unfold RetB; rw [HX.out]; unfold MNeed.arr; rintro e w9 ⟨rfl, hb9⟩; have hs9 := HS8.out.later hb9; clear hb9 c0 c1 c2 c3 c4 c5 c6 c7 c8 c9 c10 c11 c12 c13 c14 c15; obtain ⟨⟨c0, c1, c2, c3, c4⟩, ⟨c5, c6, c7, c8, c9, c10, c11, c12⟩, c13, c14, c15⟩ := hs9.cells; simp only at c0 c3 c13 c14 c15; have HS9 := Lib.hid hs9; clear hs9)))
        all_goals (go_wp2_with fail; go_meet; exact ⟨rfl, HS9⟩)
      case rest =>
        obtain ⟨rfl, HC0⟩ := hcut
        clear c0 c1 c2 c3 c4 c5 c6 c7 c8 c9 c10 c11 c12 c13 c14 c15
        obtain ⟨⟨c0, c1, c2, c3, c4⟩, ⟨c5, c6, c7, c8, c9, c10, c11, c12⟩, c13, c14, c15⟩ := HC0.out.cells
        simp only at c0 c3 c13 c14 c15
        go_wp2_with (go_at_call 50; go_must (refine (bad_any _ _ (HE.out.below HC0.out.below)).mono ?_; rintro e wz ⟨vz, rfl, hz, hbz⟩; have HZ := Lib.hid hz; have HBZ := Lib.hid (HC0.out.below.trans (hbz.mono HC0.out.below.size)); clear hz hbz))
        go_ret
        exact ⟨_, rfl, HZ.out, HBZ.out⟩
  rw [gX] at hnq
  have GX := Lib.hid gX
  clear gX
  go_cut [83] from 65 (fun s83 wx => s83 = .bool false ∧ Hid (CSt w p ⟨.slice ao p.ops.length cc, vsl, vsh, .slice i0o p.in0.length i0c, .slice i1o p.in1.length i1c⟩ wx))
  case first =>
    go_region_with (first | (go_at_call 56; go_must (refine (equalI_any _ _ S1 p.slots _ (by first | exact HA1.out | exact Arr.drew HA1.out) (by first | exact HA2.out | exact Arr.drew HA2.out)).mono ?_; rw [HT.out]; rintro e w8 ⟨rfl, n8, hw8⟩; have hs8 := HS7.out.drew.drewN n8; rw [← hw8] at hs8; clear hw8; clear c0 c1 c2 c3 c4 c5 c6 c7 c8 c9 c10 c11 c12 c13 c14 c15; obtain ⟨⟨c0, c1, c2, c3, c4⟩, ⟨c5, c6, c7, c8, c9, c10, c11, c12⟩, c13, c14, c15⟩ := hs8.cells; simp only at c0 c3 c13 c14 c15; have HS8 := Lib.hid hs8; clear hs8)) | (go_at_call 34; go_must (refine (need_any _ p.ops _ (HP.out.ops.later HS8.out.below HS8.out.below.size) HL1.out HP.out.hc (HE.out.below HS8.out.below)).mono ?_; unfold RetB; rw [HX.out]; unfold MNeed.arr; rintro e w9 ⟨rfl, hb9⟩; have hs9 := HS8.out.later hb9; clear hb9 c0 c1 c2 c3 c4 c5 c6 c7 c8 c9 c10 c11 c12 c13 c14 c15; obtain ⟨⟨c0, c1, c2, c3, c4⟩, ⟨c5, c6, c7, c8, c9, c10, c11, c12⟩, c13, c14, c15⟩ := hs9.cells; simp only at c0 c3 c13 c14 c15; have HS9 := Lib.hid hs9; clear hs9)))
    all_goals (go_wp2_with fail; go_meet; exact ⟨rfl, HS9⟩)
  case rest =>
    obtain ⟨rfl, HC0⟩ := hcut
    clear c0 c1 c2 c3 c4 c5 c6 c7 c8 c9 c10 c11 c12 c13 c14 c15
    obtain ⟨⟨c0, c1, c2, c3, c4⟩, ⟨c5, c6, c7, c8, c9, c10, c11, c12⟩, c13, c14, c15⟩ := HC0.out.cells
    simp only at c0 c3 c13 c14 c15
    go_wp2_with fail
    clear c0 c1 c2 c3 c4 c5 c6 c7 c8 c9 c10 c11 c12 c13 c14 c15
    go_loopg [7, 89] p.ops.length (fun g x i wr => ∃ k : Nat, k ≤ p.ops.length ∧ g = p.ops.length - k ∧ i = .int .i64 k ∧ x = .int .i64 (mOuts (p.ops.take k) : Nat) ∧ Hid (CSt w p ⟨.slice ao p.ops.length cc, vsl, vsh, .slice i0o p.in0.length i0c, .slice i1o p.in1.length i1c⟩ wr))
    case atStart => exact ⟨0, Nat.zero_le _, rfl, rfl, rfl, HC0⟩
    case round =>
      obtain ⟨k, hk, hg, rfl, rfl, HB⟩ := hrel
      have hle := mOuts_le (p.ops.take k)
      rw [List.length_take] at hle
      have hl1 := HL1.out
      by_cases hkl : k < p.ops.length
      · obtain ⟨b, off, rfl, hbl, hcells⟩ := HY.out (by omega)
        obtain ⟨c0, c1, c2, c3, c4, c5⟩ := op_cells hcells HB.out.below hbl rfl k hkl
        have HT := Lib.hid (mOuts_take p.ops k hkl)
        generalize p.ops[k] = o at c0 c1 c2 c3 c4 c5 HT
        clear hcells
        by_cases h18 : o.kind = 18
        · have HT2 := Lib.hid (show mTold o = true by simp [mTold, h18])
          go_wp2_with fail
          go_roundg (p.ops.length - (k + 1))
          case measure => omega
          case rel => exact ⟨k + 1, by omega, rfl, by go_num, by rw [HT.out, HT2.out]; go_num, Lib.hid (HB.out.later ((Below.refl _ _).alloc (Nat.le_refl _) _))⟩
        · by_cases h19 : o.kind = 19
          · have HT2 := Lib.hid (show mTold o = true by simp [mTold, h19])
            go_wp2_with fail
            go_roundg (p.ops.length - (k + 1))
            case measure => omega
            case rel => exact ⟨k + 1, by omega, rfl, by go_num, by rw [HT.out, HT2.out]; go_num, Lib.hid (HB.out.later ((Below.refl _ _).alloc (Nat.le_refl _) _))⟩
          · have HT2 := Lib.hid (show ¬ mTold o = true by simp [mTold, h18, h19])
            have b18 : (o.kind == 18) = false := by simp [h18]
            have b19 : (o.kind == 19) = false := by simp [h19]
            go_wp2_with fail
            go_roundg (p.ops.length - (k + 1))
            case measure => omega
            case rel => exact ⟨k + 1, by omega, rfl, by go_num, by rw [HT.out, if_neg HT2.out]; rfl, Lib.hid (HB.out.later ((Below.refl _ _).alloc (Nat.le_refl _) _))⟩
      · obtain rfl : k = p.ops.length := by omega
        rw [List.take_length] at hle ⊢
        obtain ⟨M, hM⟩ : ∃ M, mOuts p.ops = M := ⟨_, rfl⟩
        have HM := Lib.hid hM
        rw [hM] at hle ⊢
        clear hM
        obtain ⟨⟨c0, c1, c2, c3, c4⟩, ⟨c5, c6, c7, c8, c9, c10, c11, c12⟩, c13, c14, c15⟩ := HB.out.cells
        simp only at c0 c3 c13 c14 c15
        have b9 : (T2 != (M : Int)) = true := by
          rw [bne_iff_ne]
          intro h9
          have hG := HG.out
          rw [← Bool.not_eq_true] at hG
          apply hG
          have e2 : (mSlots p.ops).1 = p.slots := by rw [HSL.out]; exact GS.out
          have e3 : (mSlots p.ops).2 = p.arena := by rw [HSL.out]; exact GAR.out
          simp only [mGood, Bool.and_eq_true, decide_eq_true_eq, beq_iff_eq]
          exact ⟨⟨⟨⟨⟨⟨⟨⟨⟨g0, HT0.out.trans G1.out⟩, HT1.out.trans G2.out⟩, G3.out⟩, G4.out⟩, G5.out⟩, e2⟩, e3⟩, by rw [HX.out]; exact GX.out⟩, by rw [HT2.out, HM.out]; exact h9⟩
        go_wp2_with (first | (go_at_call 51; go_must (refine (total_sh _ p.shapes _ (HP.out.shapes.later HB.out.below HB.out.below.size) HP.out.l3 T2 HT2.out).mono ?_; rintro e w10 ⟨rfl, rfl⟩)) | (go_at_call 50; go_must (refine (bad_any _ _ (HE.out.below HB.out.below)).mono ?_; rintro e wz ⟨vz, rfl, hz, hbz⟩; have HZ := Lib.hid hz; have HBZ := Lib.hid (HB.out.below.trans (hbz.mono HB.out.below.size)); clear hz hbz)))
        go_ret
        exact ⟨_, rfl, HZ.out, HBZ.out⟩
end Go.Proofs.YtjbhgimhcjcpmaaGreatDoor

/-
  THE CONTRACT of code.Encode, of what is no plan.
-/
namespace Go.Proofs.YtjbhgimhcjcpmaaGreatDoor
open Go.RowKit

set_option maxHeartbeats 1000000 in
set_option maxRecDepth 100000 in
theorem encode_no (p : MPlan) (v : PVals) (w : World) (h : PlanAt w.heap.size w p v) (hE : ErrT w) (hg : mGood p = false) :
    Calls Tryz.prog 8 #[.agg (planArr p v)] w fun e w' => ∃ u, e = .returned (.tuple #[.slice none 0 0, u]) ∧ (∃ l, IsErr w'.heap.size w' l 180 u) ∧ Below w.heap.size w w' := by
  have hS := (show CSt w p v (w.alloc (.cells (planArr p v) 30)) from ⟨heap_alloc_new _ _, (Below.refl _ _).alloc (Nat.le_refl _) _⟩)
  obtain ⟨⟨c0, c1, c2, c3, c4⟩, ⟨c5, c6, c7, c8, c9, c10, c11, c12⟩, c13, c14, c15⟩ := hS.cells
  have HP := Lib.hid h
  have HE := Lib.hid hE
  have HG := Lib.hid hg
  have HS := Lib.hid hS
  simp only [planArr] at HS c0 c1 c2 c3 c4 c5 c6 c7 c8 c9 c10 c11 c12 c13 c14 c15 ⊢
  clear h hE hg hS
  go_enter Tryz.func8, Tryz.ntmps8
  go_wp2_with (go_at_call 19; go_must (refine (planCheck_no p v _ (HP.out.later HS.out.below HS.out.below.size) (HE.out.below HS.out.below) HG.out).mono ?_; unfold RetErr; rintro e w1 ⟨u, rfl, ⟨l, hu⟩, hb1⟩; obtain ⟨TT, xx, rfl⟩ := hu.form; have HU := Lib.hid hu; have HB := Lib.hid (HS.out.below.trans (hb1.mono HS.out.below.size)); clear hb1 hu c0 c1 c2 c3 c4 c5 c6 c7 c8 c9 c10 c11 c12 c13 c14 c15))
  go_ret2
  exact ⟨_, rfl, ⟨l, HU.out⟩, HB.out⟩
end Go.Proofs.YtjbhgimhcjcpmaaGreatDoor
