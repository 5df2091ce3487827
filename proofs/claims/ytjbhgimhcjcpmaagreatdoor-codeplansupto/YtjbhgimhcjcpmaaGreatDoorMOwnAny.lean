/-
  THE CONTRACT of twainlaw18.Own.
-/
import Derived.Test.YtjbhgimhcjcpmaaGreatDoorMLawOwn
import Derived.Test.YtjbhgimhcjcpmaaGreatDoorMDecSt
set_option linter.unusedSimpArgs false
set_option linter.unusedVariables false
namespace Go.Proofs.YtjbhgimhcjcpmaaGreatDoor
open Go.RowKit

/-- A plan with lists of its own, not too long. -/
def cutPlan (p : MPlan) : MPlan := ⟨p.ops.take 3000, p.e0, p.e1, p.slots.take 3000, p.arena, p.need, cutSh p.shapes, cutSh p.in0, cutSh p.in1⟩
structure BSt (w : World) (p : MPlan) (v : PVals) (W : World) : Prop where
  box : W.heap[w.heap.size]? = some (.cells (planArr p v) 30 (0, 0))
  res : W.heap[w.heap.size + 1]? = some (.cells zeroPlan 30 (0, 0))
  below : Below w.heap.size w W
theorem BSt.kept {w : World} {p : MPlan} {v : PVals} {W W' : World} {row : Option Nat} (h : BSt w p v W) (hg : W.grownBy W' row) (hr : ∀ k, row = some k → w.heap.size + 1 < k) : BSt w p v W' :=
  ⟨(hg.block _ (lt_of_block h.box) (fun e => by have := hr _ e.symm; omega)).trans h.box, (hg.block _ (lt_of_block h.res) (fun e => by have := hr _ e.symm; omega)).trans h.res, h.below.grown hg h.below.size (fun k hk => by have := hr k hk; omega)⟩
theorem BSt.later {w : World} {p : MPlan} {v : PVals} {W W' : World} (h : BSt w p v W) (hb : Below W.heap.size W W') : BSt w p v W' := h.kept (below_off hb) (fun _ hk => by cases hk)
theorem BSt.set {w : World} {p : MPlan} {v v' : PVals} {W : World} (h : BSt w p v W) (j : Nat) (x : Value) (ha : (planArr p v).setIfInBounds j x = planArr p v') : BSt w p v' (W.setCell ⟨w.heap.size, j, none⟩ x) :=
  ⟨by rw [heap_setCell h.box, ha], (heap_setCell_other' (by omega) _).trans h.res, h.below.setCell (p := ⟨w.heap.size, j, none⟩) (Nat.le_refl _) _⟩
theorem BSt.free {w : World} {p : MPlan} {v : PVals} {W : World} (h : BSt w p v W) (j : Nat) : W.frozen? ⟨w.heap.size, j, none⟩ = false := by simp [World.frozen?, h.box]
theorem BSt.lt {w : World} {p : MPlan} {v : PVals} {W : World} (h : BSt w p v W) : w.heap.size + 1 < W.heap.size := lt_of_block h.res
/-- 'append([]T{}, x...)': behind it. -/
theorem made_app {w W W' : World} {p : MPlan} {v : PVals} (h : BSt w p v W) {t : TypeId} (hg : (W.alloc (.cells #[] t)).grownBy W' (Value.slice (some ⟨W.heap.size, 0, none⟩) 0 0).ownBlock) : BSt w p v W' ∧ W.grownBy W' (some W.heap.size) := by
  have h1 : W.grownBy W' (some W.heap.size) := ((World.grownBy_alloc W (.cells #[] t) none).but _).andThen hg fun j hj => .inr hj
  exact ⟨h.kept h1 (fun k hk => by obtain rfl := Option.some.inj hk; exact h.lt), h1⟩
theorem off_new (W : World) (B : Nat) (t : TypeId) : Off W B t (some W.heap.size) := fun k hk => .inr (.inl (by obtain rfl := Option.some.inj hk; exact Nat.le_refl _))
theorem set_own {w W : World} {p : MPlan} {v : PVals} (h : BSt w p v W) {t : TypeId} {k : Nat} {x : Value} {n : Nat} {xs : List Value} (ho : W.ownsRow w.heap.size t k x n xs) (ht : 30 ≠ t) (j : Nat) (y : Value) : (W.setCell ⟨w.heap.size, j, none⟩ y).ownsRow w.heap.size t k x n xs := own_off ho (grown_set _ _ _ _) (Off.block h.box ht)
theorem set_sh {w W : World} {p : MPlan} {v : PVals} (h : BSt w p v W) {x : Value} {l : List (List Int)} (ho : OwnSh w.heap.size W x l) (j : Nat) (y : Value) : OwnSh w.heap.size (W.setCell ⟨w.heap.size, j, none⟩ y) x l := ho.kept (grown_set _ _ _ _) (Off.block h.box (by decide)) (Off.block h.box (by decide))
theorem sh_later {w W W' : World} {x : Value} {l : List (List Int)} (ho : OwnSh w.heap.size W x l) (hb : Below W.heap.size W W') : OwnSh w.heap.size W' x l := ho.kept (below_off hb) (Off.none _ _ _) (Off.none _ _ _)
theorem own_later {w W W' : World} {t : TypeId} {k : Nat} {x : Value} {n : Nat} {xs : List Value} (ho : W.ownsRow w.heap.size t k x n xs) (hb : Below W.heap.size W W') : W'.ownsRow w.heap.size t k x n xs := own_off ho (below_off hb) (Off.none _ _ _)
theorem ocells_take (l : List MOp) (m : Nat) : ocells (l.take m) = (ocells l).take (m * 6) := by
  induction l generalizing m with
  | nil => simp [ocells]
  | cons o l ih =>
    cases m with
    | zero => simp [ocells]
    | succ m =>
      have e : (m + 1) * 6 = m * 6 + 6 := by omega
      have := ih m
      simp only [ocells] at this
      rw [e]
      simp [ocells, MOp.cells, this]
theorem ocells_one (l : List MOp) : ∀ u ∈ ocells l, u.oneCell' = true := by
  intro u hu
  simp only [ocells, List.mem_flatMap] at hu
  obtain ⟨o, _, hu⟩ := hu
  simp only [List.mem_cons, List.not_mem_nil, or_false] at hu
  rcases hu with rfl | rfl | rfl | rfl | rfl | rfl <;> rfl
theorem info_planP {p : MPlan} {v : PVals} : (Tryz.prog.info? 30).map (·.size) = some (planArr p v).size := by rw [info_plan]; rfl
theorem ite_cap (n : Nat) (M : Nat) (h : M = min n 3000) : (if (3000 : Int) < (n : Int) then (3000 : Int) else (n : Int)) = (M : Int) := by
  subst h; split <;> omega

set_option maxHeartbeats 8000000 in
set_option maxRecDepth 100000 in
theorem own_any (p : MPlan) (v : PVals) (w : World) (h : PlanIn w.heap.size w p v) :
    Calls Tryz.prog 7 #[.agg (planArr p v)] w fun e w' => ∃ u, e = .returned (.agg (planArr (cutPlan p) u)) ∧ PlanOwn w.heap.size w' (cutPlan p) u ∧ Below w.heap.size w w' := by
  obtain ⟨vo, vsl, vsh, v0, v1⟩ := v
  obtain ⟨ao, cc, hvo, hcc, hm, -, -⟩ := h.ops.open
  obtain ⟨ao2, cc2, hvo2, hcc2, hm2, -, -⟩ := h.slots.open
  simp only at hvo hvo2
  subst hvo hvo2
  have HP := Lib.hid h
  have HS := Lib.hid (show BSt w p ⟨.slice ao p.ops.length cc, .slice ao2 p.slots.length cc2, vsh, v0, v1⟩ ((w.alloc (.cells (planArr p ⟨.slice ao p.ops.length cc, .slice ao2 p.slots.length cc2, vsh, v0, v1⟩) 30)).alloc (.cells zeroPlan 30)) from ⟨heap_alloc2_old _ _ _, heap_alloc2_new _ _ _, below_alloc2 _ _ _⟩)
  obtain ⟨M1, hM1⟩ : ∃ M, M = min p.ops.length 3000 := ⟨_, rfl⟩
  obtain ⟨M2, hM2⟩ : ∃ M, M = min p.slots.length 3000 := ⟨_, rfl⟩
  have hi1 := ite_cap p.ops.length M1 hM1
  have hi2 := ite_cap p.slots.length M2 hM2
  have hA1 : Arr w.heap.size w 6 (.slice ao M1 cc) M1 (ocells (p.ops.take 3000)) := by
    have h1 := h.ops
    have := Arr.take h1 M1 (by omega)
    rw [← ocells_take, show p.ops.take M1 = p.ops.take 3000 by rw [hM1, List.take_eq_take_iff]; omega] at this
    exact this
  have hA2 : Arr w.heap.size w 1 (.slice ao2 M2 cc2) M2 (ints (p.slots.take 3000)) := by
    have h1 := h.slots
    have := Arr.take h1 M2 (by omega)
    rw [show (ints p.slots).take (M2 * 1) = ints (p.slots.take 3000) by rw [Nat.mul_one, show p.slots.take 3000 = p.slots.take M2 by rw [hM2, List.take_eq_take_iff]; omega]; simp [ints, List.map_take]] at this
    exact this
  have HA1 := Lib.hid hA1
  have HA2 := Lib.hid hA2
  have HL1 := Lib.hid (show (p.ops.take 3000).length = M1 by rw [List.length_take, hM1]; omega)
  have HL2 := Lib.hid (show (p.slots.take 3000).length = M2 by rw [List.length_take, hM2]; omega)
  have hb1 : M1 ≤ 3000 := by omega
  have hb2 : M2 ≤ 3000 := by omega
  have hc1 : M1 ≤ cc := by omega
  have hc2 : M2 ≤ cc2 := by omega
  unfold maxLen at hm hm2
  clear h hA1 hA2 hM1 hM2
  simp only [planArr] at HS ⊢
  simp only [zeroPlan] at HS
  go_enter Tryz.func7, Tryz.ntmps7
  go_upto_region 1 with fail
  generalize World.alloc (World.alloc w _) _ = W0 at HS ⊢
  have HS1 := HS
  clear HS
  obtain ⟨⟨c0, c1, c2, c3, c4⟩, ⟨c5, c6, c7, c8, c9, c10, c11, c12⟩, c13, c14, c15⟩ := plan_cells HS1.out.box
  simp only at c0 c3 c13 c14 c15
  have hlt1 : w.heap.size < W0.heap.size := by have := HS1.out.lt; omega
  go_upto_region 2 with (at_builtin; refine app_arr rfl _ _ 22 rfl 44 _ 6 48 Tryz.underlying22 info_opz rfl (by decide) 0 M1 w.heap.size w.heap.size (.slice (some ⟨W0.heap.size, 0, none⟩) 0 0) (.slice ao M1 cc) [] _ (World.ownsRow_made W0 #[] 0 HS1.out.below.size (by unfold maxLen; omega) rfl) (HA1.out.later (HS1.out.below.alloc HS1.out.below.size _) (Nat.le_refl _)) rfl rfl (ocells_one _) (by rw [World.size_alloc]; have := HS1.out.below.size; omega) (by omega) (by unfold maxLen; omega) ?_; intro u1 w1 ho hg _; rw [Nat.zero_add] at ho; obtain ⟨xa1, xc1, rfl, -⟩ := own_open ho; have HB1 := Lib.hid (made_app HS1.out hg); have HO1 := Lib.hid ho; have f1 := HB1.out.1.free 0; obtain ⟨⟨d0, d1, d2, d3, d4⟩, ⟨d5, d6, d7, d8, d9, d10, d11, d12⟩, d13, d14, d15⟩ := plan_cells HB1.out.1.box; simp only at d0 d3 d13 d14 d15; clear ho hg c0 c1 c2 c3 c4 c5 c6 c7 c8 c9 c10 c11 c12 c13 c14 c15)
  have HS2 := Lib.hid (HB1.out.1.set (v' := ⟨.slice xa1 M1 xc1, .slice ao2 p.slots.length cc2, vsh, v0, v1⟩) 0 (.slice xa1 M1 xc1) rfl)
  have HQ1 := Lib.hid (set_own HB1.out.1 HO1.out (by decide) 0 (.slice xa1 M1 xc1))
  clear d0 d1 d2 d3 d4 d5 d6 d7 d8 d9 d10 d11 d12 d13 d14 d15 f1 HS1 HB1 HO1
  generalize World.setCell w1 _ _ = W1 at HS2 HQ1 ⊢
  obtain ⟨⟨c0, c1, c2, c3, c4⟩, ⟨c5, c6, c7, c8, c9, c10, c11, c12⟩, c13, c14, c15⟩ := plan_cells HS2.out.box
  simp only at c0 c3 c13 c14 c15
  have hlt2 : w.heap.size < W1.heap.size := by have := HS2.out.lt; omega
  go_upto_region 3 with (at_builtin; refine app_arr rfl _ _ 24 rfl 3 _ 1 8 Tryz.underlying24 info_int rfl (by decide) 0 M2 w.heap.size w.heap.size (.slice (some ⟨W1.heap.size, 0, none⟩) 0 0) (.slice ao2 M2 cc2) [] _ (World.ownsRow_made W1 #[] 0 HS2.out.below.size (by unfold maxLen; omega) rfl) (HA2.out.later (HS2.out.below.alloc HS2.out.below.size _) (Nat.le_refl _)) rfl rfl (ints_one _) (by rw [World.size_alloc]; have := HS2.out.below.size; omega) (by omega) (by unfold maxLen; omega) ?_; intro u2 w2 ho hg _; rw [Nat.zero_add] at ho; obtain ⟨xa2, xc2, rfl, -⟩ := own_open ho; have HB2 := Lib.hid (made_app HS2.out hg); have HO2 := Lib.hid ho; have f2 := HB2.out.1.free 3; obtain ⟨⟨d0, d1, d2, d3, d4⟩, ⟨d5, d6, d7, d8, d9, d10, d11, d12⟩, d13, d14, d15⟩ := plan_cells HB2.out.1.box; simp only at d0 d3 d13 d14 d15; clear ho hg c0 c1 c2 c3 c4 c5 c6 c7 c8 c9 c10 c11 c12 c13 c14 c15)
  have HS3 := Lib.hid (HB2.out.1.set (v' := ⟨.slice xa1 M1 xc1, .slice xa2 M2 xc2, vsh, v0, v1⟩) 3 (.slice xa2 M2 xc2) rfl)
  have HQ2 := Lib.hid (set_own HB2.out.1 HO2.out (by decide) 3 (.slice xa2 M2 xc2))
  have HQ1' := Lib.hid (set_own HB2.out.1 (own_off HQ1.out HB2.out.2 (off_new _ _ _)) (by decide) 3 (.slice xa2 M2 xc2))
  clear d0 d1 d2 d3 d4 d5 d6 d7 d8 d9 d10 d11 d12 d13 d14 d15 f2 HS2 HB2 HO2 HQ1
  generalize World.setCell w2 _ _ = W2 at HS3 HQ1' HQ2 ⊢
  obtain ⟨⟨c0, c1, c2, c3, c4⟩, ⟨c5, c6, c7, c8, c9, c10, c11, c12⟩, c13, c14, c15⟩ := plan_cells HS3.out.box
  simp only at c0 c3 c13 c14 c15
  go_upto_region 4 with (go_at_call 18; go_must (refine (lawShapes_any _ p.shapes _ (HP.out.shapes.later HS3.out.below HS3.out.below.size)).mono ?_; rintro e w3 ⟨u3, rfl, ho, hb⟩; obtain ⟨xa3, xc3, rfl⟩ := ho.form; have HB3 := Lib.hid (HS3.out.later hb); have HO3 := Lib.hid (ho.base HS3.out.below.size); have HQ1 := Lib.hid (own_later HQ1'.out hb); have HQ3 := Lib.hid (own_later HQ2.out hb); have f3 := HB3.out.free 13; obtain ⟨⟨d0, d1, d2, d3, d4⟩, ⟨d5, d6, d7, d8, d9, d10, d11, d12⟩, d13, d14, d15⟩ := plan_cells HB3.out.box; simp only at d0 d3 d13 d14 d15; clear ho hb HQ1' HQ2 c0 c1 c2 c3 c4 c5 c6 c7 c8 c9 c10 c11 c12 c13 c14 c15))
  have HS4 := Lib.hid (HB3.out.set (v' := ⟨.slice xa1 M1 xc1, .slice xa2 M2 xc2, .slice xa3 (cutSh p.shapes).length xc3, v0, v1⟩) 13 (.slice xa3 (cutSh p.shapes).length xc3) rfl)
  have HR1 := Lib.hid (set_own HB3.out HQ1.out (by decide) 13 (.slice xa3 (cutSh p.shapes).length xc3))
  have HR2 := Lib.hid (set_own HB3.out HQ3.out (by decide) 13 (.slice xa3 (cutSh p.shapes).length xc3))
  have HR3 := Lib.hid (set_sh HB3.out HO3.out 13 (.slice xa3 (cutSh p.shapes).length xc3))
  clear d0 d1 d2 d3 d4 d5 d6 d7 d8 d9 d10 d11 d12 d13 d14 d15 f3 HS3 HB3 HO3 HQ1 HQ3
  generalize World.setCell w3 _ _ = W3 at HS4 HR1 HR2 HR3 ⊢
  have HS5 := Lib.hid (HS4.out.later (Below.refl _ _).drew)
  obtain ⟨⟨c0, c1, c2, c3, c4⟩, ⟨c5, c6, c7, c8, c9, c10, c11, c12⟩, c13, c14, c15⟩ := plan_cells HS4.out.box
  simp only at c0 c3 c13 c14 c15
  clear c0 c1 c2 c3 c4 c5 c6 c7 c8 c9 c10 c11 c12 c13
  go_cut [27] from 27 to 36 (fun s27 wx => ∃ (xa4 : Option Addr) (xc4 : Nat) (xa5 : Option Addr) (xc5 : Nat), Hid (BSt w p ⟨.slice xa1 M1 xc1, .slice xa2 M2 xc2, .slice xa3 (cutSh p.shapes).length xc3, .slice xa4 (cutSh p.in0).length xc4, .slice xa5 (cutSh p.in1).length xc5⟩ wx) ∧ Hid (PlanOwn w.heap.size wx (cutPlan p) ⟨.slice xa1 M1 xc1, .slice xa2 M2 xc2, .slice xa3 (cutSh p.shapes).length xc3, .slice xa4 (cutSh p.in0).length xc4, .slice xa5 (cutSh p.in1).length xc5⟩))
  case first =>
    first | (go_region_with (first | ((with_reducible show Calls _ _ #[v0] _ _); go_at_call 18; refine (lawShapes_any _ p.in0 _ (HP.out.in0.later HS5.out.below HS5.out.below.size)).mono ?_; rintro e w4 ⟨u4, rfl, ho, hb⟩; obtain ⟨xa4, xc4, rfl⟩ := ho.form; have HB4 := Lib.hid (HS5.out.later hb); have HO4 := Lib.hid (ho.base HS5.out.below.size); have HT1 := Lib.hid (own_later (own_later HR1.out (Below.refl _ _).drew) hb); have HT2 := Lib.hid (own_later (own_later HR2.out (Below.refl _ _).drew) hb); have HT3 := Lib.hid (sh_later (sh_later HR3.out (Below.refl _ _).drew) hb); have e15 := (plan_cells HB4.out.box).2.2.2.2; simp only at e15; clear ho hb) | ((with_reducible show Calls _ _ #[v1] _ _); go_at_call 18; refine (lawShapes_any _ p.in1 _ (HP.out.in1.later HB4.out.below HB4.out.below.size)).mono ?_; rintro e w5 ⟨u5, rfl, ho, hb⟩; obtain ⟨xa5, xc5, rfl⟩ := ho.form; have HB5 := Lib.hid (HB4.out.later hb); have HO5 := Lib.hid (ho.base HB4.out.below.size); have HV1 := Lib.hid (own_later HT1.out hb); have HV2 := Lib.hid (own_later HT2.out hb); have HV3 := Lib.hid (sh_later HT3.out hb); have HV4 := Lib.hid (sh_later HO4.out hb); have g14 := (plan_cells HB5.out.box).2.2.2.1; have g15 := (plan_cells HB5.out.box).2.2.2.2; have f14 := HB5.out.free 14; have f15 := HB5.out.free 15; simp only at g14 g15; clear ho hb))) | (fail "region")
    all_goals
      go_wp2_with fail
      go_meet
      have hb1 := HB5.out.set (v' := ⟨.slice xa1 M1 xc1, .slice xa2 M2 xc2, .slice xa3 (cutSh p.shapes).length xc3, .slice xa4 (cutSh p.in0).length xc4, v1⟩) 14 (.slice xa4 (cutSh p.in0).length xc4) rfl
      refine ⟨xa4, xc4, xa5, xc5, hb1.set 15 _ rfl, ?_, ?_, ?_, ?_, ?_⟩
      · show World.ownsRow _ w.heap.size _ 6 (.slice xa1 M1 xc1) (p.ops.take 3000).length (ocells (p.ops.take 3000))
        rw [HL1.out]; exact set_own hb1 (set_own HB5.out HV1.out (by decide) 14 _) (by decide) 15 (.slice xa5 (cutSh p.in1).length xc5)
      · show World.ownsRow _ w.heap.size _ 1 (.slice xa2 M2 xc2) (p.slots.take 3000).length (ints (p.slots.take 3000))
        rw [HL2.out]; exact set_own hb1 (set_own HB5.out HV2.out (by decide) 14 _) (by decide) 15 (.slice xa5 (cutSh p.in1).length xc5)
      · exact set_sh hb1 (set_sh HB5.out HV3.out 14 _) 15 _
      · exact set_sh hb1 (set_sh HB5.out HV4.out 14 _) 15 _
      · exact set_sh hb1 (set_sh HB5.out HO5.out 14 _) 15 _
  case rest =>
    obtain ⟨xa4, xc4, xa5, xc5, HF, HPO⟩ := hcut
    clear c14 c15 HS4 HS5 HR1 HR2 HR3
    go_wp2_with (first | ((with_reducible show wpList _ _ _ (⟨some 37, Op.load 30 _, _, _, _, _⟩ :: _) _ _); go_must (refine wpList_load_row rfl 30 _ rfl w.heap.size rfl _ (planArr p ⟨.slice xa1 M1 xc1, .slice xa2 M2 xc2, .slice xa3 (cutSh p.shapes).length xc3, .slice xa4 (cutSh p.in0).length xc4, .slice xa5 (cutSh p.in1).length xc5⟩) _ _ HF.out.box Tryz.underlying30 rfl info_planP ?_)) | ((with_reducible show wpList _ _ _ (⟨_, Op.store 30 (.tmp 2) _, _, _, _, _⟩ :: _) _ _); go_must (refine wpList_store_row rfl 30 _ _ rfl (w.heap.size + 1) (planArr p ⟨.slice xa1 M1 xc1, .slice xa2 M2 xc2, .slice xa3 (cutSh p.shapes).length xc3, .slice xa4 (cutSh p.in0).length xc4, .slice xa5 (cutSh p.in1).length xc5⟩) rfl rfl 30 _ HF.out.res info_planP rfl (by simp [Value.oneCell', planArr]) ?_)))
    refine bodyPost_ret (results_cell_row rfl _ _ (w.heap.size + 1) 30 (planArr p ⟨.slice xa1 M1 xc1, .slice xa2 M2 xc2, .slice xa3 (cutSh p.shapes).length xc3, .slice xa4 (cutSh p.in0).length xc4, .slice xa5 (cutSh p.in1).length xc5⟩) _ _ rfl (setRow_heap _ _ _ _ _ _ HF.out.res) Tryz.underlying30 rfl info_planP) rfl ?_
    exact ⟨⟨.slice xa1 M1 xc1, .slice xa2 M2 xc2, .slice xa3 (cutSh p.shapes).length xc3, .slice xa4 (cutSh p.in0).length xc4, .slice xa5 (cutSh p.in1).length xc5⟩, rfl, HPO.out.kept (grown_setRow _ _ _) (Off.block HF.out.res (by decide)) (Off.block HF.out.res (by decide)) (Off.block HF.out.res (by decide)), below_setRow HF.out.below (Nat.le_succ _) _⟩
end Go.Proofs.YtjbhgimhcjcpmaaGreatDoor
