/-
  THE CONTRACT of code's cutter: shapes.
-/
import Derived.Test.YtjbhgimhcjcpmaaGreatDoorMCut
set_option linter.unusedSimpArgs false
set_option linter.unusedVariables false
namespace Go.Proofs.YtjbhgimhcjcpmaaGreatDoor
open Go.RowKit

theorem Cut.off {w : World} {Bc : Nat} {bs : List Nat} {W : World} (h : Cut w Bc bs W) (B : Nat) {t : TypeId} (ht : 72 ≠ t) : Off W B t (some Bc) := by
  obtain ⟨sv, hb, _⟩ := h.box
  exact Off.block hb ht
theorem Cut.kept_own {w : World} {Bc : Nat} {bs : List Nat} {W W' : World} (h : Cut w Bc bs W) {b : Nat} {t : TypeId} {k : Nat} {v : Value} {n : Nat} {xs : List Value} (ho : W.ownsRow b t k v n xs) (hb : w.heap.size ≤ b) (ht : t ≠ 72) (hg : W.grownBy W' v.ownBlock) : Cut w Bc bs W' := by
  refine h.kept hg fun g hv => ⟨Nat.le_trans hb (ho.lt g hv).1, ?_⟩
  rintro rfl
  obtain ⟨sv, hbx, _⟩ := h.box
  rcases ho.2 with ⟨rfl, _⟩ | ⟨g', cap, cur, rfl, _, hb', _⟩
  · cases hv
  · obtain rfl : g' = g := by simpa [Value.ownBlock] using hv
    rw [hb'] at hbx; cases hbx; exact ht rfl

theorem grown_set (W : World) (b j : Nat) (x : Value) : W.grownBy (W.setCell ⟨b, j, none⟩ x) (some b) :=
  ⟨rfl, rfl, rfl, by simp, fun k _ hk => heap_setCell_other' (fun e => hk (by rw [e])) _⟩
theorem Cut.later {w : World} {Bc : Nat} {bs : List Nat} {W W' : World} (h : Cut w Bc bs W) (hb : Below W.heap.size W W') : Cut w Bc bs W' := h.kept (below_off hb) (fun _ hk => by cases hk)

theorem pNums_none {n m : Nat} {r0 rest : List Nat} {pre : List Int} (h : pNums n r0 = (pNums (m + 1) rest).map fun y => (pre ++ y.1, y.2)) (hn : pNum rest = none) : pNums n r0 = none := by
  rw [h, pNums, hn]; rfl
theorem pNums_some {n m d : Nat} {r0 rest r2 : List Nat} {pre : List Int} (h : pNums n r0 = (pNums (m + 1) rest).map fun y => (pre ++ y.1, y.2)) (hn : pNum rest = some (d, r2)) : pNums n r0 = (pNums m r2).map fun y => (pre ++ [(d : Int)] ++ y.1, y.2) := by
  rw [h, pNums, hn]
  simp only [Option.bind_some]
  rcases pNums m r2 with _ | y
  · rfl
  · simp
theorem pShapeN_none {n m : Nat} {r0 rest : List Nat} {pre : List (List Int)} (h : pShapeN n r0 = (pShapeN (m + 1) rest).map fun y => (pre ++ y.1, y.2)) (hn : pShape rest = none) : pShapeN n r0 = none := by
  rw [h, pShapeN, hn]; rfl
theorem pShapeN_some {n m : Nat} {r0 rest r2 : List Nat} {d : List Int} {pre : List (List Int)} (h : pShapeN n r0 = (pShapeN (m + 1) rest).map fun y => (pre ++ y.1, y.2)) (hn : pShape rest = some (d, r2)) : pShapeN n r0 = (pShapeN m r2).map fun y => (pre ++ [d] ++ y.1, y.2) := by
  rw [h, pShapeN, hn]
  simp only [Option.bind_some]
  rcases pShapeN m r2 with _ | y
  · rfl
  · simp

set_option maxHeartbeats 4000000 in
set_option maxRecDepth 100000 in
theorem cutShapes_any (w : World) (Bc : Nat) (bs : List Nat) (W : World) (h : Cut w Bc bs W) :
    Calls Tryz.prog 30 #[.pointer (some ⟨Bc, 0, none⟩)] W (CutPost w Bc W (pShapes bs) fun l e W' => ∃ v, e = .returned v ∧ OwnSh W.heap.size W' v l) := by
  have HC := Lib.hid h
  have hws := h.below.size
  rcases hp : pCount bs with _ | ⟨n, r0⟩
  · have HN := Lib.hid hp
    have HS := Lib.hid (show pShapes bs = none by rw [pShapes, hp]; rfl)
    clear h hp
    go_enter Tryz.func30, Tryz.ntmps30
    go_wp2_with (go_at_call 31; go_must (refine (cutCount_no w Bc bs _ HC.out HN.out).mono ?_; rintro e w1 ⟨⟨n1, hn1, rfl⟩, hg1⟩; have HG1 := Lib.hid hg1; clear hg1))
    exact ⟨rfl, by unfold CutPost; rw [HS.out]; exact ⟨⟨n1, hn1, rfl⟩, HG1.out⟩⟩
  · have HN := Lib.hid hp
    have HS := Lib.hid (show pShapes bs = pShapeN n r0 by rw [pShapes, hp]; rfl)
    have hnle := (pCount_some hp).2
    clear h hp
    go_enter Tryz.func30, Tryz.ntmps30
    go_wp2_with (go_at_call 31; go_must (refine (cutCount_yes w Bc bs r0 n _ HC.out HN.out).mono ?_; rintro e w1 ⟨rfl, hc1, hg1⟩; have HG1 := Lib.hid hg1; have HC1 := Lib.hid hc1; clear hg1 hc1))
    have hn6 := HC1.out.small
    go_loopg [3, 7] n (fun g x i wr => ∃ (k : Nat) (pre : List (List Int)) (rest : List Nat), k ≤ n ∧ g = n - k ∧ i = .int .i64 k ∧ Hid (pShapeN n r0 = (pShapeN (n - k) rest).map fun y => (pre ++ y.1, y.2)) ∧ Hid (pre.length = k) ∧ Hid (OwnSh W.heap.size wr x pre) ∧ Hid (Cut w Bc rest wr) ∧ Hid (W.grownBy wr (some Bc)))
    case atStart => exact ⟨0, [], r0, Nat.zero_le _, rfl, rfl, (by unfold Hid; rcases pShapeN n r0 with _ | y <;> simp), rfl, OwnSh.nil _ _, HC1.out, HG1.out⟩
    case round =>
      obtain ⟨k, pre, rest, hk, hg, rfl, HP, HL, HO, HCr, HGr⟩ := hrel
      clear HC1 HG1
      by_cases hkn : k < n
      · obtain ⟨q, hq⟩ : ∃ q, n - k = q + 1 := ⟨n - k - 1, by omega⟩
        have HQ := Lib.hid hq
        clear hq
        rcases hp2 : pCount rest with _ | ⟨m, r1⟩
        · have HN2 := Lib.hid hp2
          have HS2 := Lib.hid (show pShapes bs = none by
            have h1 := HP.out
            rw [HQ.out] at h1
            rw [HS.out]
            exact pShapeN_none h1 (by rw [pShape, hp2]; rfl))
          clear hp2
          go_wp2_with (go_at_call 31; go_must (refine (cutCount_no w Bc rest _ HCr.out HN2.out).mono ?_; rintro e w2 ⟨⟨n1, hn1, rfl⟩, hg2⟩; have HG2 := Lib.hid hg2; clear hg2))
          exact ⟨rfl, by unfold CutPost; rw [HS2.out]; exact ⟨⟨n1, hn1, rfl⟩, HGr.out.andThen HG2.out fun j hj => .inr hj⟩⟩
        · have HN2 := Lib.hid hp2
          have hmle := (pCount_some hp2).2
          have HSh := Lib.hid (show pShape rest = pNums m r1 by rw [pShape, hp2]; rfl)
          clear hp2
          go_wp2_with (go_at_call 31; go_must (refine (cutCount_yes w Bc rest r1 m _ HCr.out HN2.out).mono ?_; rintro e w2 ⟨rfl, hc2, hg2⟩; have HG2 := Lib.hid hg2; have HC2 := Lib.hid hc2; have HO2 := Lib.hid (HO.out.kept hg2 (HCr.out.off _ (by decide)) (HCr.out.off _ (by decide))); clear hg2 hc2))
          have hm6 := HC2.out.small
          have hw2 := HC2.out.below.size
          have hW2 := Nat.le_trans HGr.out.size HG2.out.size
          go_loopg [4, 11] m (fun g x i wq => ∃ (j : Nat) (pr2 : List Int) (rest2 : List Nat), j ≤ m ∧ g = m - j ∧ i = .int .i64 j ∧ Hid (pNums m r1 = (pNums (m - j) rest2).map fun y => (pr2 ++ y.1, y.2)) ∧ Hid (pr2.length = j) ∧ Hid (wq.ownsRow w2.heap.size 3 1 x j (ints pr2)) ∧ Hid (Cut w Bc rest2 wq) ∧ Hid (w2.grownBy wq (some Bc)))
          case atStart => exact ⟨0, [], r1, Nat.zero_le _, rfl, rfl, (by unfold Hid; rcases pNums m r1 with _ | y <;> simp), rfl, World.ownsRow_nil _ _ _ _, HC2.out, World.grownBy.refl _ _⟩
          case round =>
            obtain ⟨j, pr2, rest2, hj, hg2, rfl, HP2, HL2, HOq, HCq, HGq⟩ := hrel
            by_cases hjm : j < m
            · obtain ⟨q2, hq2⟩ : ∃ q2, m - j = q2 + 1 := ⟨m - j - 1, by omega⟩
              have HQ2 := Lib.hid hq2
              clear hq2
              rcases hp3 : pNum rest2 with _ | ⟨d, r2⟩
              · have HN3 := Lib.hid hp3
                have HS2 := Lib.hid (show pShapes bs = none by
                  have h1 := HP.out
                  rw [HQ.out] at h1
                  have h2 := HP2.out
                  rw [HQ2.out] at h2
                  rw [HS.out]
                  exact pShapeN_none h1 (by rw [HSh.out]; exact pNums_none h2 hp3))
                clear hp3
                go_wp2_with (go_at_call 29; go_must (refine (cutNumber_no w Bc rest2 _ HCq.out HN3.out).mono ?_; rintro e w3 ⟨⟨n1, hn1, rfl⟩, rfl⟩))
                exact ⟨rfl, by unfold CutPost; rw [HS2.out]; exact ⟨⟨n1, hn1, rfl⟩, (HGr.out.andThen HG2.out fun j hj => .inr hj).andThen HGq.out fun j hj => .inr hj⟩⟩
              · have HN3 := Lib.hid hp3
                have HP3 := Lib.hid (show pNums m r1 = (pNums (m - (j + 1)) r2).map fun y => (pr2 ++ [(d : Int)] ++ y.1, y.2) by
                  have h2 := HP2.out
                  rw [HQ2.out] at h2
                  have := pNums_some h2 hp3
                  rw [show m - (j + 1) = q2 by have := HQ2.out; omega]; exact this)
                clear hp3
                have hsq := HGq.out.size
                go_wp2_with (first | (go_at_call 29; go_must (refine (cutNumber_yes w Bc rest2 r2 d _ HCq.out HN3.out).mono ?_; rintro e w3 ⟨rfl, hc3, hg3⟩; have HG3 := Lib.hid hg3; have HC3 := Lib.hid hc3; have ho3 := own_off HOq.out hg3 (HCq.out.off _ (by decide)); have hs3 := hg3.size; clear hg3 hc3)) | (at_builtin; refine app_k rfl _ _ 24 rfl 3 (.int .i64 0) 1 8 Tryz.underlying24 info_int rfl (by decide) #[_] _ _ _ _ ho3 rfl rfl rfl (by intro u hu; simp at hu; subst hu; rfl) (by omega) (by omega) (by unfold maxLen; omega) ?_; intro v4 w4 ho4 hg4 _))
                go_roundg (m - (j + 1))
                case measure => omega
                case rel =>
                  refine ⟨j + 1, pr2 ++ [(d : Int)], r2, by omega, rfl, by go_num, HP3.out, (by unfold Hid; simp [HL2.out]), ?_, ?_, ?_⟩
                  · rw [ints_append]; exact ho4
                  · exact HC3.out.kept_own ho3 hw2 (by decide) hg4
                  · exact (HGq.out.andThen HG3.out fun j hj => .inr hj).andThen hg4 fun g hg => .inl (ho3.lt g hg).1
            · obtain rfl : j = m := by omega
              have HSh2 := Lib.hid (show pShape rest = some (pr2, rest2) by
                have h2 := HP2.out
                rw [Nat.sub_self] at h2
                rw [HSh.out, h2]; simp [pNums])
              have HP3 := Lib.hid (show pShapeN n r0 = (pShapeN (n - (k + 1)) rest2).map fun y => (pre ++ [pr2] ++ y.1, y.2) by
                have h1 := HP.out
                rw [HQ.out] at h1
                have := pShapeN_some h1 HSh2.out
                rw [show n - (k + 1) = q by have := HQ.out; omega]; exact this)
              obtain ⟨vs, hvo, hvn⟩ := HO2.out.kept HGq.out (HC2.out.off _ (by decide)) (HC2.out.off _ (by decide))
              have hvl : vs.length ≤ 1000000 := by have := hvn.length; have := HL.out; omega
              have hsq := HGq.out.size
              obtain ⟨sa, sc, rfl, _⟩ := own_open HOq.out
              have HVN := Lib.hid hvn
              have HSL := Lib.hid (show ints pr2 = ints pr2 ∧ pr2.length = j from ⟨rfl, HL2.out⟩)
              clear hvn
              go_wp2_with (at_builtin; refine app_k rfl _ _ 27 rfl 24 (.slice none 0 0) 1 24 Tryz.underlying27 info_ints rfl (by decide) #[_] _ _ _ _ hvo rfl rfl rfl (by intro u hu; simp at hu; subst hu; rfl) (by omega) (by omega) (by unfold maxLen; omega) ?_; intro v5 w5 ho5 hg5 _)
              go_roundg (n - (k + 1))
              case measure => omega
              case rel =>
                refine ⟨k + 1, pre ++ [pr2], rest2, by omega, rfl, by go_num, HP3.out, (by unfold Hid; simp [HL.out]), ?_, ?_, ?_⟩
                · refine ⟨vs ++ [.slice sa j sc], by simpa using ho5, (HVN.out.kept hg5 (Off.owned hvo (by decide))).append ⟨?_, trivial⟩⟩
                  have h1 := own_off HOq.out hg5 (Off.owned hvo (by decide))
                  rw [HSL.out.2]
                  exact owns_base h1 hW2
                · exact HCq.out.kept_own hvo hws (by decide) hg5
                · exact ((HGr.out.andThen HG2.out fun j hj => .inr hj).andThen HGq.out fun j hj => .inr hj).andThen hg5 fun g hg => .inl (hvo.lt g hg).1
      · obtain rfl : k = n := by omega
        have HS2 := Lib.hid (show pShapes bs = some (pre, rest) by
          have h1 := HP.out
          rw [Nat.sub_self] at h1
          rw [HS.out, h1]; simp [pShapeN])
        go_wp2_with fail
        go_ret
        unfold CutPost
        rw [HS2.out]
        exact ⟨⟨_, rfl, HO.out⟩, HCr.out, HGr.out⟩
end Go.Proofs.YtjbhgimhcjcpmaaGreatDoor
