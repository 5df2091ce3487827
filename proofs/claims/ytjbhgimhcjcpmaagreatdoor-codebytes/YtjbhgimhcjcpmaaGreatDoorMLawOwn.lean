/-
  THE CONTRACTS of twainlaw18.shapes, twainlaw18.Own.
-/
import Derived.Test.YtjbhgimhcjcpmaaGreatDoorMDecSt
import Derived.Test.YtjbhgimhcjcpmaaGreatDoorMRefSame1
import Derived.Test.YtjbhgimhcjcpmaaGreatDoorMStepApp
import Derived.Deep.RegionLaw
import Derived.Deep.RegionHeld3
import Derived.Deep.LoopGhost
set_option linter.unusedSimpArgs false
set_option linter.unusedVariables false
namespace Go.Proofs.YtjbhgimhcjcpmaaGreatDoor
open Go.RowKit

/-- Shapes, not too many and not too long. -/
def cutSh (l : List (List Int)) : List (List Int) := (l.take 100).map (·.take 5)
/-- A plan that is handed in, not too large for a machine. -/
structure PlanIn (B : Nat) (w : World) (p : MPlan) (v : PVals) : Prop where
  ops : Arr B w 6 v.ops p.ops.length (ocells p.ops)
  slots : Arr B w 1 v.slots p.slots.length (ints p.slots)
  shapes : ShAt B w v.shapes p.shapes
  in0 : ShAt B w v.in0 p.in0
  in1 : ShAt B w v.in1 p.in1
  hc : ∀ o ∈ p.ops, o.c < 18446744073709551616
theorem PlanIn.later {B B' : Nat} {w w' : World} {p : MPlan} {v : PVals} (h : PlanIn B w p v) (hb : Below B w w') (hB : B ≤ B') : PlanIn B' w' p v :=
  ⟨h.ops.later hb hB, h.slots.later hb hB, h.shapes.later hb hB, h.in0.later hb hB, h.in1.later hb hB, h.hc⟩

theorem cell_a {W : World} {a : Addr} {v : Value} {o : Obj} (h : W.cell? a = some v) : (W.alloc o).cell? a = some v := cell_later ((Below.refl _ _).alloc (Nat.le_refl _) o) h
theorem cell_ad {W : World} {a : Addr} {v : Value} {o : Obj} (h : W.cell? a = some v) : (W.alloc o).drew.cell? a = some v := cell_later ((Below.refl _ _).alloc (Nat.le_refl _) o).drew h
/-- Behind the inner append. -/
structure Inner (w : World) (x : Value) (us : List Value) (L : List (List Int)) (Bk : Nat) (v5 : Value) (M : Nat) (s : List Int) (w5 : World) : Prop where
  out : w5.ownsRow w.heap.size 24 1 x us.length us
  nest : NestOwn w.heap.size w5 us L
  own : w5.ownsRow Bk 3 1 v5 M (ints s)
  below : Below w.heap.size w w5
  ge : w.heap.size ≤ Bk
theorem after_inner {w wr w5 : World} {x : Value} {us : List Value} {L : List (List Int)} {v5 : Value} {M : Nat} {s : List Int} (hun : NestOwn w.heap.size wr us L) (huo : wr.ownsRow w.heap.size 24 1 x us.length us) (hb : Below w.heap.size w wr) (hsz : w.heap.size ≤ wr.heap.size)
    (ho : w5.ownsRow wr.heap.size 3 1 v5 M ([] ++ ints s)) (hg : ((wr.alloc (.cells #[] 3)).drew).grownBy w5 (Value.slice (some ⟨wr.heap.size, 0, none⟩) 0 0).ownBlock) : Inner w x us L wr.heap.size v5 M s w5 := by
  have h1 : wr.grownBy w5 (some wr.heap.size) := by
    have h0 : wr.grownBy (wr.alloc (.cells #[] 3)).drew none := ⟨rfl, rfl, rfl, by show _ ≤ (wr.alloc _).heap.size; rw [World.size_alloc]; omega, fun k hk _ => (World.grownBy_alloc wr (.cells #[] 3) none).block k hk (by simp)⟩
    exact (h0.but _).andThen hg fun j hj => .inr hj
  have ho1 : ∀ t, Off wr w.heap.size t (some wr.heap.size) := fun t k hk => .inr (.inl (by obtain rfl := Option.some.inj hk; exact Nat.le_refl _))
  exact ⟨own_off huo h1 (ho1 _), hun.kept h1 (ho1 _), ho, hb.grown h1 hsz (fun k hk => by obtain rfl := Option.some.inj hk; exact hsz), hsz⟩
theorem after_outer {w w5 w6 : World} {x : Value} {us : List Value} {L : List (List Int)} {Bk : Nat} {v5 : Value} {M : Nat} {s : List Int} {y : Value} (h : Inner w x us L Bk v5 M s w5) (hM : M = s.length)
    (ho : w6.ownsRow w.heap.size 24 1 y (us.length + 1) (us ++ #[v5].toList)) (hg : w5.grownBy w6 x.ownBlock) : OwnSh w.heap.size w6 y (L ++ [s]) ∧ Below w.heap.size w w6 := by
  subst hM
  refine ⟨⟨us ++ [v5], by simpa using ho, (h.nest.kept hg (Off.owned h.out (by decide))).append ⟨owns_base (own_off h.own hg (Off.owned h.out (by decide))) h.ge, trivial⟩⟩, h.below.grown hg h.below.size fun k hk => (h.out.lt k hk).1⟩

set_option maxHeartbeats 4000000 in
set_option maxRecDepth 100000 in
theorem lawShapes_any (v : Value) (l : List (List Int)) (w : World) (h : ShAt w.heap.size w v l) :
    Calls Tryz.prog 18 #[v] w fun e w' => ∃ u, e = .returned u ∧ OwnSh w.heap.size w' u (cutSh l) ∧ Below w.heap.size w w' := by
  obtain ⟨vs, hvl, harr, hnest⟩ := h
  obtain ⟨ao, cc, rfl, hcc, hm, hx, hy⟩ := harr.open
  have HY := Lib.hid hy
  have HN := Lib.hid hnest
  have HVL := Lib.hid hvl
  unfold maxLen at hm
  clear harr hx hy hnest hvl
  go_enter Tryz.func18, Tryz.ntmps18
  go_wp2_with fail
  go_loopg [3, 4] vs.length (fun g x i wr => ∃ k : Nat, k ≤ vs.length ∧ k ≤ 100 ∧ g = vs.length - k ∧ i = .int .i64 k ∧ Hid (OwnSh w.heap.size wr x ((l.take k).map (·.take 5))) ∧ Hid (Below w.heap.size w wr))
  case atStart => exact ⟨0, Nat.zero_le _, by omega, rfl, rfl, OwnSh.nil _ _, Below.refl _ _⟩
  case round =>
    obtain ⟨k, hk, hk1, hg, rfl, HO, HB⟩ := hrel
    by_cases hkl : k < vs.length
    · by_cases h100 : k < 100
      · obtain ⟨b, off, rfl, hbl, hcells⟩ := HY.out (by omega)
        have hkL : k < l.length := by have := HVL.out; omega
        have ha := HN.out.get k hkl (by simpa using hkL)
        simp only [List.getElem_map, ints_length] at ha
        obtain ⟨ao1, c1, hv1, hc1, hm1, _, _⟩ := ha.open
        have hcx : wr.cell? ⟨b, off + k, none⟩ = some (.slice ao1 l[k].length c1) := by rw [HB.out.cell (p := ⟨b, off + k, none⟩) hbl, hcells k (by omega)]; simp [hkl, hv1]
        have hsz := HB.out.size
        have HT := Lib.hid (show (l.take (k + 1)).map (·.take 5) = (l.take k).map (·.take 5) ++ [l[k].take 5] by rw [List.take_succ_eq_append_getElem hkL, List.map_append]; rfl)
        rw [hv1] at ha
        generalize l[k] = s at ha hcx hc1 HT
        have HA := Lib.hid ha
        unfold maxLen at hm1
        have i0 : (0 : Int) ≤ k := by omega
        have i1 : (k : Int) < vs.length := by omega
        clear hcells ha hv1
        have hcxw : w.cell? ⟨b, off + k, none⟩ = some (.slice ao1 s.length c1) := by rw [← HB.out.cell (p := ⟨b, off + k, none⟩) hbl]; exact hcx
        obtain ⟨us, huo, hun⟩ := HO.out
        have hul : us.length ≤ 100 := by have := hun.length; rw [List.length_map, List.length_take] at this; omega
        have HUN := Lib.hid hun
        clear hun
        by_cases h5 : s.length ≤ 5
        · have HA1 := Lib.hid (show Arr w.heap.size ((wr.alloc (.cells #[] 3)).drew) 1 (.slice ao1 s.length c1) s.length (ints (s.take 5)) by
            have := HA.out
            rw [List.take_of_length_le h5]
            exact this.later ((HB.out.alloc hsz _).drew) (Nat.le_refl _))
          have hml : ((5 : Int) < (s.length : Int)) = False := eq_false (by omega)
          have hm0 : (0 : Int) ≤ (s.length : Int) := by omega
          have hmc : (s.length : Int) ≤ (c1 : Int) := by omega
          go_wp2_with fail
          first | (go_region_held3 (fun W => W.cell? ⟨b, off + k, none⟩ = some (.slice ao1 s.length c1)) (first | exact hcx | exact cell_ad hcx | exact hcx5 | exact cell_a hcx5 | exact hcx6) (first | (refine step_app_arr (by rfl) _ _ 24 (by rfl) 3 (.int .i64 0) 1 8 Tryz.underlying24 info_int rfl (by decide) 0 s.length wr.heap.size w.heap.size (.slice (some ⟨wr.heap.size, 0, none⟩) 0 0) (.slice ao1 s.length c1) [] (ints (s.take 5)) (World.ownsRow.drew (World.ownsRow_made wr #[] 0 (Nat.le_refl _) (by unfold maxLen; omega) rfl)) HA1.out (by rfl) (by rfl) (ints_one _) (by simp) (by omega) (by unfold maxLen; omega) ?_; intro v5 w5 ho5 hg5 hat5; rw [Nat.zero_add] at ho5; obtain ⟨a5, c5, rfl, -⟩ := own_open ho5; have HP5 := Lib.hid (after_inner HUN.out huo HB.out hsz ho5 hg5); have hcx5 := HP5.out.below.cell (p := ⟨b, off + k, none⟩) hbl; rw [hcxw] at hcx5; clear ho5 hg5 hat5) | (refine step_app_k (by rfl) _ _ 27 (by rfl) 24 (.slice none 0 0) 1 24 Tryz.underlying27 info_ints rfl (by decide) #[.slice a5 s.length c5] us.length w.heap.size _ us HP5.out.out (by rfl) (by rfl) rfl (by intro u hu; simp at hu; subst hu; rfl) HP5.out.below.size (by omega) (by unfold maxLen; omega) ?_; intro g6 c6 w6 ho6 hg6; have HP6 := Lib.hid (after_outer HP5.out (by rw [List.length_take]; omega) ho6 hg6); have hcx6 := HP6.out.2.cell (p := ⟨b, off + k, none⟩) hbl; rw [hcxw] at hcx6; clear ho6 hg6))) | (fail "region")
          all_goals
            (try refine NoPanic.normal ?_)
            go_wp2_with fail
            go_roundg (vs.length - (k + 1))
            case measure => omega
            case rel => exact ⟨k + 1, by omega, by omega, rfl, by go_num, by rw [HT.out]; exact HP6.out.1, HP6.out.2⟩

        · have HA1 := Lib.hid (show Arr w.heap.size ((wr.alloc (.cells #[] 3)).drew) 1 (.slice ao1 5 c1) 5 (ints (s.take 5)) by
            have := HA.out.take 5 (by omega)
            rw [show ints (s.take 5) = (ints s).take (5 * 1) by simp [ints, List.map_take]]
            exact this.later ((HB.out.alloc hsz _).drew) (Nat.le_refl _))
          have hml : (5 : Int) < (s.length : Int) := by omega
          have hmc : (5 : Int) ≤ (c1 : Int) := by omega
          go_wp2_with fail
          first | (go_region_held3 (fun W => W.cell? ⟨b, off + k, none⟩ = some (.slice ao1 s.length c1)) (first | exact hcx | exact cell_ad hcx | exact hcx5 | exact cell_a hcx5 | exact hcx6) (first | (refine step_app_arr (by rfl) _ _ 24 (by rfl) 3 (.int .i64 0) 1 8 Tryz.underlying24 info_int rfl (by decide) 0 5 wr.heap.size w.heap.size (.slice (some ⟨wr.heap.size, 0, none⟩) 0 0) (.slice ao1 5 c1) [] (ints (s.take 5)) (World.ownsRow.drew (World.ownsRow_made wr #[] 0 (Nat.le_refl _) (by unfold maxLen; omega) rfl)) HA1.out (by rfl) (by rfl) (ints_one _) (by simp) (by omega) (by unfold maxLen; omega) ?_; intro v5 w5 ho5 hg5 hat5; rw [Nat.zero_add] at ho5; obtain ⟨a5, c5, rfl, -⟩ := own_open ho5; have HP5 := Lib.hid (after_inner HUN.out huo HB.out hsz ho5 hg5); have hcx5 := HP5.out.below.cell (p := ⟨b, off + k, none⟩) hbl; rw [hcxw] at hcx5; clear ho5 hg5 hat5) | (refine step_app_k (by rfl) _ _ 27 (by rfl) 24 (.slice none 0 0) 1 24 Tryz.underlying27 info_ints rfl (by decide) #[.slice a5 5 c5] us.length w.heap.size _ us HP5.out.out (by rfl) (by rfl) rfl (by intro u hu; simp at hu; subst hu; rfl) HP5.out.below.size (by omega) (by unfold maxLen; omega) ?_; intro g6 c6 w6 ho6 hg6; have HP6 := Lib.hid (after_outer HP5.out (by rw [List.length_take]; omega) ho6 hg6); have hcx6 := HP6.out.2.cell (p := ⟨b, off + k, none⟩) hbl; rw [hcxw] at hcx6; clear ho6 hg6))) | (fail "region")
          all_goals
            (try refine NoPanic.normal ?_)
            go_wp2_with fail
            go_roundg (vs.length - (k + 1))
            case measure => omega
            case rel => exact ⟨k + 1, by omega, by omega, rfl, by go_num, by rw [HT.out]; exact HP6.out.1, HP6.out.2⟩

      · obtain rfl : k = 100 := by omega
        have HT := Lib.hid (show cutSh l = (l.take 100).map (·.take 5) from rfl)
        go_wp2_with fail
        go_ret
        exact ⟨_, rfl, by rw [HT.out]; exact HO.out, HB.out⟩
    · obtain rfl : k = vs.length := by omega
      have HT := Lib.hid (show cutSh l = (l.take vs.length).map (·.take 5) by rw [cutSh, HVL.out, List.take_length, List.take_of_length_le (by have := HVL.out; omega)])
      go_wp2_with fail
      go_ret
      exact ⟨_, rfl, by rw [HT.out]; exact HO.out, HB.out⟩
end Go.Proofs.YtjbhgimhcjcpmaaGreatDoor
