/-
  THE CONTRACT of twainlaw19.awake.
-/
import Derived.Test.YtjbhgimhcjcpmaaGreatDoorMCheckNo
import Derived.Test.YtjbhgimhcjcpmaaGreatDoorMDecode
import Derived.Test.YtjbhgimhcjcpmaaGreatDoorMStepApp
set_option linter.unusedSimpArgs false
set_option linter.unusedVariables false
namespace Go.Proofs.YtjbhgimhcjcpmaaGreatDoor
open Go.RowKit

theorem good0 : mGood plan0 = true := by decide +kernel
theorem bytes0 : planBytes plan0 = [84, 87, 78, 1, 0, 0, 0, 0, 0, 0] := by
  simp [planBytes, headBytes, flat, plan0, shBytes, num7_small]
theorem decode0 : mDecode ([84, 87, 78, 1, 0, 0, 0, 0, 0, 0] ++ [0]) = none := by
  rw [← bytes0]; exact mDecode_more plan0 good0 (fun o h => by cases h) [0] (by simp)
theorem strB0 : strB [84, 87, 78, 1, 0, 0, 0, 0, 0, 0] = ⟨#[84, 87, 78, 1, 0, 0, 0, 0, 0, 0]⟩ := rfl
theorem planAt0 (w : World) : PlanAt w.heap.size w plan0 pv0 := (PlanOwn.zero w.heap.size w).at (by decide) (by decide) (by decide) (by decide) (fun o h => by cases h)

set_option maxHeartbeats 2000000 in
set_option maxRecDepth 100000 in
theorem awake_any (w : World) (hE : ErrT w) : Calls Tryz.prog 6 #[] w (RetB (.bool true) w) := by
  have HE := Lib.hid hE
  have HB0 := Lib.hid bytes0
  have HD0 := Lib.hid decode0
  clear hE
  go_enter Tryz.func6, Tryz.ntmps6
  go_wp2_with (first | (go_at_call 8; go_must (refine (encode_yes plan0 pv0 _ (planAt0 _) HE.out good0).mono ?_; rintro e w1 ⟨u1, rfl, hown1, hb1⟩; rw [HB0.out] at hown1; simp only [List.length_cons, List.length_nil, Nat.reduceAdd] at hown1; obtain ⟨ao1, c1, rfl, -, hg1⟩ := own_open hown1; obtain ⟨g1, rfl, -, -, -⟩ := hg1 (by decide); have HB1 := Lib.hid hb1; have hz1 := hb1.size; clear hb1 hg1)) | (at_builtin; refine app_keep rfl _ _ 33 rfl 5 (.int .u8 0) 1 Tryz.underlying33 info_u8 rfl (.int .u8 0) 10 w.heap.size g1 c1 _ hown1 rfl rfl rfl hz1 (by decide) (by decide) ?_; intro v2 w2 ho2 hk2 hg2 _; obtain ⟨ao2, c2, rfl, -, -⟩ := own_open ho2; have HB2 := Lib.hid (HB1.out.grown hg2 hz1 (fun k hk => (hown1.lt k (by rw [← hk]; rfl)).1)); have HO2 := Lib.hid ho2; have HK2 := Lib.hid hk2; clear ho2 hk2 hg2 hown1 hz1) | (go_at_call 10; go_must (refine (decode_any ([84, 87, 78, 1, 0, 0, 0, 0, 0, 0] ++ [0]) _ _ (by have := Arr.of_owns HO2.out; exact this) (by decide) (by decide) (HE.out.below HB2.out)).mono ?_; unfold DecPost; rw [HD0.out]; rintro e w3 ⟨u3, rfl, ⟨l, hu⟩, hb3⟩; obtain ⟨TT, xx, rfl⟩ := hu.form; have HU := Lib.hid hu; have HB3 := Lib.hid hb3; have hcv : ∀ o, (convert 33 9 (.slice (some ⟨g1, 0, none⟩) 10 c1)).run Tryz.prog (w3.alloc o) = .ok (.string ⟨#[84, 87, 78, 1, 0, 0, 0, 0, 0, 0]⟩) (w3.alloc o) := (fun o => by rw [← strB0]; exact conv_arr (((Arr.of_owns HK2.out).later HB3.out (Nat.le_refl _)).later ((Below.refl _ _).alloc HB3.out.size o) (Nat.le_refl _)) rfl); unfold zeroPlan; clear hu hb3)) | (go_at_call 17; go_must (refine (Is_any l 180 180 _ _ _ (HU.out.later ((Below.refl _ _).alloc (Nat.le_refl _) _) (Nat.le_refl _))).mono ?_; rintro e w' ⟨rfl, rfl⟩)))
  go_ret
  have hb := HB2.out.trans (HB3.out.mono HB2.out.size)
  exact ⟨rfl, hb.alloc hb.size _⟩
end Go.Proofs.YtjbhgimhcjcpmaaGreatDoor
