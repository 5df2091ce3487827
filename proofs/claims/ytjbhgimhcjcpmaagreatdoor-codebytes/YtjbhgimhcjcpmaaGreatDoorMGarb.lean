/-
  THE CONTRACT of micro.garbRule.
-/
import Derived.Test.YtjbhgimhcjcpmaaGreatDoorMCircTop
import Derived.Test.YtjbhgimhcjcpmaaGreatDoorMFaultFacts
import Derived.Deep.DeepCutAuto
set_option linter.unusedSimpArgs false
set_option linter.unusedVariables false
namespace Go.Proofs.YtjbhgimhcjcpmaaGreatDoor
open Go.RowKit

theorem info_rule : (Tryz.prog.info? 150).map (·.size) = some 7 := by kernel_rfl

/-- circ.Make where it makes a circuit, its slices written out. -/
theorem make_out (kind : Int) (f : Nat) (w : World) (h : circOk kind f = true) :
    Calls Tryz.prog 67 #[.int .i64 kind, .int .u64 f] w fun e w' => ∃ (n : Nat) (gs : List Gate) (ag : Option Addr) (cg : Nat) (ao : Option Addr) (no co : Nat), Hid (n = (mMake kind.toNat f).1 ∧ gs = (mMake kind.toNat f).2.1) ∧
      e = .returned (.tuple #[.agg #[.int .i64 n, .slice ag gs.length cg, .slice ao no co], .nilIface]) ∧ Hid (Arr w'.heap.size w' 3 (.slice ag gs.length cg) gs.length (gcells gs)) ∧ Below w.heap.size w w' := by
  refine (make_yes kind f w h).mono ?_
  rintro e w1 ⟨gv, ov, rfl, hown, harr, hb⟩
  have hg := Arr.of_owns hown
  obtain ⟨ag, cg, rfl, _⟩ := hg.open
  obtain ⟨ao, co, rfl, _⟩ := harr.open
  exact ⟨_, _, ag, cg, ao, _, co, ⟨rfl, rfl⟩, rfl, hg, hb⟩


set_option maxHeartbeats 1000000 in
set_option maxRecDepth 100000 in
theorem garb_yes1 (kind a b k party : Int) (c : Nat) (w : World) (hc : c < 18446744073709551616) (h : circOk k c = true) (hk : k = 1) :
    Calls Tryz.prog 112 #[.agg #[.int .i64 kind, .int .i64 a, .int .i64 b, .int .i64 k, .int .u64 c, .int .i64 party]] w (RetB (Rule.out (mGarbRule 1 c)) w) := by
  have hR : mGarbRule 1 c = (⟨mFormOf c, 0, 2, 4, true, false, 2⟩, true) := by rw [mGarbRule, if_pos (by rw [← hk]; exact h)]; rfl
  rw [hR]
  have HC := Lib.hid h
  have hk1 : (k == 1) = true := by simpa using hk
  have hk2 : (k != 1) = false := by simpa using hk
  clear h hR hk
  go_enter Tryz.func112, Tryz.ntmps112
  go_upto_region 7 with (first | ((go_at_call 67); go_must (refine (make_out _ _ _ HC.out).mono ?_; rintro e w1 ⟨n, gs, ag, cg, ao, no, co, H1, rfl, H2, hb⟩; clear H2 H1; obtain ⟨h0, h1, hB, hz⟩ := after2 hb; have c3 : w1.cell? ⟨w.heap.size, 3, none⟩ = some (.int .i64 k) := (by simp [World.cell?, h0]); have c4 : w1.cell? ⟨w.heap.size, 4, none⟩ = some (.int .u64 c) := (by simp [World.cell?, h0]); have HB := Lib.hid hB; have HH1 := Lib.hid h1; have hz0 : w.heap.size < w1.heap.size := (by omega); have hz1 : w.heap.size + 1 < w1.heap.size := (by omega); clear hb h0 h1 hB hz)) | ((go_at_call 128); refine (formOf_any _ _ hc).mono ?_; rintro e w2 ⟨rfl, rfl⟩))
  go_wp2_with ((with_reducible show wpList _ _ _ (⟨_, Op.store _ (.tmp 2) _, _, _, _, _⟩ :: _) _ _); go_must (refine wpList_store_row rfl 150 _ _ rfl (w.heap.size + 1) _ rfl rfl 150 #[.int .i64 0, .int .i64 0, .int .i64 0, .int .i64 0, .bool false, .bool false, .int .i64 0] (old2 _ _ HH1.out) info_rule rfl (by simp [Value.oneCell']) ?_))
  refine bodyPost_ret (results_cell_tmp rfl _ _ (w.heap.size + 1) 150 (Rule.arr ⟨mFormOf c, 0, 2, 4, true, false, 2⟩) _ _ rfl (setRow_heap _ _ _ _ _ _ (old2 _ _ HH1.out)) Tryz.underlying150 rfl info_rule) rfl ⟨rfl, ?_⟩
  exact below_setRow ((HB.out.alloc (by omega) _).alloc (by simp; omega) _) (by omega) _

set_option maxHeartbeats 1000000 in
set_option maxRecDepth 100000 in
theorem garb_yes2 (kind a b k party : Int) (c : Nat) (w : World) (hc : c < 18446744073709551616) (h : circOk k c = true) (hk : k ≠ 1) :
    Calls Tryz.prog 112 #[.agg #[.int .i64 kind, .int .i64 a, .int .i64 b, .int .i64 k, .int .u64 c, .int .i64 party]] w (RetB (Rule.out (mGarbRule k c)) w) := by
  have hR : mGarbRule k c = (⟨mFormOf c, mFormOf (c / 2), 2, 4, true, false, 2⟩, true) := by rw [mGarbRule, if_pos h, if_neg hk]
  rw [hR]
  have HC := Lib.hid h
  have hk1 : (k == 1) = false := by simpa using hk
  have hk2 : (k != 1) = true := by simpa using hk
  clear h hR hk
  go_enter Tryz.func112, Tryz.ntmps112
  go_upto_region 6 with (first | ((go_at_call 67); go_must (refine (make_out _ _ _ HC.out).mono ?_; rintro e w1 ⟨n, gs, ag, cg, ao, no, co, H1, rfl, H2, hb⟩; clear H2 H1; obtain ⟨h0, h1, hB, hz⟩ := after2 hb; have c3 : w1.cell? ⟨w.heap.size, 3, none⟩ = some (.int .i64 k) := (by simp [World.cell?, h0]); have c4 : w1.cell? ⟨w.heap.size, 4, none⟩ = some (.int .u64 c) := (by simp [World.cell?, h0]); have HB := Lib.hid hB; have HH1 := Lib.hid h1; have hz0 : w.heap.size < w1.heap.size := (by omega); have hz1 : w.heap.size + 1 < w1.heap.size := (by omega); clear hb h0 h1 hB hz)) | ((go_at_call 128); refine (formOf_any _ _ hc).mono ?_; rintro e w2 ⟨rfl, rfl⟩))
  go_upto_region 7 with ((go_at_call 128); go_must (refine (formOf_any (c / 2) _ (by omega)).mono ?_; rintro e w2 ⟨rfl, rfl⟩))
  go_wp2_with ((with_reducible show wpList _ _ _ (⟨_, Op.store _ (.tmp 2) _, _, _, _, _⟩ :: _) _ _); go_must (refine wpList_store_row rfl 150 _ _ rfl (w.heap.size + 1) _ rfl rfl 150 #[.int .i64 0, .int .i64 0, .int .i64 0, .int .i64 0, .bool false, .bool false, .int .i64 0] (old2 _ _ HH1.out) info_rule rfl (by simp [Value.oneCell']) ?_))
  refine bodyPost_ret (results_cell_tmp rfl _ _ (w.heap.size + 1) 150 (Rule.arr ⟨mFormOf c, mFormOf (c / 2), 2, 4, true, false, 2⟩) _ _ rfl (setRow_heap _ _ _ _ _ _ (old2 _ _ HH1.out)) Tryz.underlying150 rfl info_rule) rfl ⟨rfl, ?_⟩
  exact below_setRow ((HB.out.alloc (by omega) _).alloc (by simp; omega) _) (by omega) _

set_option maxHeartbeats 1000000 in
set_option maxRecDepth 100000 in
theorem garb_no (kind a b k party : Int) (c : Nat) (w : World) (h : circOk k c = false) (hE : ErrT w) :
    Calls Tryz.prog 112 #[.agg #[.int .i64 kind, .int .i64 a, .int .i64 b, .int .i64 k, .int .u64 c, .int .i64 party]] w (RetB (Rule.out (rule0, false)) w) := by
  have HC := Lib.hid h
  have HE := Lib.hid (hE.below (below_alloc2 w (.cells #[.int .i64 kind, .int .i64 a, .int .i64 b, .int .i64 k, .int .u64 c, .int .i64 party] 44) (.cells #[.int .i64 0, .int .i64 0, .int .i64 0, .int .i64 0, .bool false, .bool false, .int .i64 0] 150)))
  clear h hE
  go_enter Tryz.func112, Tryz.ntmps112
  go_upto_region 3 with ((go_at_call 67); go_must (refine (make_no _ _ _ HC.out HE.out).mono ?_; rintro e w1 ⟨v, rfl, ⟨l, cc, hv⟩, hb⟩; obtain ⟨T, x, rfl⟩ := hv.form; obtain ⟨h0, h1, hB, hz⟩ := after2 hb; have HB := Lib.hid hB; have HH1 := Lib.hid h1; have hz0 : w.heap.size < w1.heap.size := (by omega); have hz1 : w.heap.size + 1 < w1.heap.size := (by omega); clear hb h0 h1 hB hz hv))
  go_wp2_with ((with_reducible show wpList _ _ _ (⟨_, Op.store _ (.tmp 2) _, _, _, _, _⟩ :: _) _ _); go_must (refine wpList_store_row rfl 150 _ _ rfl (w.heap.size + 1) _ rfl rfl 150 #[.int .i64 0, .int .i64 0, .int .i64 0, .int .i64 0, .bool false, .bool false, .int .i64 0] (old1 _ HH1.out) info_rule rfl (by simp [Value.oneCell']) ?_))
  refine bodyPost_ret (results_cell_tmp rfl _ _ (w.heap.size + 1) 150 (Rule.arr rule0) _ _ rfl (setRow_heap _ _ _ _ _ _ (old1 _ HH1.out)) Tryz.underlying150 rfl info_rule) rfl ⟨rfl, ?_⟩
  exact below_setRow (HB.out.alloc (by omega) _) (by omega) _
end Go.Proofs.YtjbhgimhcjcpmaaGreatDoor

/-
  THE CONTRACTS of micro.garbRule, micro.ruleOf.
-/
namespace Go.Proofs.YtjbhgimhcjcpmaaGreatDoor
open Go.RowKit


set_option maxHeartbeats 4000000 in
set_option maxRecDepth 100000 in
theorem ruleOf_tab (kind a b k party e0 e1 : Int) (c : Nat) (w : World) (hk : (tabRule kind).2 = true) :
    Calls Tryz.prog 90 #[.agg #[.int .i64 kind, .int .i64 a, .int .i64 b, .int .i64 k, .int .u64 c, .int .i64 party], .agg #[.int .i64 e0, .int .i64 e1]] w (RetB (Rule.out (tabRule kind)) w) := by
  rcases tabRule_known kind hk with rfl | rfl | rfl | rfl | rfl | rfl | rfl | rfl | rfl | rfl | rfl | rfl | rfl | rfl | rfl | rfl | rfl
  all_goals
    clear hk
    go_enter Tryz.func90, Tryz.ntmps90
    go_wp2_with fail
  · exact bodyPost_ret (v := Rule.out (tabRule 2)) (by simp [results, Tryz.results90, go_sem, Rule.out, tabRule, Rule.arr]) rfl ⟨rfl, below_alloc3 _ _ _ _⟩
  · exact bodyPost_ret (v := Rule.out (tabRule 3)) (by simp [results, Tryz.results90, go_sem, Rule.out, tabRule, Rule.arr]) rfl ⟨rfl, below_alloc3 _ _ _ _⟩
  · exact bodyPost_ret (v := Rule.out (tabRule 4)) (by simp [results, Tryz.results90, go_sem, Rule.out, tabRule, Rule.arr]) rfl ⟨rfl, below_alloc3 _ _ _ _⟩
  · exact bodyPost_ret (v := Rule.out (tabRule 5)) (by simp [results, Tryz.results90, go_sem, Rule.out, tabRule, Rule.arr]) rfl ⟨rfl, below_alloc3 _ _ _ _⟩
  · exact bodyPost_ret (v := Rule.out (tabRule 6)) (by simp [results, Tryz.results90, go_sem, Rule.out, tabRule, Rule.arr]) rfl ⟨rfl, below_alloc3 _ _ _ _⟩
  · exact bodyPost_ret (v := Rule.out (tabRule 7)) (by simp [results, Tryz.results90, go_sem, Rule.out, tabRule, Rule.arr]) rfl ⟨rfl, below_alloc3 _ _ _ _⟩
  · exact bodyPost_ret (v := Rule.out (tabRule 8)) (by simp [results, Tryz.results90, go_sem, Rule.out, tabRule, Rule.arr]) rfl ⟨rfl, below_alloc3 _ _ _ _⟩
  · exact bodyPost_ret (v := Rule.out (tabRule 9)) (by simp [results, Tryz.results90, go_sem, Rule.out, tabRule, Rule.arr]) rfl ⟨rfl, below_alloc3 _ _ _ _⟩
  · exact bodyPost_ret (v := Rule.out (tabRule 10)) (by simp [results, Tryz.results90, go_sem, Rule.out, tabRule, Rule.arr]) rfl ⟨rfl, below_alloc3 _ _ _ _⟩
  · exact bodyPost_ret (v := Rule.out (tabRule 11)) (by simp [results, Tryz.results90, go_sem, Rule.out, tabRule, Rule.arr]) rfl ⟨rfl, below_alloc3 _ _ _ _⟩
  · exact bodyPost_ret (v := Rule.out (tabRule 12)) (by simp [results, Tryz.results90, go_sem, Rule.out, tabRule, Rule.arr]) rfl ⟨rfl, below_alloc3 _ _ _ _⟩
  · exact bodyPost_ret (v := Rule.out (tabRule 13)) (by simp [results, Tryz.results90, go_sem, Rule.out, tabRule, Rule.arr]) rfl ⟨rfl, below_alloc3 _ _ _ _⟩
  · exact bodyPost_ret (v := Rule.out (tabRule 14)) (by simp [results, Tryz.results90, go_sem, Rule.out, tabRule, Rule.arr]) rfl ⟨rfl, below_alloc3 _ _ _ _⟩
  · exact bodyPost_ret (v := Rule.out (tabRule 15)) (by simp [results, Tryz.results90, go_sem, Rule.out, tabRule, Rule.arr]) rfl ⟨rfl, below_alloc3 _ _ _ _⟩
  · exact bodyPost_ret (v := Rule.out (tabRule 16)) (by simp [results, Tryz.results90, go_sem, Rule.out, tabRule, Rule.arr]) rfl ⟨rfl, below_alloc3 _ _ _ _⟩
  · exact bodyPost_ret (v := Rule.out (tabRule 18)) (by simp [results, Tryz.results90, go_sem, Rule.out, tabRule, Rule.arr]) rfl ⟨rfl, below_alloc3 _ _ _ _⟩
  · exact bodyPost_ret (v := Rule.out (tabRule 19)) (by simp [results, Tryz.results90, go_sem, Rule.out, tabRule, Rule.arr]) rfl ⟨rfl, below_alloc3 _ _ _ _⟩

set_option maxHeartbeats 4000000 in
set_option maxRecDepth 100000 in
theorem ruleOf_none (kind a b k party e0 e1 : Int) (c : Nat) (w : World) (h1 : kind ≠ 1) (h17 : kind ≠ 17) (hk : (tabRule kind).2 = false) :
    Calls Tryz.prog 90 #[.agg #[.int .i64 kind, .int .i64 a, .int .i64 b, .int .i64 k, .int .u64 c, .int .i64 party], .agg #[.int .i64 e0, .int .i64 e1]] w (RetB (Rule.out (rule0, false)) w) := by
  have b1 : (kind == 1) = false := by simpa using h1
  have b2 : (kind == 2) = false := by simp only [beq_eq_false_iff_ne]; rintro rfl; simp [tabRule] at hk
  have b3 : (kind == 3) = false := by simp only [beq_eq_false_iff_ne]; rintro rfl; simp [tabRule] at hk
  have b4 : (kind == 4) = false := by simp only [beq_eq_false_iff_ne]; rintro rfl; simp [tabRule] at hk
  have b5 : (kind == 5) = false := by simp only [beq_eq_false_iff_ne]; rintro rfl; simp [tabRule] at hk
  have b6 : (kind == 6) = false := by simp only [beq_eq_false_iff_ne]; rintro rfl; simp [tabRule] at hk
  have b7 : (kind == 7) = false := by simp only [beq_eq_false_iff_ne]; rintro rfl; simp [tabRule] at hk
  have b8 : (kind == 8) = false := by simp only [beq_eq_false_iff_ne]; rintro rfl; simp [tabRule] at hk
  have b9 : (kind == 9) = false := by simp only [beq_eq_false_iff_ne]; rintro rfl; simp [tabRule] at hk
  have b10 : (kind == 10) = false := by simp only [beq_eq_false_iff_ne]; rintro rfl; simp [tabRule] at hk
  have b11 : (kind == 11) = false := by simp only [beq_eq_false_iff_ne]; rintro rfl; simp [tabRule] at hk
  have b12 : (kind == 12) = false := by simp only [beq_eq_false_iff_ne]; rintro rfl; simp [tabRule] at hk
  have b13 : (kind == 13) = false := by simp only [beq_eq_false_iff_ne]; rintro rfl; simp [tabRule] at hk
  have b14 : (kind == 14) = false := by simp only [beq_eq_false_iff_ne]; rintro rfl; simp [tabRule] at hk
  have b15 : (kind == 15) = false := by simp only [beq_eq_false_iff_ne]; rintro rfl; simp [tabRule] at hk
  have b16 : (kind == 16) = false := by simp only [beq_eq_false_iff_ne]; rintro rfl; simp [tabRule] at hk
  have b17 : (kind == 17) = false := by simpa using h17
  have b18 : (kind == 18) = false := by simp only [beq_eq_false_iff_ne]; rintro rfl; simp [tabRule] at hk
  have b19 : (kind == 19) = false := by simp only [beq_eq_false_iff_ne]; rintro rfl; simp [tabRule] at hk
  clear h1 h17 hk
  go_enter Tryz.func90, Tryz.ntmps90
  go_wp2_with fail
  exact bodyPost_ret (v := Rule.out (rule0, false)) (by simp [results, Tryz.results90, go_sem, Rule.out, rule0, Rule.arr]) rfl ⟨rfl, below_alloc3 _ _ _ _⟩

end Go.Proofs.YtjbhgimhcjcpmaaGreatDoor

/-
  THE CONTRACT of micro.ruleOf, at every operation.
-/
namespace Go.Proofs.YtjbhgimhcjcpmaaGreatDoor
open Go.RowKit

set_option maxHeartbeats 1000000 in
set_option maxRecDepth 100000 in
theorem ruleOf_in0 (a b k e0 e1 : Int) (c : Nat) (w : World) (B : Bool) (hB : decide (0 < e0) = B) :
    Calls Tryz.prog 90 #[.agg #[.int .i64 1, .int .i64 a, .int .i64 b, .int .i64 k, .int .u64 c, .int .i64 0], .agg #[.int .i64 e0, .int .i64 e1]] w (RetB (Rule.out (⟨0, 0, 1, e0, false, true, 1⟩, B)) w) := by
  go_enter Tryz.func90, Tryz.ntmps90
  go_wp2_with fail
  go_region
  all_goals
    go_wp2_with fail
    exact bodyPost_ret (v := Rule.out (⟨0, 0, 1, e0, false, true, 1⟩, B)) (by simp [results, Tryz.results90, go_sem, Rule.out, Rule.arr]) rfl ⟨rfl, (below_alloc3 _ _ _ _).drew⟩

set_option maxHeartbeats 1000000 in
set_option maxRecDepth 100000 in
theorem ruleOf_in1 (a b k e0 e1 : Int) (c : Nat) (w : World) (B : Bool) (hB : decide (0 < e1) = B) :
    Calls Tryz.prog 90 #[.agg #[.int .i64 1, .int .i64 a, .int .i64 b, .int .i64 k, .int .u64 c, .int .i64 1], .agg #[.int .i64 e0, .int .i64 e1]] w (RetB (Rule.out (⟨0, 0, 1, e1, false, true, 1⟩, B)) w) := by
  go_enter Tryz.func90, Tryz.ntmps90
  go_wp2_with fail
  go_region
  all_goals
    go_wp2_with fail
    exact bodyPost_ret (v := Rule.out (⟨0, 0, 1, e1, false, true, 1⟩, B)) (by simp [results, Tryz.results90, go_sem, Rule.out, Rule.arr]) rfl ⟨rfl, (below_alloc3 _ _ _ _).drew⟩

set_option maxHeartbeats 1000000 in
set_option maxRecDepth 100000 in
theorem ruleOf_inx (a b k e0 e1 party : Int) (c : Nat) (w : World) (h0 : (party == 0) = false) (h1 : (party == 1) = false) :
    Calls Tryz.prog 90 #[.agg #[.int .i64 1, .int .i64 a, .int .i64 b, .int .i64 k, .int .u64 c, .int .i64 party], .agg #[.int .i64 e0, .int .i64 e1]] w (RetB (Rule.out (rule0, false)) w) := by
  have h0' : (party != 0) = true := by simp [bne, h0]
  have h1' : (party != 1) = true := by simp [bne, h1]
  go_enter Tryz.func90, Tryz.ntmps90
  go_wp2_with fail
  exact bodyPost_ret (v := Rule.out (rule0, false)) (by simp [results, Tryz.results90, go_sem, Rule.out, Rule.arr, rule0]) rfl ⟨rfl, below_alloc3 _ _ _ _⟩

theorem garb_any (kind a b k party : Int) (c : Nat) (w : World) (hc : c < 18446744073709551616) (hE : ErrT w) :
    Calls Tryz.prog 112 #[.agg #[.int .i64 kind, .int .i64 a, .int .i64 b, .int .i64 k, .int .u64 c, .int .i64 party]] w (RetB (Rule.out (mGarbRule k c)) w) := by
  by_cases h : circOk k c = true
  · by_cases hk : k = 1
    · have := garb_yes1 kind a b k party c w hc h hk
      rw [hk] at this ⊢; exact this
    · exact garb_yes2 kind a b k party c w hc h hk
  · have h' : circOk k c = false := by simpa using h
    rw [show mGarbRule k c = (rule0, false) by rw [mGarbRule, if_neg h]]
    exact garb_no kind a b k party c w h' hE

set_option maxHeartbeats 1000000 in
set_option maxRecDepth 100000 in
theorem ruleOf_garb (a b k party e0 e1 : Int) (c : Nat) (w : World) (hc : c < 18446744073709551616) (hE : ErrT w) (r : Rule) (B : Bool) (hr : mGarbRule k c = (r, B)) :
    Calls Tryz.prog 90 #[.agg #[.int .i64 17, .int .i64 a, .int .i64 b, .int .i64 k, .int .u64 c, .int .i64 party], .agg #[.int .i64 e0, .int .i64 e1]] w (RetB (Rule.out (r, B)) w) := by
  have HR := Lib.hid hr
  have HE := Lib.hid (hE.below (below_alloc3 w (.cells #[.int .i64 17, .int .i64 a, .int .i64 b, .int .i64 k, .int .u64 c, .int .i64 party] 44) (.cells #[.int .i64 e0, .int .i64 e1] 23) (.cells #[.int .i64 0, .int .i64 0, .int .i64 0, .int .i64 0, .bool false, .bool false, .int .i64 0] 150)))
  clear hr hE
  go_enter Tryz.func90, Tryz.ntmps90
  go_wp2_with (first | (go_at_call 112; go_must (refine (garb_any _ _ _ _ _ _ _ hc HE.out).mono ?_; rw [HR.out]; unfold RetB Rule.out Rule.arr; rintro e w1 ⟨rfl, hb⟩; obtain ⟨h0, h1, h2, hB, hz⟩ := after3 hb; have HB := Lib.hid hB; have HH2 := Lib.hid h2; clear hb h0 h1 h2 hB)) | ((with_reducible show wpList _ _ _ (⟨_, Op.store _ (.tmp 4) _, _, _, _, _⟩ :: _) _ _); go_must (refine wpList_store_row rfl 150 _ _ rfl (w.heap.size + 2) (Rule.arr r) rfl rfl 150 #[.int .i64 0, .int .i64 0, .int .i64 0, .int .i64 0, .bool false, .bool false, .int .i64 0] HH2.out info_rule rfl (by simp [Value.oneCell', Rule.arr]) ?_)))
  refine bodyPost_ret (results_cell_tmp rfl _ _ (w.heap.size + 2) 150 (Rule.arr r) _ _ rfl (setRow_heap _ _ _ _ _ _ HH2.out) Tryz.underlying150 rfl info_rule) rfl ⟨rfl, ?_⟩
  exact below_setRow HB.out (by omega) _

/-- ruleOf at every operation. -/
theorem ruleOf_any (o : MOp) (e0 e1 : Int) (w : World) (hc : o.c < 18446744073709551616) (hE : ErrT w) :
    Calls Tryz.prog 90 #[.agg o.arr, .agg #[.int .i64 e0, .int .i64 e1]] w (RetB (Rule.out (mRule o e0 e1)) w) := by
  obtain ⟨kind, a, b, k, c, party⟩ := o
  simp only [MOp.arr]
  by_cases h1 : kind = 1
  · subst h1
    simp only [mRule, if_true, mInRule]
    by_cases p0 : party = 0
    · subst p0; simp only [if_true]; exact ruleOf_in0 a b k e0 e1 c w _ rfl
    · by_cases p1 : party = 1
      · subst p1; simp only [if_true, show ¬ ((1 : Int) = 0) by decide, if_false]; exact ruleOf_in1 a b k e0 e1 c w _ rfl
      · simp only [p0, p1, if_false]; exact ruleOf_inx a b k e0 e1 party c w (by simpa using p0) (by simpa using p1)
  · by_cases h17 : kind = 17
    · subst h17
      have : mRule ⟨17, a, b, k, c, party⟩ e0 e1 = mGarbRule k c := by simp [mRule]
      rw [this]
      exact ruleOf_garb a b k party e0 e1 c w hc hE _ _ rfl
    · have : mRule ⟨kind, a, b, k, c, party⟩ e0 e1 = tabRule kind := by simp [mRule, h1, h17]
      rw [this]
      by_cases hk : (tabRule kind).2 = true
      · exact ruleOf_tab kind a b k party e0 e1 c w hk
      · have hk' : (tabRule kind).2 = false := by simpa using hk
        rw [tabRule_none kind hk']
        exact ruleOf_none kind a b k party e0 e1 c w h1 h17 hk'
end Go.Proofs.YtjbhgimhcjcpmaaGreatDoor

/-
  WORDS for the contract of micro.forms.
-/
namespace Go.Proofs.YtjbhgimhcjcpmaaGreatDoor
open Go.RowKit

theorem ocells_len (l : List MOp) : (ocells l).length = l.length * 6 := by
  induction l with
  | nil => rfl
  | cons g gs ih => simp only [ocells, List.flatMap_cons, List.length_append, List.length_cons] at *; rw [ih]; simp; omega
theorem ocells_get : ∀ (l : List MOp) (k j : Nat) (h : k < l.length), j < 6 → (ocells l)[k * 6 + j]? = (l[k]).cells[j]?
  | g :: gs, 0, j, _, hj => by
    simp only [ocells, List.flatMap_cons, Nat.zero_mul, Nat.zero_add, List.getElem_cons_zero]
    rw [List.getElem?_append_left (by simp; omega)]
  | g :: gs, k + 1, j, h, hj => by
    have := ocells_get gs k j (by simpa using h) hj
    simp only [ocells, List.flatMap_cons, List.getElem_cons_succ] at *
    rw [List.getElem?_append_right (by simp; omega)]
    rw [← this]; congr 1; simp; omega
/-- The cells of one operation of a slice, in a world w' behind w. -/
theorem op_cells {B : Nat} {w w' : World} {b off n : Nat} {l : List MOp} (hcells : ∀ i, i < n * 6 → w.cell? ⟨b, off + i, none⟩ = (ocells l)[i]?) (hb : Below B w w') (hlt : b < B) (hn : n = l.length) (k : Nat) (hk : k < l.length) :
    w'.cell? ⟨b, off + k * 6, none⟩ = some (.int .i64 l[k].kind) ∧ w'.cell? ⟨b, off + k * 6 + 1, none⟩ = some (.int .i64 l[k].a) ∧ w'.cell? ⟨b, off + k * 6 + 2, none⟩ = some (.int .i64 l[k].b) ∧
    w'.cell? ⟨b, off + k * 6 + 3, none⟩ = some (.int .i64 l[k].k) ∧ w'.cell? ⟨b, off + k * 6 + 4, none⟩ = some (.int .u64 l[k].c) ∧ w'.cell? ⟨b, off + k * 6 + 5, none⟩ = some (.int .i64 l[k].party) := by
  have hcx : ∀ j, j < 6 → w'.cell? ⟨b, off + (k * 6 + j), none⟩ = (l[k]).cells[j]? := fun j hj => by rw [hb.cell hlt, hcells _ (by omega), ocells_get l k j hk hj]
  exact ⟨hcx 0 (by omega), hcx 1 (by omega), hcx 2 (by omega), hcx 3 (by omega), hcx 4 (by omega), hcx 5 (by omega)⟩

theorem mOuts_take (l : List MOp) (k : Nat) (h : k < l.length) : mOuts (l.take (k + 1)) = mOuts (l.take k) + if mTold l[k] then 1 else 0 := by
  unfold mOuts
  rw [List.take_succ_eq_append_getElem h, List.filter_append]
  by_cases hk : mTold l[k] <;> simp [hk]
theorem mOuts_le (l : List MOp) : mOuts l ≤ l.length := List.length_filter_le _ _
theorem told_eq (o : MOp) : (o.kind == 18 || o.kind == 19) = mTold o := rfl

/-- What forms answers. -/
def FormsSaid (r : Option (List Int)) (w : World) (e : Ending) (w' : World) : Prop :=
  Below w.heap.size w w' ∧ match r with
    | some made => ∃ v, e = .returned (.tuple #[v, .nilIface]) ∧ w'.ownsRow w.heap.size 148 1 v made.length (ints made)
    | none => ∃ v, e = .returned (.tuple #[.slice none 0 0, v]) ∧ ∃ l c, IsErr w'.heap.size w' l c v

theorem info_form : (Tryz.prog.info? 148).map (fun i => (i.zero, i.size, i.bytes)) = some (some (.int .i64 0), 1, 8) := by kernel_rfl


theorem own_ne {w : World} {base : Nat} {e : TypeId} {k : Nat} {v : Value} {n : Nat} {xs : List Value} (h : w.ownsRow base e k v n xs) {b : Nat} {cs : Array Value} {t : TypeId} {fr : Nat × Nat} (hb : w.heap[b]? = some (.cells cs t fr)) (ht : t ≠ e) : v.ownBlock ≠ some b := by
  intro hv
  rcases h.2 with ⟨rfl, _⟩ | ⟨g, cap, cur, rfl, _, hg, _⟩
  · simp [Value.ownBlock] at hv
  · simp [Value.ownBlock] at hv; subst hv
    rw [hb] at hg
    simp only [Option.some.injEq, Obj.cells.injEq] at hg
    exact ht hg.2.1

/-- The state of a round of forms: the operation and its rule in blocks B1, B2; the numbers seen in block bs; the elements in block be; the forms made so far. -/
structure FSt (w : World) (bs B1 B2 : Nat) (o : MOp) (r : Rule) (e0 e1 : Int) (seen made : List Int) (x : Value) (wx : World) : Prop where
  op : wx.heap[B1]? = some (.cells o.arr 44 (0, 0))
  rule : wx.heap[B2]? = some (.cells r.arr 150 (0, 0))
  seen : wx.heap[bs]? = some (.cells (ints seen).toArray 3 (0, 0))
  elems : wx.heap[w.heap.size]? = some (.cells #[.int .i64 e0, .int .i64 e1] 23 (0, 0))
  own : wx.ownsRow (bs + 1) 148 1 x made.length (ints made)
  below : Below w.heap.size w wx
  lt1 : w.heap.size < bs
  lt2 : bs < B1
  lt3 : B1 < B2

theorem FSt.opc {w : World} {bs B1 B2 : Nat} {o : MOp} {r : Rule} {e0 e1 : Int} {seen made : List Int} {x : Value} {wx : World} (h : FSt w bs B1 B2 o r e0 e1 seen made x wx) :
    wx.cell? ⟨B1, 0, none⟩ = some (.int .i64 o.kind) ∧ wx.cell? ⟨B1, 1, none⟩ = some (.int .i64 o.a) ∧ wx.cell? ⟨B1, 2, none⟩ = some (.int .i64 o.b) ∧
    wx.cell? ⟨B1, 3, none⟩ = some (.int .i64 o.k) ∧ wx.cell? ⟨B1, 4, none⟩ = some (.int .u64 o.c) ∧ wx.cell? ⟨B1, 5, none⟩ = some (.int .i64 o.party) := by
  have := h.op
  refine ⟨?_, ?_, ?_, ?_, ?_, ?_⟩ <;> simp [World.cell?, this, MOp.arr]
theorem FSt.rulec {w : World} {bs B1 B2 : Nat} {o : MOp} {r : Rule} {e0 e1 : Int} {seen made : List Int} {x : Value} {wx : World} (h : FSt w bs B1 B2 o r e0 e1 seen made x wx) :
    wx.cell? ⟨B2, 0, none⟩ = some (.int .i64 r.a) ∧ wx.cell? ⟨B2, 1, none⟩ = some (.int .i64 r.b) ∧ wx.cell? ⟨B2, 2, none⟩ = some (.int .i64 r.makes) ∧
    wx.cell? ⟨B2, 3, none⟩ = some (.int .i64 r.k) ∧ wx.cell? ⟨B2, 4, none⟩ = some (.bool r.c) ∧ wx.cell? ⟨B2, 5, none⟩ = some (.bool r.party) ∧ wx.cell? ⟨B2, 6, none⟩ = some (.int .i64 r.rounds) ∧ wx.frozen? ⟨B2, 3, none⟩ = false := by
  have := h.rule
  refine ⟨?_, ?_, ?_, ?_, ?_, ?_, ?_, ?_⟩ <;> simp [World.cell?, World.frozen?, this, Rule.arr]
theorem FSt.seenc {w : World} {bs B1 B2 : Nat} {o : MOp} {r : Rule} {e0 e1 : Int} {seen made : List Int} {x : Value} {wx : World} (h : FSt w bs B1 B2 o r e0 e1 seen made x wx) (k : Nat) (hk : k < seen.length) :
    wx.cell? ⟨bs, k, none⟩ = some (.int .i64 (seen.getD k 0)) ∧ wx.frozen? ⟨bs, k, none⟩ = false := by
  have := h.seen
  constructor
  · rw [cell_of_row _ _ _ _ _ _ this]; simp [ints, List.getD, hk]
  · simp [World.frozen?, this]
theorem FSt.setK {w : World} {bs B1 B2 : Nat} {o : MOp} {r : Rule} {e0 e1 : Int} {seen made : List Int} {x : Value} {wx : World} (h : FSt w bs B1 B2 o r e0 e1 seen made x wx) (n : Int) :
    FSt w bs B1 B2 o { r with k := n } e0 e1 seen made x (wx.setCell ⟨B2, 3, none⟩ (.int .i64 n)) where
  op := (heap_setCell_other' (by have := h.lt3; omega) _).trans h.op
  rule := heap_setCell (j := 3) h.rule _
  seen := (heap_setCell_other' (by have := h.lt3; have := h.lt2; omega) _).trans h.seen
  elems := (heap_setCell_other' (by have := h.lt3; have := h.lt2; have := h.lt1; omega) _).trans h.elems
  own := ownsRow_setCell_other h.own (own_ne h.own h.rule (by decide)) _
  below := h.below.setCell (by have := h.lt3; have := h.lt2; have := h.lt1; show w.heap.size ≤ B2; omega) _
  lt1 := h.lt1
  lt2 := h.lt2
  lt3 := h.lt3
theorem FSt.setSeen {w : World} {bs B1 B2 : Nat} {o : MOp} {r : Rule} {e0 e1 : Int} {seen made : List Int} {x : Value} {wx : World} (h : FSt w bs B1 B2 o r e0 e1 seen made x wx) (j : Nat) :
    FSt w bs B1 B2 o r e0 e1 (seen.set j 1) made x (wx.setCell ⟨bs, j, none⟩ (.int .i64 1)) where
  op := (heap_setCell_other' (by have := h.lt2; omega) _).trans h.op
  rule := (heap_setCell_other' (by have := h.lt3; have := h.lt2; omega) _).trans h.rule
  seen := by
    have := heap_setCell (j := j) h.seen (.int .i64 1)
    rw [this]; simp [ints, List.map_set]
  elems := (heap_setCell_other' (by have := h.lt1; omega) _).trans h.elems
  own := ownsRow_setCell_other h.own (fun e => by have := h.own.lt bs e; omega) _
  below := h.below.setCell (by have := h.lt1; show w.heap.size ≤ bs; omega) _
  lt1 := h.lt1
  lt2 := h.lt2
  lt3 := h.lt3
theorem FSt.later {w : World} {bs B1 B2 : Nat} {o : MOp} {r : Rule} {e0 e1 : Int} {seen made : List Int} {x : Value} {W wx : World} (h : FSt w bs B1 B2 o r e0 e1 seen made x W) (hb : Below W.heap.size W wx) :
    FSt w bs B1 B2 o r e0 e1 seen made x wx where
  op := (hb.block _ (lt_of_block' h.op)).trans h.op
  rule := (hb.block _ (lt_of_block' h.rule)).trans h.rule
  seen := (hb.block _ (lt_of_block' h.seen)).trans h.seen
  elems := (hb.block _ (lt_of_block' h.elems)).trans h.elems
  own := Below.owns h.own hb
  below := h.below.trans (hb.mono h.below.size)
  lt1 := h.lt1
  lt2 := h.lt2
  lt3 := h.lt3
theorem FSt.mk1 {w wr w1 : World} {bs : Nat} {o : MOp} {r : Rule} {e0 e1 : Int} {seen made : List Int} {x : Value} (hown : wr.ownsRow (bs + 1) 148 1 x made.length (ints made)) (hseen : wr.heap[bs]? = some (.cells (ints seen).toArray 3 (0, 0)))
    (hel : wr.heap[w.heap.size]? = some (.cells #[.int .i64 e0, .int .i64 e1] 23 (0, 0))) (hb : Below w.heap.size w wr) (hlt : w.heap.size < bs) (hb1 : Below (wr.alloc (.cells o.arr 44)).heap.size (wr.alloc (.cells o.arr 44)) w1) :
    FSt w bs wr.heap.size w1.heap.size o r e0 e1 seen made x (w1.alloc (.cells r.arr 150)) := by
  obtain ⟨h0, hB, hz⟩ := after1 hb1
  have hl := lt_of_block' hseen
  exact ⟨old1 _ h0, heap_alloc_new _ _, old1 _ ((hB.block _ hl).trans hseen), old1 _ ((hB.block _ (by omega)).trans hel), (Below.owns hown hB).alloc _, (hb.trans (hB.mono hb.size)).alloc (by have := hb.size; omega) _, hlt, hl, by omega⟩
/-- The first test: may the operation, by itself, tell its number? -/
theorem opSeen_not (seen : List Int) (o : MOp) (b : Bool) (h : mTold o = false) : opSeen seen o b = seen := by simp [opSeen, h]
theorem opSeen_no (seen : List Int) (o : MOp) : opSeen seen o false = seen := by simp [opSeen]
theorem opSeen_yes (seen : List Int) (o : MOp) (h : mTold o = true) : opSeen seen o true = seen.set o.k.toNat 1 := by simp [opSeen, h]
theorem formsGo_no {e0 e1 : Int} {outs : Nat} {o : MOp} {l : List MOp} {seen made : List Int} {r : Rule} {B : Bool} (hr : mRule o e0 e1 = (r, B)) (h : opOk outs seen made o (r, B) = false) : formsGo e0 e1 outs (o :: l) seen made = none := by
  rw [formsGo, hr, h]; rfl
theorem formsGo_yes {e0 e1 : Int} {outs : Nat} {o : MOp} {l : List MOp} {seen made : List Int} {r : Rule} {B ok1 : Bool} (hr : mRule o e0 e1 = (r, B)) (h : opOk outs seen made o (r, B) = true) (h1 : opOk1 outs seen o (r, B) = ok1) :
    formsGo e0 e1 outs (o :: l) seen made = formsGo e0 e1 outs l (opSeen seen o ok1) (made ++ [r.makes]) := by
  rw [formsGo, hr, h, h1]; rfl
theorem opSeen_len (seen : List Int) (o : MOp) (b : Bool) : (opSeen seen o b).length = seen.length := by unfold opSeen; split <;> simp
end Go.Proofs.YtjbhgimhcjcpmaaGreatDoor
