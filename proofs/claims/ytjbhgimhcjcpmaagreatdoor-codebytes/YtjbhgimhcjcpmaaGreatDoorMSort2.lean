/-
  THE CONTRACTS of slices.Sort and slices.Compact at lists of two numbers at most.
-/
import Derived.Test.YtjbhgimhcjcpmaaGreatDoorMHeapM
import Derived.Test.YtjbhgimhcjcpmaaGreatDoorMPlanWants
set_option linter.unusedSimpArgs false
set_option linter.unusedVariables false
namespace Go.Proofs.YtjbhgimhcjcpmaaGreatDoor
open Go.RowKit

set_option maxHeartbeats 1000000 in
set_option maxRecDepth 100000 in
theorem isNaN_any (x : Int) (w : World) : Calls Tryz.prog 111 #[.int .i64 x] w fun e w' => e = .returned (.bool false) ∧ w' = w := by
  go_enter Tryz.func111, Tryz.ntmps111
  go_wp2_with fail
  go_ret
  exact ⟨by simp, rfl⟩
set_option maxHeartbeats 1000000 in
set_option maxRecDepth 100000 in
theorem cmpLess_any (x y : Int) (w : World) : Calls Tryz.prog 89 #[.int .i64 x, .int .i64 y] w fun e w' => e = .returned (.bool (decide (x < y))) ∧ w' = w := by
  go_enter Tryz.func89, Tryz.ntmps89
  go_wp2_with (go_at_call 111; go_must (refine (isNaN_any _ _).mono ?_; rintro e w' ⟨rfl, rfl⟩))
  go_ret
  exact ⟨rfl, rfl⟩
set_option maxHeartbeats 1000000 in
set_option maxRecDepth 100000 in
theorem bitsLen_0 (w : World) : Calls Tryz.prog 95 #[.int .u64 0] w fun e w' => (∃ r, e = .returned (.int .i64 r)) ∧ w = w' := by
  go_enter Tryz.func95, Tryz.ntmps95
  go_wp2
  go_ret
  exact ⟨⟨_, rfl⟩, rfl⟩
set_option maxHeartbeats 1000000 in
set_option maxRecDepth 100000 in
theorem bitsLen_1 (w : World) : Calls Tryz.prog 95 #[.int .u64 1] w fun e w' => (∃ r, e = .returned (.int .i64 r)) ∧ w = w' := by
  go_enter Tryz.func95, Tryz.ntmps95
  go_wp2
  go_ret
  exact ⟨⟨_, rfl⟩, rfl⟩
set_option maxHeartbeats 1000000 in
set_option maxRecDepth 100000 in
theorem bitsLen_2 (w : World) : Calls Tryz.prog 95 #[.int .u64 2] w fun e w' => (∃ r, e = .returned (.int .i64 r)) ∧ w = w' := by
  go_enter Tryz.func95, Tryz.ntmps95
  go_wp2
  go_ret
  exact ⟨⟨_, rfl⟩, rfl⟩

set_option maxHeartbeats 1000000 in
set_option maxRecDepth 100000 in
theorem insSort_small (v : Value) (n : Nat) (w : World) (hn : n ≤ 1) : Calls Tryz.prog 113 #[v, .int .i64 0, .int .i64 n] w fun e w' => e = .returned (.tuple #[]) ∧ w = w' := by
  go_enter Tryz.func113, Tryz.ntmps113
  go_wp2_with fail
  refine wp_loop_rounds 1 ?_
  rw [rounds_succ]
  go_wp2_with fail
  go_end0
  exact ⟨rfl, rfl⟩

set_option maxHeartbeats 1000000 in
set_option maxRecDepth 100000 in
theorem insSort_two (g cap : Nat) (x y : Int) (base : Nat) (w : World) (hown : w.ownsRow base 3 1 (.slice (some ⟨g, 0, none⟩) 2 cap) 2 (ints [x, y])) (hlt : ¬ y < x) :
    Calls Tryz.prog 113 #[.slice (some ⟨g, 0, none⟩) 2 cap, .int .i64 0, .int .i64 2] w fun e w' => e = .returned (.tuple #[]) ∧ ∃ n, w' = w.drewN n := by
  have hc0 : w.cell? ⟨g, 0, none⟩ = some (.int .i64 x) := by have := hown.cellAt 0 (by omega); simpa [ints] using this
  have hc1 : w.cell? ⟨g, 1, none⟩ = some (.int .i64 y) := by have := hown.cellAt 1 (by omega); simpa [ints] using this
  have hd : decide (y < x) = false := by simpa using hlt
  clear hown hlt
  go_enter Tryz.func113, Tryz.ntmps113
  go_wp2_with fail
  refine wp_loop_rounds 2 ?_
  rw [rounds_succ]
  go_wp2_with fail
  refine wp_loop_rounds 1 ?_
  rw [rounds_succ]
  go_wp2_with fail
  go_quiet ((go_at_call 89; exact Calls.quiet_of_same (cmpLess_any _ _ _)))
  go_wp2_with fail
  rw [rounds_succ]
  go_wp2_with fail
  go_end0
  exact ⟨rfl, _, rfl⟩

/-- Two numbers in order. -/
def srt : List Int → List Int
  | [x, y] => if y < x then [y, x] else [x, y]
  | l => l
/-- All that changes is the row of v. -/
abbrev OFr (v : Value) (w w' : World) : Prop := FFr w.heap.size v w w'
theorem OFr.drewN {v : Value} {w w' : World} (h : OFr v w w') (n : Nat) : OFr v w (w'.drewN n) := FFr.drewN h n

set_option maxHeartbeats 1000000 in
set_option maxRecDepth 100000 in
theorem insSort_swap (g cap : Nat) (x y : Int) (base : Nat) (w : World) (hown : w.ownsRow base 3 1 (.slice (some ⟨g, 0, none⟩) 2 cap) 2 (ints [x, y])) (hlt : y < x) :
    Calls Tryz.prog 113 #[.slice (some ⟨g, 0, none⟩) 2 cap, .int .i64 0, .int .i64 2] w fun e w' => e = .returned (.tuple #[]) ∧ w'.ownsRow base 3 1 (.slice (some ⟨g, 0, none⟩) 2 cap) 2 (ints [y, x]) ∧ OFr (.slice (some ⟨g, 0, none⟩) 2 cap) w w' := by
  have hc0 : w.cell? ⟨g, 0, none⟩ = some (.int .i64 x) := by have := hown.cellAt 0 (by omega); simpa [ints] using this
  have hc1 : w.cell? ⟨g, 1, none⟩ = some (.int .i64 y) := by have := hown.cellAt 1 (by omega); simpa [ints] using this
  have hf : ∀ k, w.frozen? ⟨g, k, none⟩ = false := by
    intro k
    rcases hown.2 with ⟨h0, _⟩ | ⟨g', cap', cur, hv, _, hg, _⟩
    · exact absurd h0 (by simp)
    · simp only [Value.slice.injEq, Option.some.injEq, Addr.mk.injEq] at hv
      obtain ⟨⟨rfl, _⟩, _, rfl⟩ := hv
      simp [World.frozen?, hg]
  have hf0 := hf 0
  have hf1 := hf 1
  have HX := Lib.hid (own_set (own_set hown 1 (by omega) (.int .i64 x)) 0 (by omega) (.int .i64 y))
  have hd : decide (y < x) = true := by simpa using hlt
  clear hown hlt hf
  go_enter Tryz.func113, Tryz.ntmps113
  go_wp2_with fail
  refine wp_loop_rounds 2 ?_
  rw [rounds_succ]
  go_wp2_with fail
  refine wp_loop_rounds 2 ?_
  rw [rounds_succ]
  go_wp2_with fail
  go_quiet ((go_at_call 89; exact Calls.quiet_of_same (cmpLess_any _ _ _)))
  go_wp2_with fail
  go_region
  all_goals
    go_wp2_with fail
    rw [rounds_succ]
    go_wp2_with fail
    go_quiet (fail)
    go_wp2_with fail
    rw [rounds_succ]
    go_wp2_with fail
    go_end0
    refine ⟨rfl, ?_, FFr.drewN (FFr.setOwn (a := ⟨g, 0, none⟩) (FFr.setOwn (a := ⟨g, 1, none⟩) (FFr.drewN (FFr.refl _ _ _) _) rfl _) rfl _) _⟩
    have h2 : ((ints [x, y]).set 1 (Value.int .i64 x)).set 0 (Value.int .i64 y) = ints [y, x] := by simp [ints]
    have h3 := HX.out
    rw [h2] at h3
    exact h3

/-- What is owned of such a length. -/
theorem own_two {w : World} {base : Nat} {e : TypeId} {v : Value} {n : Nat} {xs : List Value} (h : w.ownsRow base e 1 v n xs) : (n = 0 ∧ ∃ a c, v = .slice a 0 c) ∨ ∃ g cap, v = .slice (some ⟨g, 0, none⟩) n cap ∧ base ≤ g ∧ g < w.heap.size ∧ n ≤ cap ∧ cap ≤ maxLen := by
  rcases h.2 with ⟨rfl, rfl⟩ | ⟨g, cap, cur, rfl, hb, hg, hnc, hcm, _⟩
  · exact .inl ⟨rfl, _, _, rfl⟩
  · exact .inr ⟨g, cap, rfl, hb, lt_of_block' hg, hnc, hcm⟩

set_option maxHeartbeats 1000000 in
set_option maxRecDepth 100000 in
theorem pdq_small (v : Value) (n : Nat) (r : Int) (w : World) (hn : n ≤ 1) : Calls Tryz.prog 94 #[v, .int .i64 0, .int .i64 n, .int .i64 r] w fun e w' => e = .returned (.tuple #[]) ∧ w = w' := by
  go_enter Tryz.func94, Tryz.ntmps94
  go_wp2_with fail
  refine wp_loop_rounds 1 ?_
  rw [rounds_succ]
  go_wp2_with (go_at_call 113; go_must (refine (insSort_small v n _ hn).mono ?_; rintro e w' ⟨rfl, rfl⟩))
  first | go_end0 | refine bodyPost_ret (results_none rfl _ _ _) rfl ?_
  exact ⟨rfl, rfl⟩
set_option maxHeartbeats 1000000 in
set_option maxRecDepth 100000 in
theorem pdq_two (R : World → Prop) (v : Value) (r : Int) (w : World) (h : Calls Tryz.prog 113 #[v, .int .i64 0, .int .i64 2] w fun e w' => e = .returned (.tuple #[]) ∧ R w') :
    Calls Tryz.prog 94 #[v, .int .i64 0, .int .i64 2, .int .i64 r] w fun e w' => e = .returned (.tuple #[]) ∧ R w' := by
  have H := Lib.hid h
  clear h
  go_enter Tryz.func94, Tryz.ntmps94
  go_wp2_with fail
  refine wp_loop_rounds 1 ?_
  rw [rounds_succ]
  go_wp2_with (go_at_call 113; go_must (refine H.out.mono ?_; rintro e w' ⟨rfl, hr⟩; have HR := Lib.hid hr; clear hr))
  first | go_end0 | refine bodyPost_ret (results_none rfl _ _ _) rfl ?_
  exact ⟨rfl, HR.out⟩

set_option maxHeartbeats 1000000 in
set_option maxRecDepth 100000 in
theorem sort_0 (a : Option Addr) (c : Nat) (w : World) : Calls Tryz.prog 61 #[.slice a 0 c] w fun e w' => e = .returned (.tuple #[]) ∧ w = w' := by
  go_enter Tryz.func61, Tryz.ntmps61
  go_wp2_with (first | (go_at_call 95; go_must (refine (bitsLen_0 _).mono ?_; rintro e w' ⟨⟨r, rfl⟩, rfl⟩)) | (go_at_call 94; go_must (refine (pdq_small _ 0 _ _ (by omega)).mono ?_; rintro e w' ⟨rfl, rfl⟩)))
  go_end0
  exact ⟨rfl, rfl⟩
set_option maxHeartbeats 1000000 in
set_option maxRecDepth 100000 in
theorem sort_1 (a : Option Addr) (c : Nat) (w : World) : Calls Tryz.prog 61 #[.slice a 1 c] w fun e w' => e = .returned (.tuple #[]) ∧ w = w' := by
  go_enter Tryz.func61, Tryz.ntmps61
  go_wp2_with (first | (go_at_call 95; go_must (refine (bitsLen_1 _).mono ?_; rintro e w' ⟨⟨r, rfl⟩, rfl⟩)) | (go_at_call 94; go_must (refine (pdq_small _ 1 _ _ (by omega)).mono ?_; rintro e w' ⟨rfl, rfl⟩)))
  go_end0
  exact ⟨rfl, rfl⟩
set_option maxHeartbeats 1000000 in
set_option maxRecDepth 100000 in
theorem sort_2 (R : World → Prop) (a : Option Addr) (c : Nat) (w : World) (h : Calls Tryz.prog 113 #[.slice a 2 c, .int .i64 0, .int .i64 2] w fun e w' => e = .returned (.tuple #[]) ∧ R w') :
    Calls Tryz.prog 61 #[.slice a 2 c] w fun e w' => e = .returned (.tuple #[]) ∧ R w' := by
  have H := Lib.hid h
  clear h
  go_enter Tryz.func61, Tryz.ntmps61
  go_wp2_with (first | (go_at_call 95; go_must (refine (bitsLen_2 _).mono ?_; rintro e w' ⟨⟨r, rfl⟩, rfl⟩)) | (go_at_call 94; go_must (refine (pdq_two R _ _ _ H.out).mono ?_; rintro e w' ⟨rfl, hr⟩; have HR := Lib.hid hr; clear hr)))
  go_end0
  exact ⟨rfl, HR.out⟩

/-- slices.Sort of two numbers at most. -/
theorem sort_any (v : Value) (l : List Int) (base : Nat) (w : World) (hl : l.length ≤ 2) (hown : w.ownsRow base 3 1 v l.length (ints l)) :
    Calls Tryz.prog 61 #[v] w fun e w' => e = .returned (.tuple #[]) ∧ w'.ownsRow base 3 1 v (srt l).length (ints (srt l)) ∧ OFr v w w' := by
  match l, hl with
  | [], _ =>
    rcases own_two hown with ⟨_, a, c, rfl⟩ | ⟨g, cap, rfl, _⟩
    · exact (sort_0 a c w).mono fun e w' ⟨he, hw⟩ => by subst hw; exact ⟨he, hown, FFr.refl _ _ _⟩
    · exact (sort_0 _ cap w).mono fun e w' ⟨he, hw⟩ => by subst hw; exact ⟨he, hown, FFr.refl _ _ _⟩
  | [x], _ =>
    rcases own_two hown with ⟨h0, _⟩ | ⟨g, cap, rfl, _⟩
    · simp at h0
    · exact (sort_1 _ cap w).mono fun e w' ⟨he, hw⟩ => by subst hw; exact ⟨he, hown, FFr.refl _ _ _⟩
  | [x, y], _ =>
    rcases own_two hown with ⟨h0, _⟩ | ⟨g, cap, rfl, _⟩
    · simp at h0
    · by_cases hlt : y < x
      · rw [show srt [x, y] = [y, x] by simp [srt, hlt]]
        exact sort_2 _ _ _ _ (insSort_swap g cap x y base w hown hlt)
      · rw [show srt [x, y] = [x, y] by simp [srt, hlt]]
        refine sort_2 (fun w' => w'.ownsRow base 3 1 (.slice (some ⟨g, 0, none⟩) 2 cap) 2 (ints [x, y]) ∧ OFr (.slice (some ⟨g, 0, none⟩) 2 cap) w w') _ _ _ ((insSort_two g cap x y base w hown hlt).mono fun e w' ⟨he, n, hw⟩ => ?_)
        subst hw
        exact ⟨he, hown, (FFr.refl _ _ _).drewN n⟩
end Go.Proofs.YtjbhgimhcjcpmaaGreatDoor

/-
  THE CONTRACT of slices.Compact at lists of two numbers at most.
-/
namespace Go.Proofs.YtjbhgimhcjcpmaaGreatDoor
open Go.RowKit

/-- Two numbers, each once. -/
def cmp2 : List Int → List Int
  | [x, y] => if x = y then [x] else [x, y]
  | l => l

set_option maxHeartbeats 1000000 in
set_option maxRecDepth 100000 in
theorem compact_small (a : Option Addr) (n c : Nat) (w : World) (hn : n ≤ 1) : Calls Tryz.prog 62 #[.slice a n c] w fun e w' => e = .returned (.slice a n c) ∧ w = w' := by
  go_enter Tryz.func62, Tryz.ntmps62
  go_wp2_with fail
  go_ret
  exact ⟨rfl, rfl⟩

set_option maxHeartbeats 1000000 in
set_option maxRecDepth 100000 in
theorem compact_ne (g cap : Nat) (x y : Int) (base : Nat) (w : World) (hown : w.ownsRow base 3 1 (.slice (some ⟨g, 0, none⟩) 2 cap) 2 (ints [x, y])) (hxy : ¬ x = y) :
    Calls Tryz.prog 62 #[.slice (some ⟨g, 0, none⟩) 2 cap] w fun e w' => e = .returned (.slice (some ⟨g, 0, none⟩) 2 cap) ∧ ∃ n, w' = w.drewN n := by
  have hc0 : w.cell? ⟨g, 0, none⟩ = some (.int .i64 x) := by have := hown.cellAt 0 (by omega); simpa [ints] using this
  have hc1 : w.cell? ⟨g, 1, none⟩ = some (.int .i64 y) := by have := hown.cellAt 1 (by omega); simpa [ints] using this
  have hd : (y == x) = false := by simp; exact fun h => hxy h.symm
  clear hown hxy
  go_enter Tryz.func62, Tryz.ntmps62
  go_wp2_with fail
  refine wp_loop_rounds 2 ?_
  rw [rounds_succ]
  go_wp2_with fail
  go_quiet (fail)
  go_wp2_with fail
  rw [rounds_succ]
  go_wp2_with fail
  go_ret
  exact ⟨rfl, _, rfl⟩

theorem zero_int_cells : (Builtin.zeroCells #[Value.int .i64 0] 1).toList = [.int .i64 0] := by first | rfl | kernel_rfl | simp [Builtin.zeroCells]
theorem run_clear_one (w : World) (g c : Nat) (v : Value) (hc : w.cell? ⟨g, 1, none⟩ = some v) (hf : w.frozen? ⟨g, 1, none⟩ = false) :
    (Builtin.clear_ #[24] 0 #[.slice (some ⟨g, 1, none⟩) 1 c]).run Tryz.prog w = .ok (.tuple #[]) (w.setCell ⟨g, 1, none⟩ (.int .i64 0)) := by
  have hz : (zeroValue 3).run Tryz.prog w = .ok (.int .i64 0) w := by kernel_rfl
  have hl : (Builtin.zeroCells (Value.int .i64 0).cells 1).toList = [.int .i64 0] := zero_int_cells
  have hs : (storeCells ⟨g, 1, none⟩ [.int .i64 0]).run Tryz.prog w = .ok () (w.setCell ⟨g, 1, none⟩ (.int .i64 0)) := by
    simp [storeCells, Addr.add, hc, hf, Result.andThen, go_sem]
  simp only [Builtin.clear_]
  simp [run_underlying Tryz.underlying24, hz, hl, hs, Result.andThen]

set_option maxHeartbeats 1000000 in
set_option maxRecDepth 100000 in
theorem compact_eq (g cap : Nat) (x : Int) (base : Nat) (w : World) (hown : w.ownsRow base 3 1 (.slice (some ⟨g, 0, none⟩) 2 cap) 2 (ints [x, x])) :
    Calls Tryz.prog 62 #[.slice (some ⟨g, 0, none⟩) 2 cap] w fun e w' => e = .returned (.slice (some ⟨g, 0, none⟩) 1 cap) ∧ w'.ownsRow base 3 1 (.slice (some ⟨g, 0, none⟩) 1 cap) 1 (ints [x]) ∧ OFr (.slice (some ⟨g, 0, none⟩) 2 cap) w w' := by
  have hc0 : w.cell? ⟨g, 0, none⟩ = some (.int .i64 x) := by have := hown.cellAt 0 (by omega); simpa [ints] using this
  have hc1 : w.cell? ⟨g, 1, none⟩ = some (.int .i64 x) := by have := hown.cellAt 1 (by omega); simpa [ints] using this
  have hf : w.frozen? ⟨g, 1, none⟩ = false := by
    rcases hown.2 with ⟨h0, _⟩ | ⟨g', cap', cur, hv, _, hg, _⟩
    · exact absurd h0 (by simp)
    · simp only [Value.slice.injEq, Option.some.injEq, Addr.mk.injEq] at hv
      obtain ⟨⟨rfl, _⟩, _, rfl⟩ := hv
      simp [World.frozen?, hg]
  have hcap : 2 ≤ cap ∧ cap ≤ maxLen := by
    rcases own_two hown with ⟨h0, _⟩ | ⟨g', cap', hv, _, _, h1, h2⟩
    · omega
    · simp only [Value.slice.injEq, Option.some.injEq, Addr.mk.injEq] at hv
      obtain ⟨_, _, rfl⟩ := hv
      exact ⟨h1, h2⟩
  obtain ⟨hcap1, hcap2⟩ := hcap
  unfold maxLen at hcap2
  have HO := Lib.hid (own_take (own_set hown 1 (by omega) (.int .i64 0)) 1 (by omega))
  have hcl := fun (n : Nat) => run_clear_one (w.drewN n) g (cap - 1) (.int .i64 x) (by simpa using hc1) (by simpa using hf)
  clear hown
  go_enter Tryz.func62, Tryz.ntmps62
  go_wp2_with fail
  refine wp_loop_rounds 2 ?_
  rw [rounds_succ]
  go_wp2_with fail
  go_quiet (fail)
  go_wp2_with fail
  refine wp_loop_rounds 1 ?_
  rw [rounds_succ]
  go_wp2_with fail
  go_ret
  refine ⟨rfl, ?_, ?_⟩
  · have h2 : ((ints [x, x]).set 1 (Value.int .i64 0)).take 1 = ints [x] := by simp [ints]
    have h3 := HO.out
    rw [h2] at h3
    exact h3
  · first
    | exact FFr.setOwn (a := ⟨g, 1, none⟩) (FFr.drewN (FFr.refl _ _ _) _) rfl _
    | exact FFr.drewN (FFr.setOwn (a := ⟨g, 1, none⟩) (FFr.refl _ _ _) rfl _) _

/-- slices.Compact of two numbers at most. -/
theorem compact_any (v : Value) (l : List Int) (base : Nat) (w : World) (hl : l.length ≤ 2) (hown : w.ownsRow base 3 1 v l.length (ints l)) :
    Calls Tryz.prog 62 #[v] w fun e w' => ∃ v', e = .returned v' ∧ w'.ownsRow base 3 1 v' (cmp2 l).length (ints (cmp2 l)) ∧ OFr v w w' ∧ v'.ownBlock = v.ownBlock := by
  match l, hl with
  | [], _ =>
    rcases own_two hown with ⟨_, a, c, rfl⟩ | ⟨g, cap, rfl, _⟩
    · exact (compact_small a 0 c w (by omega)).mono fun e w' ⟨he, hw⟩ => by subst hw; exact ⟨_, he, hown, FFr.refl _ _ _, rfl⟩
    · exact (compact_small _ 0 cap w (by omega)).mono fun e w' ⟨he, hw⟩ => by subst hw; exact ⟨_, he, hown, FFr.refl _ _ _, rfl⟩
  | [x], _ =>
    rcases own_two hown with ⟨h0, _⟩ | ⟨g, cap, rfl, _⟩
    · simp at h0
    · exact (compact_small _ 1 cap w (by omega)).mono fun e w' ⟨he, hw⟩ => by subst hw; exact ⟨_, he, hown, FFr.refl _ _ _, rfl⟩
  | [x, y], _ =>
    rcases own_two hown with ⟨h0, _⟩ | ⟨g, cap, rfl, _⟩
    · simp at h0
    · by_cases hxy : x = y
      · subst hxy
        rw [show cmp2 [x, x] = [x] by simp [cmp2]]
        exact (compact_eq g cap x base w hown).mono fun e w' ⟨he, h1, h2⟩ => ⟨_, he, h1, h2, rfl⟩
      · rw [show cmp2 [x, y] = [x, y] by simp [cmp2, hxy]]
        refine (compact_ne g cap x y base w hown hxy).mono fun e w' ⟨he, n, hw⟩ => ?_
        subst hw
        exact ⟨_, he, hown, (FFr.refl _ _ _).drewN n, rfl⟩
end Go.Proofs.YtjbhgimhcjcpmaaGreatDoor

/-
  PLAIN MIRRORS of plan.Slots.
-/
namespace Go.Proofs.YtjbhgimhcjcpmaaGreatDoor

/-- The places that an operation is made of, the lowest first, each once. -/
def mPlaces (o : MOp) : List Int := cmp2 (srt (mWantsL o))
theorem mWantsL_len (o : MOp) : (mWantsL o).length ≤ 2 := by unfold mWantsL; split <;> (try split) <;> (try split) <;> simp
theorem srt_mem (l : List Int) (x : Int) : x ∈ srt l ↔ x ∈ l := by
  match l with
  | [] => rfl
  | [a] => rfl
  | [a, b] => simp only [srt]; split <;> simp [or_comm]
  | _ :: _ :: _ :: _ => rfl
theorem srt_len (l : List Int) : (srt l).length = l.length := by
  match l with
  | [] => rfl
  | [a] => rfl
  | [a, b] => simp only [srt]; split <;> rfl
  | _ :: _ :: _ :: _ => rfl
theorem cmp2_sub (l : List Int) (x : Int) (h : x ∈ cmp2 l) : x ∈ l := by
  match l with
  | [] => exact h
  | [a] => exact h
  | [a, b] => simp only [cmp2] at h; split at h <;> simp_all
  | _ :: _ :: _ :: _ => exact h
theorem cmp2_len (l : List Int) : (cmp2 l).length ≤ l.length := by
  match l with
  | [] => simp [cmp2]
  | [a] => simp [cmp2]
  | [a, b] => simp only [cmp2]; split <;> simp
  | _ :: _ :: _ :: _ => simp [cmp2]
theorem mPlaces_len (o : MOp) : (mPlaces o).length ≤ 2 := Nat.le_trans (cmp2_len _) (by rw [srt_len]; exact mWantsL_len o)
theorem mPlaces_sub (o : MOp) (x : Int) (h : x ∈ mPlaces o) : x ∈ mWantsL o := (srt_mem _ _).1 (cmp2_sub _ _ h)

/-- The wanted places are those of a rule. -/
theorem wants_places {o : MOp} {e0 e1 : Int} (h : (mRule o e0 e1).2 = true) (x : Int) (hx : x ∈ mWantsL o) : (x = o.a ∧ (mRule o e0 e1).1.a ≠ 0) ∨ (x = o.b ∧ (mRule o e0 e1).1.b ≠ 0) := by
  by_cases h1 : o.kind = 1
  · simp [mWantsL, h1] at hx
  by_cases h17 : o.kind = 17
  · have hok := rule_garb h h17
    have hr : mRule o e0 e1 = (⟨mFormOf o.c, if o.k = 1 then 0 else mFormOf (o.c / 2), 2, 4, true, false, 2⟩, true) := by
      have : ¬ ((17 : Int) = 1) := by decide
      simp only [mRule, h17, if_true, if_neg this, mGarbRule, if_pos hok]
    have hf : ∀ c, mFormOf c ≠ 0 := by intro c; unfold mFormOf; split <;> decide
    by_cases hk : o.k = 1
    · have hx' : x = o.a := by simpa [mWantsL, h17, hk] using hx
      exact .inl ⟨hx', by rw [hr]; exact hf _⟩
    · have hx' : x = o.a ∨ x = o.b := by simpa [mWantsL, h17, hk] using hx
      rcases hx' with hx' | hx'
      · exact .inl ⟨hx', by rw [hr]; exact hf _⟩
      · exact .inr ⟨hx', by rw [hr]; simp only [if_neg hk]; exact hf _⟩
  have hr : mRule o e0 e1 = tabRule o.kind := by simp [mRule, h1, h17]
  rw [hr] at h ⊢
  rcases tabRule_known _ h with k | k | k | k | k | k | k | k | k | k | k | k | k | k | k | k | k <;>
    simp [mWantsL, k] at hx <;> rw [k] <;> first | exact .inl ⟨hx, by decide⟩ | (rcases hx with hx | hx; exact .inl ⟨hx, by decide⟩; exact .inr ⟨hx, by decide⟩)

/-- The wanted places of an operation of a program lie ahead of it. -/
theorem places_ahead {ops : List MOp} (h : mCheck ops 65536 65536 = true) (k : Nat) (hk : k < ops.length) (x : Int) (hx : x ∈ mWantsL ops[k]) : 0 ≤ x ∧ x < k := by
  have h1 := check_places h k hk
  rcases wants_places (check_rules h k hk) x hx with ⟨rfl, h2⟩ | ⟨rfl, h2⟩
  · exact h1.1 h2
  · exact h1.2 h2

/-- Of each operation the last that wants it. -/
def lastStep (last : List Int) (k : Nat) (o : MOp) : List Int := (mWantsL o).foldl (fun L a => L.set a.toNat k) (last.set k k)
def lastGo : List MOp → Nat → List Int → List Int
  | [], _, L => L
  | o :: l, k, L => lastGo l (k + 1) (lastStep L k o)
def mLast (ops : List MOp) : List Int := lastGo ops 0 (List.replicate ops.length 0)
theorem foldl_set_len (l : List Int) (k : Int) : ∀ L : List Int, (l.foldl (fun L a => L.set a.toNat k) L).length = L.length := by
  induction l with
  | nil => intro L; rfl
  | cons a l ih => intro L; rw [List.foldl_cons, ih]; simp
theorem lastStep_len (last : List Int) (k : Nat) (o : MOp) : (lastStep last k o).length = last.length := by rw [lastStep, foldl_set_len]; simp
theorem lastGo_len : ∀ (l : List MOp) (k : Nat) (L : List Int), (lastGo l k L).length = L.length
  | [], _, _ => rfl
  | o :: l, k, L => by rw [lastGo, lastGo_len l, lastStep_len]
theorem mLast_len (ops : List MOp) : (mLast ops).length = ops.length := by rw [mLast, lastGo_len]; simp

/-- What becomes of the free slots as an operation is come to, and as it is left. -/
def freed (last slots : List Int) (k : Nat) (f : List Int) (a : Int) : List Int := if last.getD a.toNat 0 = k then fPush f (slots.getD a.toNat 0) else f
structure SlotSt where
  slots : List Int
  arena : Int
  free : List Int
def slotTake (last : List Int) (k : Nat) (o : MOp) (s : SlotSt) : List Int := (mPlaces o).foldl (freed last s.slots k) s.free
def slotGive (k : Nat) (s : SlotSt) (f : List Int) : SlotSt := if 0 < f.length then ⟨s.slots.set k (f.getD 0 0), s.arena, fPop f⟩ else ⟨s.slots.set k s.arena, s.arena + 1, f⟩
def slotDone (last : List Int) (k : Nat) (s : SlotSt) : SlotSt := if last.getD k 0 = k then { s with free := fPush s.free (s.slots.getD k 0) } else s
def slotStep (last : List Int) (k : Nat) (o : MOp) (s : SlotSt) : SlotSt := slotDone last k (slotGive k s (slotTake last k o s))
def slotGo (last : List Int) : List MOp → Nat → SlotSt → SlotSt
  | [], _, s => s
  | o :: l, k, s => slotGo last l (k + 1) (slotStep last k o s)
def slots0 (n : Nat) : SlotSt := ⟨List.replicate n 0, 0, []⟩
def mSlots (ops : List MOp) : List Int × Int :=
  if mCheck ops 65536 65536 then let s := slotGo (mLast ops) ops 0 (slots0 ops.length); (s.slots, s.arena) else ([], 0)

theorem freed_len (last slots : List Int) (k : Nat) (f : List Int) (a : Int) : (freed last slots k f a).length ≤ f.length + 1 := by unfold freed; split <;> simp [fPush_len]
theorem foldl_freed_len (last slots : List Int) (k : Nat) : ∀ (l f : List Int), (l.foldl (freed last slots k) f).length ≤ f.length + l.length
  | [], f => by simp
  | a :: l, f => by
    rw [List.foldl_cons]
    have h1 := foldl_freed_len last slots k l (freed last slots k f a)
    have h2 := freed_len last slots k f a
    simp only [List.length_cons]; omega
theorem slotTake_len (last : List Int) (k : Nat) (o : MOp) (s : SlotSt) : (slotTake last k o s).length ≤ s.free.length + 2 := by
  have h1 := foldl_freed_len last s.slots k (mPlaces o) s.free
  have h2 := mPlaces_len o
  unfold slotTake; omega
theorem slotGive_len (k : Nat) (s : SlotSt) (f : List Int) : (slotGive k s f).free.length ≤ f.length ∧ (slotGive k s f).slots.length = s.slots.length := by
  unfold slotGive; split <;> simp [fPop_len]
theorem slotDone_len (last : List Int) (k : Nat) (s : SlotSt) : (slotDone last k s).free.length ≤ s.free.length + 1 ∧ (slotDone last k s).slots.length = s.slots.length := by
  unfold slotDone; split <;> simp [fPush_len]
theorem slotStep_len (last : List Int) (k : Nat) (o : MOp) (s : SlotSt) : (slotStep last k o s).free.length ≤ s.free.length + 3 ∧ (slotStep last k o s).slots.length = s.slots.length := by
  have h1 := slotTake_len last k o s
  have h2 := slotGive_len k s (slotTake last k o s)
  have h3 := slotDone_len last k (slotGive k s (slotTake last k o s))
  unfold slotStep; omega
theorem slotGo_len (last : List Int) : ∀ (l : List MOp) (k : Nat) (s : SlotSt), (slotGo last l k s).slots.length = s.slots.length
  | [], _, _ => rfl
  | o :: l, k, s => by rw [slotGo, slotGo_len last l, (slotStep_len last k o s).2]
end Go.Proofs.YtjbhgimhcjcpmaaGreatDoor
