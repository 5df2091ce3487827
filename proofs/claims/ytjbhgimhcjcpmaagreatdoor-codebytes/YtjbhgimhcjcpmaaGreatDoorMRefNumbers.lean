/-
  THE CONTRACT of twainref11.numbers.
-/
import Derived.Test.YtjbhgimhcjcpmaaGreatDoorMRefWants
set_option linter.unusedSimpArgs false
set_option linter.unusedVariables false
namespace Go.Proofs.YtjbhgimhcjcpmaaGreatDoor
open Go.RowKit
set_option linter.unusedVariables false

theorem below_drewN {B : Nat} {w w' : World} (h : Below B w w') (n : Nat) : Below B w (w'.drewN n) := ⟨h.os, h.tape, h.output, h.size, h.block⟩
/-- Are K, C and Party as the kind wants them? -/
def rNumbers (o : MOp) (e0 e1 : Int) : Bool :=
  if o.party < 0 ∨ 1 < o.party ∨ (o.party = 1 ∧ o.kind ≠ 1 ∧ o.kind ≠ 15 ∧ o.kind ≠ 16) then false
  else if o.c ≠ 0 ∧ o.kind ≠ 2 ∧ o.kind ≠ 5 ∧ o.kind ≠ 8 ∧ o.kind ≠ 10 ∧ o.kind ≠ 17 then false
  else if o.kind = 1 then decide (0 ≤ o.k) && decide (o.k < if o.party = 0 then e0 else e1)
  else if o.kind = 11 ∨ o.kind = 12 ∨ o.kind = 13 ∨ o.kind = 16 then decide (0 ≤ o.k) && decide (o.k < 64)
  else if o.kind = 17 ∨ o.kind = 18 ∨ o.kind = 19 then true else o.k == 0

set_option maxHeartbeats 1000000 in
set_option maxRecDepth 100000 in
theorem numbers_1 (kind : Int) (party : Int) (c : Nat) (a b k e0 e1 : Int) (w : World) (h0 : decide (party < 0) = true) :
    Calls Tryz.prog 74 #[.agg #[.int .i64 kind, .int .i64 a, .int .i64 b, .int .i64 k, .int .u64 c, .int .i64 party], .agg #[.int .i64 e0, .int .i64 e1]] w (RetB (.bool false) w) := by
  go_enter Tryz.func74, Tryz.ntmps74
  go_wp2_with fail
  first | (go_quiet (fail)) | skip
  go_wp2_with fail
  go_ret
  exact ⟨by first | rfl | simp, by first | exact below_alloc2 _ _ _ | exact (below_alloc2 _ _ _).drew | exact below_drewN (below_alloc2 _ _ _) _⟩

set_option maxHeartbeats 1000000 in
set_option maxRecDepth 100000 in
theorem numbers_2 (kind : Int) (party : Int) (c : Nat) (a b k e0 e1 : Int) (w : World) (h0 : decide (party < 0) = false) (h1 : decide (1 < party) = true) :
    Calls Tryz.prog 74 #[.agg #[.int .i64 kind, .int .i64 a, .int .i64 b, .int .i64 k, .int .u64 c, .int .i64 party], .agg #[.int .i64 e0, .int .i64 e1]] w (RetB (.bool false) w) := by
  go_enter Tryz.func74, Tryz.ntmps74
  go_wp2_with fail
  first | (go_quiet (fail)) | skip
  go_wp2_with fail
  go_ret
  exact ⟨by first | rfl | simp, by first | exact below_alloc2 _ _ _ | exact (below_alloc2 _ _ _).drew | exact below_drewN (below_alloc2 _ _ _) _⟩

set_option maxHeartbeats 1000000 in
set_option maxRecDepth 100000 in
theorem numbers_3 (kind : Int) (c : Nat) (a b k e0 e1 : Int) (w : World) (h0 : (kind == 1) = false) (h1 : (kind == 15) = false) (h2 : (kind == 16) = false) (h3 : (kind != 1) = true) (h4 : (kind != 15) = true) (h5 : (kind != 16) = true) :
    Calls Tryz.prog 74 #[.agg #[.int .i64 kind, .int .i64 a, .int .i64 b, .int .i64 k, .int .u64 c, .int .i64 1], .agg #[.int .i64 e0, .int .i64 e1]] w (RetB (.bool false) w) := by
  go_enter Tryz.func74, Tryz.ntmps74
  go_wp2_with fail
  first | (go_quiet (fail)) | skip
  go_wp2_with fail
  go_ret
  exact ⟨by first | rfl | simp, by first | exact below_alloc2 _ _ _ | exact (below_alloc2 _ _ _).drew | exact below_drewN (below_alloc2 _ _ _) _⟩

set_option maxHeartbeats 1000000 in
set_option maxRecDepth 100000 in
theorem numbers_4 (kind : Int) (c : Nat) (a b k e0 e1 : Int) (w : World) (h0 : ((c : Int) == 0) = false) (h1 : ((c : Int) != 0) = true) (h2 : (kind == 2) = false) (h3 : (kind == 5) = false) (h4 : (kind == 8) = false) (h5 : (kind == 10) = false) (h6 : (kind == 17) = false) (h7 : (kind != 2) = true) (h8 : (kind != 5) = true) (h9 : (kind != 8) = true) (h10 : (kind != 10) = true) (h11 : (kind != 17) = true) :
    Calls Tryz.prog 74 #[.agg #[.int .i64 kind, .int .i64 a, .int .i64 b, .int .i64 k, .int .u64 c, .int .i64 0], .agg #[.int .i64 e0, .int .i64 e1]] w (RetB (.bool false) w) := by
  go_enter Tryz.func74, Tryz.ntmps74
  go_wp2_with fail
  first | (go_quiet (fail)) | skip
  go_wp2_with fail
  go_ret
  exact ⟨by first | rfl | simp, by first | exact below_alloc2 _ _ _ | exact (below_alloc2 _ _ _).drew | exact below_drewN (below_alloc2 _ _ _) _⟩

set_option maxHeartbeats 1000000 in
set_option maxRecDepth 100000 in
theorem numbers_5 (c : Nat) (a b k e0 e1 : Int) (w : World) (h0 : ((c : Int) == 0) = false) (h1 : ((c : Int) != 0) = true) :
    Calls Tryz.prog 74 #[.agg #[.int .i64 1, .int .i64 a, .int .i64 b, .int .i64 k, .int .u64 c, .int .i64 1], .agg #[.int .i64 e0, .int .i64 e1]] w (RetB (.bool false) w) := by
  go_enter Tryz.func74, Tryz.ntmps74
  go_wp2_with fail
  first | (go_quiet (fail)) | skip
  go_wp2_with fail
  go_ret
  exact ⟨by first | rfl | simp, by first | exact below_alloc2 _ _ _ | exact (below_alloc2 _ _ _).drew | exact below_drewN (below_alloc2 _ _ _) _⟩

set_option maxHeartbeats 1000000 in
set_option maxRecDepth 100000 in
theorem numbers_6 (c : Nat) (a b k e0 e1 : Int) (w : World) (h0 : ((c : Int) == 0) = false) (h1 : ((c : Int) != 0) = true) :
    Calls Tryz.prog 74 #[.agg #[.int .i64 15, .int .i64 a, .int .i64 b, .int .i64 k, .int .u64 c, .int .i64 1], .agg #[.int .i64 e0, .int .i64 e1]] w (RetB (.bool false) w) := by
  go_enter Tryz.func74, Tryz.ntmps74
  go_wp2_with fail
  first | (go_quiet (fail)) | skip
  go_wp2_with fail
  go_ret
  exact ⟨by first | rfl | simp, by first | exact below_alloc2 _ _ _ | exact (below_alloc2 _ _ _).drew | exact below_drewN (below_alloc2 _ _ _) _⟩

set_option maxHeartbeats 1000000 in
set_option maxRecDepth 100000 in
theorem numbers_7 (c : Nat) (a b k e0 e1 : Int) (w : World) (h0 : ((c : Int) == 0) = false) (h1 : ((c : Int) != 0) = true) :
    Calls Tryz.prog 74 #[.agg #[.int .i64 16, .int .i64 a, .int .i64 b, .int .i64 k, .int .u64 c, .int .i64 1], .agg #[.int .i64 e0, .int .i64 e1]] w (RetB (.bool false) w) := by
  go_enter Tryz.func74, Tryz.ntmps74
  go_wp2_with fail
  first | (go_quiet (fail)) | skip
  go_wp2_with fail
  go_ret
  exact ⟨by first | rfl | simp, by first | exact below_alloc2 _ _ _ | exact (below_alloc2 _ _ _).drew | exact below_drewN (below_alloc2 _ _ _) _⟩

set_option maxHeartbeats 1000000 in
set_option maxRecDepth 100000 in
theorem numbers_8  (a b k e0 e1 : Int) (w : World) (h0 : decide (0 ≤ k) = true) :
    Calls Tryz.prog 74 #[.agg #[.int .i64 1, .int .i64 a, .int .i64 b, .int .i64 k, .int .u64 0, .int .i64 0], .agg #[.int .i64 e0, .int .i64 e1]] w (RetB (.bool (decide (k < e0))) w) := by
  go_enter Tryz.func74, Tryz.ntmps74
  go_wp2_with fail
  first | (go_quiet (fail)) | skip
  go_wp2_with fail
  go_ret
  exact ⟨by first | rfl | simp, by first | exact below_alloc2 _ _ _ | exact (below_alloc2 _ _ _).drew | exact below_drewN (below_alloc2 _ _ _) _⟩

set_option maxHeartbeats 1000000 in
set_option maxRecDepth 100000 in
theorem numbers_9  (a b k e0 e1 : Int) (w : World) (h0 : decide (0 ≤ k) = false) :
    Calls Tryz.prog 74 #[.agg #[.int .i64 1, .int .i64 a, .int .i64 b, .int .i64 k, .int .u64 0, .int .i64 0], .agg #[.int .i64 e0, .int .i64 e1]] w (RetB (.bool false) w) := by
  go_enter Tryz.func74, Tryz.ntmps74
  go_wp2_with fail
  first | (go_quiet (fail)) | skip
  go_wp2_with fail
  go_ret
  exact ⟨by first | rfl | simp, by first | exact below_alloc2 _ _ _ | exact (below_alloc2 _ _ _).drew | exact below_drewN (below_alloc2 _ _ _) _⟩

set_option maxHeartbeats 1000000 in
set_option maxRecDepth 100000 in
theorem numbers_10  (a b k e0 e1 : Int) (w : World) (h0 : decide (0 ≤ k) = true) :
    Calls Tryz.prog 74 #[.agg #[.int .i64 11, .int .i64 a, .int .i64 b, .int .i64 k, .int .u64 0, .int .i64 0], .agg #[.int .i64 e0, .int .i64 e1]] w (RetB (.bool (decide (k < 64))) w) := by
  go_enter Tryz.func74, Tryz.ntmps74
  go_wp2_with fail
  first | (go_quiet (fail)) | skip
  go_wp2_with fail
  go_ret
  exact ⟨by first | rfl | simp, by first | exact below_alloc2 _ _ _ | exact (below_alloc2 _ _ _).drew | exact below_drewN (below_alloc2 _ _ _) _⟩

set_option maxHeartbeats 1000000 in
set_option maxRecDepth 100000 in
theorem numbers_11  (a b k e0 e1 : Int) (w : World) (h0 : decide (0 ≤ k) = false) :
    Calls Tryz.prog 74 #[.agg #[.int .i64 11, .int .i64 a, .int .i64 b, .int .i64 k, .int .u64 0, .int .i64 0], .agg #[.int .i64 e0, .int .i64 e1]] w (RetB (.bool false) w) := by
  go_enter Tryz.func74, Tryz.ntmps74
  go_wp2_with fail
  first | (go_quiet (fail)) | skip
  go_wp2_with fail
  go_ret
  exact ⟨by first | rfl | simp, by first | exact below_alloc2 _ _ _ | exact (below_alloc2 _ _ _).drew | exact below_drewN (below_alloc2 _ _ _) _⟩

set_option maxHeartbeats 1000000 in
set_option maxRecDepth 100000 in
theorem numbers_12  (a b k e0 e1 : Int) (w : World) (h0 : decide (0 ≤ k) = true) :
    Calls Tryz.prog 74 #[.agg #[.int .i64 12, .int .i64 a, .int .i64 b, .int .i64 k, .int .u64 0, .int .i64 0], .agg #[.int .i64 e0, .int .i64 e1]] w (RetB (.bool (decide (k < 64))) w) := by
  go_enter Tryz.func74, Tryz.ntmps74
  go_wp2_with fail
  first | (go_quiet (fail)) | skip
  go_wp2_with fail
  go_ret
  exact ⟨by first | rfl | simp, by first | exact below_alloc2 _ _ _ | exact (below_alloc2 _ _ _).drew | exact below_drewN (below_alloc2 _ _ _) _⟩

set_option maxHeartbeats 1000000 in
set_option maxRecDepth 100000 in
theorem numbers_13  (a b k e0 e1 : Int) (w : World) (h0 : decide (0 ≤ k) = false) :
    Calls Tryz.prog 74 #[.agg #[.int .i64 12, .int .i64 a, .int .i64 b, .int .i64 k, .int .u64 0, .int .i64 0], .agg #[.int .i64 e0, .int .i64 e1]] w (RetB (.bool false) w) := by
  go_enter Tryz.func74, Tryz.ntmps74
  go_wp2_with fail
  first | (go_quiet (fail)) | skip
  go_wp2_with fail
  go_ret
  exact ⟨by first | rfl | simp, by first | exact below_alloc2 _ _ _ | exact (below_alloc2 _ _ _).drew | exact below_drewN (below_alloc2 _ _ _) _⟩

set_option maxHeartbeats 1000000 in
set_option maxRecDepth 100000 in
theorem numbers_14  (a b k e0 e1 : Int) (w : World) (h0 : decide (0 ≤ k) = true) :
    Calls Tryz.prog 74 #[.agg #[.int .i64 13, .int .i64 a, .int .i64 b, .int .i64 k, .int .u64 0, .int .i64 0], .agg #[.int .i64 e0, .int .i64 e1]] w (RetB (.bool (decide (k < 64))) w) := by
  go_enter Tryz.func74, Tryz.ntmps74
  go_wp2_with fail
  first | (go_quiet (fail)) | skip
  go_wp2_with fail
  go_ret
  exact ⟨by first | rfl | simp, by first | exact below_alloc2 _ _ _ | exact (below_alloc2 _ _ _).drew | exact below_drewN (below_alloc2 _ _ _) _⟩

set_option maxHeartbeats 1000000 in
set_option maxRecDepth 100000 in
theorem numbers_15  (a b k e0 e1 : Int) (w : World) (h0 : decide (0 ≤ k) = false) :
    Calls Tryz.prog 74 #[.agg #[.int .i64 13, .int .i64 a, .int .i64 b, .int .i64 k, .int .u64 0, .int .i64 0], .agg #[.int .i64 e0, .int .i64 e1]] w (RetB (.bool false) w) := by
  go_enter Tryz.func74, Tryz.ntmps74
  go_wp2_with fail
  first | (go_quiet (fail)) | skip
  go_wp2_with fail
  go_ret
  exact ⟨by first | rfl | simp, by first | exact below_alloc2 _ _ _ | exact (below_alloc2 _ _ _).drew | exact below_drewN (below_alloc2 _ _ _) _⟩

set_option maxHeartbeats 1000000 in
set_option maxRecDepth 100000 in
theorem numbers_16  (a b k e0 e1 : Int) (w : World) (h0 : decide (0 ≤ k) = true) :
    Calls Tryz.prog 74 #[.agg #[.int .i64 16, .int .i64 a, .int .i64 b, .int .i64 k, .int .u64 0, .int .i64 0], .agg #[.int .i64 e0, .int .i64 e1]] w (RetB (.bool (decide (k < 64))) w) := by
  go_enter Tryz.func74, Tryz.ntmps74
  go_wp2_with fail
  first | (go_quiet (fail)) | skip
  go_wp2_with fail
  go_ret
  exact ⟨by first | rfl | simp, by first | exact below_alloc2 _ _ _ | exact (below_alloc2 _ _ _).drew | exact below_drewN (below_alloc2 _ _ _) _⟩

set_option maxHeartbeats 1000000 in
set_option maxRecDepth 100000 in
theorem numbers_17  (a b k e0 e1 : Int) (w : World) (h0 : decide (0 ≤ k) = false) :
    Calls Tryz.prog 74 #[.agg #[.int .i64 16, .int .i64 a, .int .i64 b, .int .i64 k, .int .u64 0, .int .i64 0], .agg #[.int .i64 e0, .int .i64 e1]] w (RetB (.bool false) w) := by
  go_enter Tryz.func74, Tryz.ntmps74
  go_wp2_with fail
  first | (go_quiet (fail)) | skip
  go_wp2_with fail
  go_ret
  exact ⟨by first | rfl | simp, by first | exact below_alloc2 _ _ _ | exact (below_alloc2 _ _ _).drew | exact below_drewN (below_alloc2 _ _ _) _⟩

set_option maxHeartbeats 1000000 in
set_option maxRecDepth 100000 in
theorem numbers_18  (a b k e0 e1 : Int) (w : World)  :
    Calls Tryz.prog 74 #[.agg #[.int .i64 17, .int .i64 a, .int .i64 b, .int .i64 k, .int .u64 0, .int .i64 0], .agg #[.int .i64 e0, .int .i64 e1]] w (RetB (.bool true) w) := by
  go_enter Tryz.func74, Tryz.ntmps74
  go_wp2_with fail
  first | (go_quiet (fail)) | skip
  go_wp2_with fail
  go_ret
  exact ⟨by first | rfl | simp, by first | exact below_alloc2 _ _ _ | exact (below_alloc2 _ _ _).drew | exact below_drewN (below_alloc2 _ _ _) _⟩

set_option maxHeartbeats 1000000 in
set_option maxRecDepth 100000 in
theorem numbers_19  (a b k e0 e1 : Int) (w : World)  :
    Calls Tryz.prog 74 #[.agg #[.int .i64 18, .int .i64 a, .int .i64 b, .int .i64 k, .int .u64 0, .int .i64 0], .agg #[.int .i64 e0, .int .i64 e1]] w (RetB (.bool true) w) := by
  go_enter Tryz.func74, Tryz.ntmps74
  go_wp2_with fail
  first | (go_quiet (fail)) | skip
  go_wp2_with fail
  go_ret
  exact ⟨by first | rfl | simp, by first | exact below_alloc2 _ _ _ | exact (below_alloc2 _ _ _).drew | exact below_drewN (below_alloc2 _ _ _) _⟩

set_option maxHeartbeats 1000000 in
set_option maxRecDepth 100000 in
theorem numbers_20  (a b k e0 e1 : Int) (w : World)  :
    Calls Tryz.prog 74 #[.agg #[.int .i64 19, .int .i64 a, .int .i64 b, .int .i64 k, .int .u64 0, .int .i64 0], .agg #[.int .i64 e0, .int .i64 e1]] w (RetB (.bool true) w) := by
  go_enter Tryz.func74, Tryz.ntmps74
  go_wp2_with fail
  first | (go_quiet (fail)) | skip
  go_wp2_with fail
  go_ret
  exact ⟨by first | rfl | simp, by first | exact below_alloc2 _ _ _ | exact (below_alloc2 _ _ _).drew | exact below_drewN (below_alloc2 _ _ _) _⟩

set_option maxHeartbeats 1000000 in
set_option maxRecDepth 100000 in
theorem numbers_21 (kind : Int) (a b k e0 e1 : Int) (w : World) (h0 : (kind == 1) = false) (h1 : (kind == 11) = false) (h2 : (kind == 12) = false) (h3 : (kind == 13) = false) (h4 : (kind == 16) = false) (h5 : (kind == 17) = false) (h6 : (kind == 18) = false) (h7 : (kind == 19) = false) (h8 : (kind != 1) = true) (h9 : (kind != 11) = true) (h10 : (kind != 12) = true) (h11 : (kind != 13) = true) (h12 : (kind != 16) = true) (h13 : (kind != 17) = true) (h14 : (kind != 18) = true) (h15 : (kind != 19) = true) :
    Calls Tryz.prog 74 #[.agg #[.int .i64 kind, .int .i64 a, .int .i64 b, .int .i64 k, .int .u64 0, .int .i64 0], .agg #[.int .i64 e0, .int .i64 e1]] w (RetB (.bool (k == 0)) w) := by
  go_enter Tryz.func74, Tryz.ntmps74
  go_wp2_with fail
  first | (go_quiet (fail)) | skip
  go_wp2_with fail
  go_ret
  exact ⟨by first | rfl | simp, by first | exact below_alloc2 _ _ _ | exact (below_alloc2 _ _ _).drew | exact below_drewN (below_alloc2 _ _ _) _⟩

set_option maxHeartbeats 1000000 in
set_option maxRecDepth 100000 in
theorem numbers_22 (c : Nat) (a b k e0 e1 : Int) (w : World) (h0 : ((c : Int) == 0) = false) (h1 : ((c : Int) != 0) = true) :
    Calls Tryz.prog 74 #[.agg #[.int .i64 2, .int .i64 a, .int .i64 b, .int .i64 k, .int .u64 c, .int .i64 0], .agg #[.int .i64 e0, .int .i64 e1]] w (RetB (.bool (k == 0)) w) := by
  go_enter Tryz.func74, Tryz.ntmps74
  go_wp2_with fail
  first | (go_quiet (fail)) | skip
  go_wp2_with fail
  go_ret
  exact ⟨by first | rfl | simp, by first | exact below_alloc2 _ _ _ | exact (below_alloc2 _ _ _).drew | exact below_drewN (below_alloc2 _ _ _) _⟩

set_option maxHeartbeats 1000000 in
set_option maxRecDepth 100000 in
theorem numbers_23 (c : Nat) (a b k e0 e1 : Int) (w : World) (h0 : ((c : Int) == 0) = false) (h1 : ((c : Int) != 0) = true) :
    Calls Tryz.prog 74 #[.agg #[.int .i64 5, .int .i64 a, .int .i64 b, .int .i64 k, .int .u64 c, .int .i64 0], .agg #[.int .i64 e0, .int .i64 e1]] w (RetB (.bool (k == 0)) w) := by
  go_enter Tryz.func74, Tryz.ntmps74
  go_wp2_with fail
  first | (go_quiet (fail)) | skip
  go_wp2_with fail
  go_ret
  exact ⟨by first | rfl | simp, by first | exact below_alloc2 _ _ _ | exact (below_alloc2 _ _ _).drew | exact below_drewN (below_alloc2 _ _ _) _⟩

set_option maxHeartbeats 1000000 in
set_option maxRecDepth 100000 in
theorem numbers_24 (c : Nat) (a b k e0 e1 : Int) (w : World) (h0 : ((c : Int) == 0) = false) (h1 : ((c : Int) != 0) = true) :
    Calls Tryz.prog 74 #[.agg #[.int .i64 8, .int .i64 a, .int .i64 b, .int .i64 k, .int .u64 c, .int .i64 0], .agg #[.int .i64 e0, .int .i64 e1]] w (RetB (.bool (k == 0)) w) := by
  go_enter Tryz.func74, Tryz.ntmps74
  go_wp2_with fail
  first | (go_quiet (fail)) | skip
  go_wp2_with fail
  go_ret
  exact ⟨by first | rfl | simp, by first | exact below_alloc2 _ _ _ | exact (below_alloc2 _ _ _).drew | exact below_drewN (below_alloc2 _ _ _) _⟩

set_option maxHeartbeats 1000000 in
set_option maxRecDepth 100000 in
theorem numbers_25 (c : Nat) (a b k e0 e1 : Int) (w : World) (h0 : ((c : Int) == 0) = false) (h1 : ((c : Int) != 0) = true) :
    Calls Tryz.prog 74 #[.agg #[.int .i64 10, .int .i64 a, .int .i64 b, .int .i64 k, .int .u64 c, .int .i64 0], .agg #[.int .i64 e0, .int .i64 e1]] w (RetB (.bool (k == 0)) w) := by
  go_enter Tryz.func74, Tryz.ntmps74
  go_wp2_with fail
  first | (go_quiet (fail)) | skip
  go_wp2_with fail
  go_ret
  exact ⟨by first | rfl | simp, by first | exact below_alloc2 _ _ _ | exact (below_alloc2 _ _ _).drew | exact below_drewN (below_alloc2 _ _ _) _⟩

set_option maxHeartbeats 1000000 in
set_option maxRecDepth 100000 in
theorem numbers_26 (c : Nat) (a b k e0 e1 : Int) (w : World) (h0 : ((c : Int) == 0) = false) (h1 : ((c : Int) != 0) = true) :
    Calls Tryz.prog 74 #[.agg #[.int .i64 17, .int .i64 a, .int .i64 b, .int .i64 k, .int .u64 c, .int .i64 0], .agg #[.int .i64 e0, .int .i64 e1]] w (RetB (.bool true) w) := by
  go_enter Tryz.func74, Tryz.ntmps74
  go_wp2_with fail
  first | (go_quiet (fail)) | skip
  go_wp2_with fail
  go_ret
  exact ⟨by first | rfl | simp, by first | exact below_alloc2 _ _ _ | exact (below_alloc2 _ _ _).drew | exact below_drewN (below_alloc2 _ _ _) _⟩

set_option maxHeartbeats 1000000 in
set_option maxRecDepth 100000 in
theorem numbers_27  (a b k e0 e1 : Int) (w : World) (h0 : decide (0 ≤ k) = true) :
    Calls Tryz.prog 74 #[.agg #[.int .i64 1, .int .i64 a, .int .i64 b, .int .i64 k, .int .u64 0, .int .i64 1], .agg #[.int .i64 e0, .int .i64 e1]] w (RetB (.bool (decide (k < e1))) w) := by
  go_enter Tryz.func74, Tryz.ntmps74
  go_wp2_with fail
  first | (go_quiet (fail)) | skip
  go_wp2_with fail
  go_ret
  exact ⟨by first | rfl | simp, by first | exact below_alloc2 _ _ _ | exact (below_alloc2 _ _ _).drew | exact below_drewN (below_alloc2 _ _ _) _⟩

set_option maxHeartbeats 1000000 in
set_option maxRecDepth 100000 in
theorem numbers_28  (a b k e0 e1 : Int) (w : World) (h0 : decide (0 ≤ k) = false) :
    Calls Tryz.prog 74 #[.agg #[.int .i64 1, .int .i64 a, .int .i64 b, .int .i64 k, .int .u64 0, .int .i64 1], .agg #[.int .i64 e0, .int .i64 e1]] w (RetB (.bool false) w) := by
  go_enter Tryz.func74, Tryz.ntmps74
  go_wp2_with fail
  first | (go_quiet (fail)) | skip
  go_wp2_with fail
  go_ret
  exact ⟨by first | rfl | simp, by first | exact below_alloc2 _ _ _ | exact (below_alloc2 _ _ _).drew | exact below_drewN (below_alloc2 _ _ _) _⟩

set_option maxHeartbeats 1000000 in
set_option maxRecDepth 100000 in
theorem numbers_29  (a b k e0 e1 : Int) (w : World)  :
    Calls Tryz.prog 74 #[.agg #[.int .i64 15, .int .i64 a, .int .i64 b, .int .i64 k, .int .u64 0, .int .i64 1], .agg #[.int .i64 e0, .int .i64 e1]] w (RetB (.bool (k == 0)) w) := by
  go_enter Tryz.func74, Tryz.ntmps74
  go_wp2_with fail
  first | (go_quiet (fail)) | skip
  go_wp2_with fail
  go_ret
  exact ⟨by first | rfl | simp, by first | exact below_alloc2 _ _ _ | exact (below_alloc2 _ _ _).drew | exact below_drewN (below_alloc2 _ _ _) _⟩

set_option maxHeartbeats 1000000 in
set_option maxRecDepth 100000 in
theorem numbers_30  (a b k e0 e1 : Int) (w : World) (h0 : decide (0 ≤ k) = true) :
    Calls Tryz.prog 74 #[.agg #[.int .i64 16, .int .i64 a, .int .i64 b, .int .i64 k, .int .u64 0, .int .i64 1], .agg #[.int .i64 e0, .int .i64 e1]] w (RetB (.bool (decide (k < 64))) w) := by
  go_enter Tryz.func74, Tryz.ntmps74
  go_wp2_with fail
  first | (go_quiet (fail)) | skip
  go_wp2_with fail
  go_ret
  exact ⟨by first | rfl | simp, by first | exact below_alloc2 _ _ _ | exact (below_alloc2 _ _ _).drew | exact below_drewN (below_alloc2 _ _ _) _⟩

set_option maxHeartbeats 1000000 in
set_option maxRecDepth 100000 in
theorem numbers_31  (a b k e0 e1 : Int) (w : World) (h0 : decide (0 ≤ k) = false) :
    Calls Tryz.prog 74 #[.agg #[.int .i64 16, .int .i64 a, .int .i64 b, .int .i64 k, .int .u64 0, .int .i64 1], .agg #[.int .i64 e0, .int .i64 e1]] w (RetB (.bool false) w) := by
  go_enter Tryz.func74, Tryz.ntmps74
  go_wp2_with fail
  first | (go_quiet (fail)) | skip
  go_wp2_with fail
  go_ret
  exact ⟨by first | rfl | simp, by first | exact below_alloc2 _ _ _ | exact (below_alloc2 _ _ _).drew | exact below_drewN (below_alloc2 _ _ _) _⟩

theorem numbers_any (o : MOp) (e0 e1 : Int) (w : World) : Calls Tryz.prog 74 #[.agg o.arr, .agg #[.int .i64 e0, .int .i64 e1]] w (RetB (.bool (rNumbers o e0 e1)) w) := by
  obtain ⟨kind, a, b, k, c, party⟩ := o
  simp only [MOp.arr]
  by_cases p1 : party < 0
  · rw [show rNumbers ⟨kind, a, b, k, c, party⟩ e0 e1 = false by simp [rNumbers, p1]]
    exact numbers_1 kind party c a b k e0 e1 w (by simpa using p1)
  by_cases p2 : 1 < party
  · rw [show rNumbers ⟨kind, a, b, k, c, party⟩ e0 e1 = false by simp [rNumbers, p2]]
    exact numbers_2 kind party c a b k e0 e1 w (by simpa using p1) (by simpa using p2)
  rcases (show party = 0 ∨ party = 1 by omega) with rfl | rfl
  · by_cases hc : c = 0
    · subst hc
      by_cases k1 : kind = 1
      · subst k1
        by_cases hk : 0 ≤ k
        · rw [show rNumbers ⟨1, a, b, k, 0, 0⟩ e0 e1 = decide (k < e0) by simp [rNumbers, hk]]; exact numbers_8 a b k e0 e1 w (by simpa using hk)
        · rw [show rNumbers ⟨1, a, b, k, 0, 0⟩ e0 e1 = false by simp [rNumbers, hk]]; exact numbers_9 a b k e0 e1 w (by simpa using hk)
      by_cases k11 : kind = 11
      · subst k11
        by_cases hk : 0 ≤ k
        · rw [show rNumbers ⟨11, a, b, k, 0, 0⟩ e0 e1 = decide (k < 64) by simp [rNumbers, hk]]; exact numbers_10 a b k e0 e1 w (by simpa using hk)
        · rw [show rNumbers ⟨11, a, b, k, 0, 0⟩ e0 e1 = false by simp [rNumbers, hk]]; exact numbers_11 a b k e0 e1 w (by simpa using hk)
      by_cases k12 : kind = 12
      · subst k12
        by_cases hk : 0 ≤ k
        · rw [show rNumbers ⟨12, a, b, k, 0, 0⟩ e0 e1 = decide (k < 64) by simp [rNumbers, hk]]; exact numbers_12 a b k e0 e1 w (by simpa using hk)
        · rw [show rNumbers ⟨12, a, b, k, 0, 0⟩ e0 e1 = false by simp [rNumbers, hk]]; exact numbers_13 a b k e0 e1 w (by simpa using hk)
      by_cases k13 : kind = 13
      · subst k13
        by_cases hk : 0 ≤ k
        · rw [show rNumbers ⟨13, a, b, k, 0, 0⟩ e0 e1 = decide (k < 64) by simp [rNumbers, hk]]; exact numbers_14 a b k e0 e1 w (by simpa using hk)
        · rw [show rNumbers ⟨13, a, b, k, 0, 0⟩ e0 e1 = false by simp [rNumbers, hk]]; exact numbers_15 a b k e0 e1 w (by simpa using hk)
      by_cases k16 : kind = 16
      · subst k16
        by_cases hk : 0 ≤ k
        · rw [show rNumbers ⟨16, a, b, k, 0, 0⟩ e0 e1 = decide (k < 64) by simp [rNumbers, hk]]; exact numbers_16 a b k e0 e1 w (by simpa using hk)
        · rw [show rNumbers ⟨16, a, b, k, 0, 0⟩ e0 e1 = false by simp [rNumbers, hk]]; exact numbers_17 a b k e0 e1 w (by simpa using hk)
      by_cases k17 : kind = 17
      · subst k17
        rw [show rNumbers ⟨17, a, b, k, 0, 0⟩ e0 e1 = true by simp [rNumbers]]; exact numbers_18 a b k e0 e1 w
      by_cases k18 : kind = 18
      · subst k18
        rw [show rNumbers ⟨18, a, b, k, 0, 0⟩ e0 e1 = true by simp [rNumbers]]; exact numbers_19 a b k e0 e1 w
      by_cases k19 : kind = 19
      · subst k19
        rw [show rNumbers ⟨19, a, b, k, 0, 0⟩ e0 e1 = true by simp [rNumbers]]; exact numbers_20 a b k e0 e1 w
      rw [show rNumbers ⟨kind, a, b, k, 0, 0⟩ e0 e1 = (k == 0) by simp [rNumbers, k1, k11, k12, k13, k16, k17, k18, k19]]
      exact numbers_21 kind a b k e0 e1 w (by simpa using k1) (by simpa using k11) (by simpa using k12) (by simpa using k13) (by simpa using k16) (by simpa using k17) (by simpa using k18) (by simpa using k19) (by simpa using k1) (by simpa using k11) (by simpa using k12) (by simpa using k13) (by simpa using k16) (by simpa using k17) (by simpa using k18) (by simpa using k19)
    · have hc1 : ((c : Int) == 0) = false := by simp; omega
      have hc2 : ((c : Int) != 0) = true := by simp; omega
      by_cases k2 : kind = 2
      · subst k2
        rw [show rNumbers ⟨2, a, b, k, c, 0⟩ e0 e1 = (k == 0) by simp [rNumbers]]; exact numbers_22 c a b k e0 e1 w hc1 hc2
      by_cases k5 : kind = 5
      · subst k5
        rw [show rNumbers ⟨5, a, b, k, c, 0⟩ e0 e1 = (k == 0) by simp [rNumbers]]; exact numbers_23 c a b k e0 e1 w hc1 hc2
      by_cases k8 : kind = 8
      · subst k8
        rw [show rNumbers ⟨8, a, b, k, c, 0⟩ e0 e1 = (k == 0) by simp [rNumbers]]; exact numbers_24 c a b k e0 e1 w hc1 hc2
      by_cases k10 : kind = 10
      · subst k10
        rw [show rNumbers ⟨10, a, b, k, c, 0⟩ e0 e1 = (k == 0) by simp [rNumbers]]; exact numbers_25 c a b k e0 e1 w hc1 hc2
      by_cases k17 : kind = 17
      · subst k17
        rw [show rNumbers ⟨17, a, b, k, c, 0⟩ e0 e1 = true by simp [rNumbers]]; exact numbers_26 c a b k e0 e1 w hc1 hc2
      rw [show rNumbers ⟨kind, a, b, k, c, 0⟩ e0 e1 = false by simp [rNumbers, hc, k2, k5, k8, k10, k17]]
      exact numbers_4 kind c a b k e0 e1 w hc1 hc2 (by simpa using k2) (by simpa using k5) (by simpa using k8) (by simpa using k10) (by simpa using k17) (by simpa using k2) (by simpa using k5) (by simpa using k8) (by simpa using k10) (by simpa using k17)
  · by_cases hk : kind = 1 ∨ kind = 15 ∨ kind = 16
    · by_cases hc : c = 0
      · subst hc
        rcases hk with rfl | rfl | rfl
        · by_cases hk : 0 ≤ k
          · rw [show rNumbers ⟨1, a, b, k, 0, 1⟩ e0 e1 = decide (k < e1) by simp [rNumbers, hk]]; exact numbers_27 a b k e0 e1 w (by simpa using hk)
          · rw [show rNumbers ⟨1, a, b, k, 0, 1⟩ e0 e1 = false by simp [rNumbers, hk]]; exact numbers_28 a b k e0 e1 w (by simpa using hk)
        · rw [show rNumbers ⟨15, a, b, k, 0, 1⟩ e0 e1 = (k == 0) by simp [rNumbers]]; exact numbers_29 a b k e0 e1 w
        · by_cases hk : 0 ≤ k
          · rw [show rNumbers ⟨16, a, b, k, 0, 1⟩ e0 e1 = decide (k < 64) by simp [rNumbers, hk]]; exact numbers_30 a b k e0 e1 w (by simpa using hk)
          · rw [show rNumbers ⟨16, a, b, k, 0, 1⟩ e0 e1 = false by simp [rNumbers, hk]]; exact numbers_31 a b k e0 e1 w (by simpa using hk)
      · have hc1 : ((c : Int) == 0) = false := by simp; omega
        have hc2 : ((c : Int) != 0) = true := by simp; omega
        rcases hk with rfl | rfl | rfl
        · rw [show rNumbers ⟨1, a, b, k, c, 1⟩ e0 e1 = false by simp [rNumbers, hc]]; exact numbers_5 c a b k e0 e1 w hc1 hc2
        · rw [show rNumbers ⟨15, a, b, k, c, 1⟩ e0 e1 = false by simp [rNumbers, hc]]; exact numbers_6 c a b k e0 e1 w hc1 hc2
        · rw [show rNumbers ⟨16, a, b, k, c, 1⟩ e0 e1 = false by simp [rNumbers, hc]]; exact numbers_7 c a b k e0 e1 w hc1 hc2
    · simp only [not_or] at hk
      obtain ⟨k1, k15, k16⟩ := hk
      rw [show rNumbers ⟨kind, a, b, k, c, 1⟩ e0 e1 = false by simp [rNumbers, k1, k15, k16]]
      exact numbers_3 kind c a b k e0 e1 w (by simpa using k1) (by simpa using k15) (by simpa using k16) (by simpa using k1) (by simpa using k15) (by simpa using k16)
end Go.Proofs.YtjbhgimhcjcpmaaGreatDoor
