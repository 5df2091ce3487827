/-
  THE CONTRACTS of plan.wants, plan.wantsWords.
-/
import Derived.Test.YtjbhgimhcjcpmaaGreatDoorMCircTop
import Derived.Deep.LoopGhost
import Derived.Deep.QuietTactic
import Derived.BigQuiet
set_option linter.unusedSimpArgs false
set_option linter.unusedVariables false
namespace Go.Proofs.YtjbhgimhcjcpmaaGreatDoor
open Go.RowKit

/-- The places that an operation is made of. -/
def mWantsL (o : MOp) : List Int :=
  if o.kind = 1 ∨ o.kind = 2 then [] else if o.kind = 3 ∨ o.kind = 4 ∨ o.kind = 6 ∨ o.kind = 7 ∨ o.kind = 9 then [o.a, o.b] else if o.kind = 17 ∧ o.k ≠ 1 then [o.a, o.b] else [o.a]
def mWantsW (o : MOp) : Bool := o.kind == 1 || o.kind == 6 || o.kind == 9 || o.kind == 17 || o.kind == 18 || o.kind == 19
/-- A new slice of whole numbers. -/
def RetInts (l : List Int) (w : World) (e : Ending) (w' : World) : Prop := ∃ v, e = .returned v ∧ w'.ownsRow w.heap.size 3 1 v l.length (ints l) ∧ Below w.heap.size w w'
theorem retInts_nil (w : World) (a : Obj) : RetInts [] w (.returned (.slice none 0 0)) (w.alloc a) := ⟨_, rfl, World.ownsRow_nil _ _ _ _, (Below.refl _ _).alloc (Nat.le_refl _) _⟩
theorem retInts_1 (w : World) (a : Obj) (x : Int) : RetInts [x] w (.returned (.slice (some ⟨w.heap.size + 1, 0, none⟩) 1 1)) ((w.alloc a).alloc (.cells #[.int .i64 x] 3)) := by
  have h := World.ownsRow_lit (w.alloc a) #[.int .i64 x] (e := 3) (size := 1) 1 (Nat.le_refl _) (by unfold maxLen; omega) rfl
  rw [World.size_alloc] at h
  exact ⟨_, rfl, owns_base h (by omega), below_alloc2 _ _ _⟩
theorem retInts_2 (w : World) (a : Obj) (x y : Int) : RetInts [x, y] w (.returned (.slice (some ⟨w.heap.size + 1, 0, none⟩) 2 2)) ((w.alloc a).alloc (.cells #[.int .i64 x, .int .i64 y] 3)) := by
  have h := World.ownsRow_lit (w.alloc a) #[.int .i64 x, .int .i64 y] (e := 3) (size := 1) 2 (Nat.le_refl _) (by unfold maxLen; omega) rfl
  rw [World.size_alloc] at h
  exact ⟨_, rfl, owns_base h (by omega), below_alloc2 _ _ _⟩

set_option maxHeartbeats 1000000 in
set_option maxRecDepth 100000 in
theorem wants_k1 (a b k party : Int) (c : Nat) (w : World)  : Calls Tryz.prog 60 #[.agg #[.int .i64 1, .int .i64 a, .int .i64 b, .int .i64 k, .int .u64 c, .int .i64 party]] w (RetInts [] w) := by
  go_enter Tryz.func60, Tryz.ntmps60
  go_wp2_with fail
  go_ret
  exact retInts_nil _ _
set_option maxHeartbeats 1000000 in
set_option maxRecDepth 100000 in
theorem wants_k2 (a b k party : Int) (c : Nat) (w : World)  : Calls Tryz.prog 60 #[.agg #[.int .i64 2, .int .i64 a, .int .i64 b, .int .i64 k, .int .u64 c, .int .i64 party]] w (RetInts [] w) := by
  go_enter Tryz.func60, Tryz.ntmps60
  go_wp2_with fail
  go_ret
  exact retInts_nil _ _
set_option maxHeartbeats 1000000 in
set_option maxRecDepth 100000 in
theorem wants_k3 (a b k party : Int) (c : Nat) (w : World)  : Calls Tryz.prog 60 #[.agg #[.int .i64 3, .int .i64 a, .int .i64 b, .int .i64 k, .int .u64 c, .int .i64 party]] w (RetInts [a, b] w) := by
  go_enter Tryz.func60, Tryz.ntmps60
  go_wp2_with fail
  go_ret
  exact retInts_2 _ _ _ _
set_option maxHeartbeats 1000000 in
set_option maxRecDepth 100000 in
theorem wants_k4 (a b k party : Int) (c : Nat) (w : World)  : Calls Tryz.prog 60 #[.agg #[.int .i64 4, .int .i64 a, .int .i64 b, .int .i64 k, .int .u64 c, .int .i64 party]] w (RetInts [a, b] w) := by
  go_enter Tryz.func60, Tryz.ntmps60
  go_wp2_with fail
  go_ret
  exact retInts_2 _ _ _ _
set_option maxHeartbeats 1000000 in
set_option maxRecDepth 100000 in
theorem wants_k6 (a b k party : Int) (c : Nat) (w : World)  : Calls Tryz.prog 60 #[.agg #[.int .i64 6, .int .i64 a, .int .i64 b, .int .i64 k, .int .u64 c, .int .i64 party]] w (RetInts [a, b] w) := by
  go_enter Tryz.func60, Tryz.ntmps60
  go_wp2_with fail
  go_ret
  exact retInts_2 _ _ _ _
set_option maxHeartbeats 1000000 in
set_option maxRecDepth 100000 in
theorem wants_k7 (a b k party : Int) (c : Nat) (w : World)  : Calls Tryz.prog 60 #[.agg #[.int .i64 7, .int .i64 a, .int .i64 b, .int .i64 k, .int .u64 c, .int .i64 party]] w (RetInts [a, b] w) := by
  go_enter Tryz.func60, Tryz.ntmps60
  go_wp2_with fail
  go_ret
  exact retInts_2 _ _ _ _
set_option maxHeartbeats 1000000 in
set_option maxRecDepth 100000 in
theorem wants_k9 (a b k party : Int) (c : Nat) (w : World)  : Calls Tryz.prog 60 #[.agg #[.int .i64 9, .int .i64 a, .int .i64 b, .int .i64 k, .int .u64 c, .int .i64 party]] w (RetInts [a, b] w) := by
  go_enter Tryz.func60, Tryz.ntmps60
  go_wp2_with fail
  go_ret
  exact retInts_2 _ _ _ _
set_option maxHeartbeats 1000000 in
set_option maxRecDepth 100000 in
theorem wants_k17 (a b k party : Int) (c : Nat) (w : World) (h : k ≠ 1) : Calls Tryz.prog 60 #[.agg #[.int .i64 17, .int .i64 a, .int .i64 b, .int .i64 k, .int .u64 c, .int .i64 party]] w (RetInts [a, b] w) := by
  have h' : (k != 1) = true := by simpa using h
  go_enter Tryz.func60, Tryz.ntmps60
  go_wp2_with fail
  go_ret
  exact retInts_2 _ _ _ _
set_option maxHeartbeats 1000000 in
set_option maxRecDepth 100000 in
theorem wants_k171 (a b party : Int) (c : Nat) (w : World) : Calls Tryz.prog 60 #[.agg #[.int .i64 17, .int .i64 a, .int .i64 b, .int .i64 1, .int .u64 c, .int .i64 party]] w (RetInts [a] w) := by
  go_enter Tryz.func60, Tryz.ntmps60
  go_wp2_with fail
  go_ret
  exact retInts_1 _ _ _
set_option maxHeartbeats 1000000 in
set_option maxRecDepth 100000 in
theorem wants_kx (kind a b k party : Int) (c : Nat) (w : World) (h1 : (kind == 1) = false) (h2 : (kind == 2) = false) (h3 : (kind == 3) = false) (h4 : (kind == 4) = false) (h6 : (kind == 6) = false) (h7 : (kind == 7) = false) (h9 : (kind == 9) = false) (h17 : (kind == 17) = false) : Calls Tryz.prog 60 #[.agg #[.int .i64 kind, .int .i64 a, .int .i64 b, .int .i64 k, .int .u64 c, .int .i64 party]] w (RetInts [a] w) := by
  go_enter Tryz.func60, Tryz.ntmps60
  go_wp2_with fail
  go_ret
  exact retInts_1 _ _ _

theorem wantsL_any (o : MOp) (w : World) : Calls Tryz.prog 60 #[.agg o.arr] w (RetInts (mWantsL o) w) := by
  obtain ⟨kind, a, b, k, c, party⟩ := o
  simp only [MOp.arr]
  by_cases h1 : kind = 1
  · subst h1; exact wants_k1 a b k party c w
  by_cases h2 : kind = 2
  · subst h2; exact wants_k2 a b k party c w
  by_cases h3 : kind = 3
  · subst h3; exact wants_k3 a b k party c w
  by_cases h4 : kind = 4
  · subst h4; exact wants_k4 a b k party c w
  by_cases h6 : kind = 6
  · subst h6; exact wants_k6 a b k party c w
  by_cases h7 : kind = 7
  · subst h7; exact wants_k7 a b k party c w
  by_cases h9 : kind = 9
  · subst h9; exact wants_k9 a b k party c w
  by_cases h17 : kind = 17
  · subst h17
    by_cases hk : k = 1
    · subst hk; exact wants_k171 a b party c w
    · rw [show mWantsL ⟨17, a, b, k, c, party⟩ = [a, b] by simp [mWantsL, hk]]; exact wants_k17 a b k party c w hk
  rw [show mWantsL ⟨kind, a, b, k, c, party⟩ = [a] by simp [mWantsL, h1, h2, h3, h4, h6, h7, h9, h17]]
  exact wants_kx kind a b k party c w (by simpa using h1) (by simpa using h2) (by simpa using h3) (by simpa using h4) (by simpa using h6) (by simpa using h7) (by simpa using h9) (by simpa using h17)

set_option maxHeartbeats 1000000 in
set_option maxRecDepth 100000 in
theorem wantsW_k1 (a b k party : Int) (c : Nat) (w : World) : Calls Tryz.prog 92 #[.agg #[.int .i64 1, .int .i64 a, .int .i64 b, .int .i64 k, .int .u64 c, .int .i64 party]] w (RetB (.bool true) w) := by
  go_enter Tryz.func92, Tryz.ntmps92
  go_wp2_with fail
  go_ret
  exact ⟨rfl, (Below.refl _ _).alloc (Nat.le_refl _) _⟩
set_option maxHeartbeats 1000000 in
set_option maxRecDepth 100000 in
theorem wantsW_k6 (a b k party : Int) (c : Nat) (w : World) : Calls Tryz.prog 92 #[.agg #[.int .i64 6, .int .i64 a, .int .i64 b, .int .i64 k, .int .u64 c, .int .i64 party]] w (RetB (.bool true) w) := by
  go_enter Tryz.func92, Tryz.ntmps92
  go_wp2_with fail
  go_ret
  exact ⟨rfl, (Below.refl _ _).alloc (Nat.le_refl _) _⟩
set_option maxHeartbeats 1000000 in
set_option maxRecDepth 100000 in
theorem wantsW_k9 (a b k party : Int) (c : Nat) (w : World) : Calls Tryz.prog 92 #[.agg #[.int .i64 9, .int .i64 a, .int .i64 b, .int .i64 k, .int .u64 c, .int .i64 party]] w (RetB (.bool true) w) := by
  go_enter Tryz.func92, Tryz.ntmps92
  go_wp2_with fail
  go_ret
  exact ⟨rfl, (Below.refl _ _).alloc (Nat.le_refl _) _⟩
set_option maxHeartbeats 1000000 in
set_option maxRecDepth 100000 in
theorem wantsW_k17 (a b k party : Int) (c : Nat) (w : World) : Calls Tryz.prog 92 #[.agg #[.int .i64 17, .int .i64 a, .int .i64 b, .int .i64 k, .int .u64 c, .int .i64 party]] w (RetB (.bool true) w) := by
  go_enter Tryz.func92, Tryz.ntmps92
  go_wp2_with fail
  go_ret
  exact ⟨rfl, (Below.refl _ _).alloc (Nat.le_refl _) _⟩
set_option maxHeartbeats 1000000 in
set_option maxRecDepth 100000 in
theorem wantsW_k18 (a b k party : Int) (c : Nat) (w : World) : Calls Tryz.prog 92 #[.agg #[.int .i64 18, .int .i64 a, .int .i64 b, .int .i64 k, .int .u64 c, .int .i64 party]] w (RetB (.bool true) w) := by
  go_enter Tryz.func92, Tryz.ntmps92
  go_wp2_with fail
  go_ret
  exact ⟨rfl, (Below.refl _ _).alloc (Nat.le_refl _) _⟩
set_option maxHeartbeats 1000000 in
set_option maxRecDepth 100000 in
theorem wantsW_k19 (a b k party : Int) (c : Nat) (w : World) : Calls Tryz.prog 92 #[.agg #[.int .i64 19, .int .i64 a, .int .i64 b, .int .i64 k, .int .u64 c, .int .i64 party]] w (RetB (.bool true) w) := by
  go_enter Tryz.func92, Tryz.ntmps92
  go_wp2_with fail
  go_ret
  exact ⟨rfl, (Below.refl _ _).alloc (Nat.le_refl _) _⟩
set_option maxHeartbeats 1000000 in
set_option maxRecDepth 100000 in
theorem wantsW_kx (kind a b k party : Int) (c : Nat) (w : World) (h1 : (kind == 1) = false) (h6 : (kind == 6) = false) (h9 : (kind == 9) = false) (h17 : (kind == 17) = false) (h18 : (kind == 18) = false) (h19 : (kind == 19) = false) : Calls Tryz.prog 92 #[.agg #[.int .i64 kind, .int .i64 a, .int .i64 b, .int .i64 k, .int .u64 c, .int .i64 party]] w (RetB (.bool false) w) := by
  go_enter Tryz.func92, Tryz.ntmps92
  go_wp2_with fail
  go_ret
  exact ⟨rfl, (Below.refl _ _).alloc (Nat.le_refl _) _⟩
theorem wantsW_any (o : MOp) (w : World) : Calls Tryz.prog 92 #[.agg o.arr] w (RetB (.bool (mWantsW o)) w) := by
  obtain ⟨kind, a, b, k, c, party⟩ := o
  simp only [MOp.arr]
  by_cases h1 : kind = 1
  · subst h1; exact wantsW_k1 a b k party c w
  by_cases h6 : kind = 6
  · subst h6; exact wantsW_k6 a b k party c w
  by_cases h9 : kind = 9
  · subst h9; exact wantsW_k9 a b k party c w
  by_cases h17 : kind = 17
  · subst h17; exact wantsW_k17 a b k party c w
  by_cases h18 : kind = 18
  · subst h18; exact wantsW_k18 a b k party c w
  by_cases h19 : kind = 19
  · subst h19; exact wantsW_k19 a b k party c w
  rw [show mWantsW ⟨kind, a, b, k, c, party⟩ = false by simp [mWantsW, h1, h6, h9, h17, h18, h19]]
  exact wantsW_kx kind a b k party c w (by simpa using h1) (by simpa using h6) (by simpa using h9) (by simpa using h17) (by simpa using h18) (by simpa using h19)
end Go.Proofs.YtjbhgimhcjcpmaaGreatDoor

/-
  THE CONTRACTS of check.Elems, plan.total, slices.IsSorted, slices.Equal.
-/
namespace Go.Proofs.YtjbhgimhcjcpmaaGreatDoor
open Go.RowKit

/-- How many elements a shape has; 0: it is none. -/
def elemsGo : List Int → Int → Int
  | [], n => n
  | d :: l, n => if d < 1 then 0 else if 16 < d then 0 else if 32 < n * d then 0 else elemsGo l (n * d)
def mElems (s : List Int) : Int := if elemsGo s 1 = 0 then 0 else if 2 < s.length then 0 else elemsGo s 1
theorem elemsGo_bd : ∀ (s : List Int) (n : Int), 1 ≤ n → n ≤ 32 → 0 ≤ elemsGo s n ∧ elemsGo s n ≤ 32
  | [], n, h1, h2 => by simp only [elemsGo]; omega
  | d :: l, n, h1, h2 => by
    rw [elemsGo]
    split
    · omega
    · split
      · omega
      · split
        · omega
        · have : 1 ≤ n * d := by
            have : (1 : Int) * 1 ≤ n * d := Int.mul_le_mul h1 (by omega) (by omega) (by omega)
            omega
          exact elemsGo_bd l (n * d) this (by omega)
theorem mElems_bd (s : List Int) : 0 ≤ mElems s ∧ mElems s ≤ 32 := by
  have := elemsGo_bd s 1 (by omega) (by omega)
  unfold mElems; split
  · omega
  · split <;> omega
theorem elemsGo_pos : ∀ (s : List Int) (n : Int), elemsGo s n ≠ 0 → 1 ≤ n → ∀ d ∈ s, 1 ≤ d ∧ d ≤ 16
  | [], _, _, _, d, hd => by cases hd
  | x :: l, n, h, h1, d, hd => by
    rw [elemsGo] at h
    split at h
    · exact absurd rfl h
    · split at h
      · exact absurd rfl h
      · split at h
        · exact absurd rfl h
        · rcases List.mem_cons.1 hd with rfl | hd
          · omega
          · have : (1 : Int) * 1 ≤ n * x := Int.mul_le_mul h1 (by omega) (by omega) (by omega)
            exact elemsGo_pos l (n * x) h (by omega) d hd
/-- A shape that has elements has at most two dimensions, each between 1 and 16. -/
theorem mElems_good {s : List Int} (h : mElems s ≠ 0) : s.length ≤ 2 ∧ ∀ d ∈ s, 1 ≤ d ∧ d ≤ 16 := by
  unfold mElems at h
  split at h
  · exact absurd rfl h
  · split at h
    · exact absurd rfl h
    · exact ⟨by omega, elemsGo_pos s 1 h (by omega)⟩

set_option maxHeartbeats 1000000 in
set_option maxRecDepth 100000 in
theorem elems_any (v : Value) (s : List Int) (w : World) (hv : Arr w.heap.size w 1 v s.length (ints s)) :
    Calls Tryz.prog 87 #[v] w fun e w' => e = .returned (.int .i64 (mElems s)) ∧ w = w' := by
  obtain ⟨ao, cc, rfl, hcc, hm, hx, hy⟩ := hv.open
  have HY := Lib.hid hy
  unfold maxLen at hm
  clear hv hx hy
  go_enter Tryz.func87, Tryz.ntmps87
  go_wp2_with fail
  go_loopg [3, 8] s.length (fun g x i wr => ∃ (k : Nat) (n : Int), k ≤ s.length ∧ g = s.length - k ∧ i = .int .i64 k ∧ x = .int .i64 n ∧ 1 ≤ n ∧ n ≤ 32 ∧ Hid (elemsGo (s.drop k) n = elemsGo s 1) ∧ w = wr)
  case atStart => exact ⟨0, 1, Nat.zero_le _, rfl, rfl, rfl, by omega, by omega, rfl, rfl⟩
  case round =>
    obtain ⟨k, n, hk, hg, rfl, rfl, h1, h32, HG, rfl⟩ := hrel
    by_cases hkl : k < s.length
    · obtain ⟨b, off, rfl, hbl, hcells⟩ := HY.out (by omega)
      have hcx : w.cell? ⟨b, off + k, none⟩ = some (.int .i64 s[k]) := by rw [hcells k (by omega), ints_get s k hkl]
      have hgo := HG.out
      rw [List.drop_eq_getElem_cons hkl, elemsGo] at hgo
      generalize s[k] = d at hcx hgo
      clear hcells
      by_cases hd1 : d < 1
      · rw [if_pos hd1] at hgo
        have HGO := Lib.hid hgo
        clear hgo
        go_wp2_with fail
        go_ret
        exact ⟨ret_int (by rw [mElems, if_pos HGO.out.symm]), rfl⟩
      · rw [if_neg hd1] at hgo
        by_cases hd2 : 16 < d
        · rw [if_pos hd2] at hgo
          have HGO := Lib.hid hgo
          clear hgo
          go_wp2_with fail
          go_ret
          exact ⟨ret_int (by rw [mElems, if_pos HGO.out.symm]), rfl⟩
        · rw [if_neg hd2] at hgo
          have hp : (1 : Int) * 1 ≤ n * d := Int.mul_le_mul h1 (by omega) (by omega) (by omega)
          have hp2 : n * d ≤ 32 * 16 := Int.mul_le_mul h32 (by omega) (by omega) (by omega)
          have hp3 : 0 ≤ n * d := by omega
          have hp4 : n * d ≤ 512 := by omega
          by_cases hd3 : 32 < n * d
          · rw [if_pos hd3] at hgo
            have HGO := Lib.hid hgo
            clear hgo
            go_wp2_with fail
            go_ret
            exact ⟨ret_int (by rw [mElems, if_pos HGO.out.symm]), rfl⟩
          · rw [if_neg hd3] at hgo
            have HGO := Lib.hid hgo
            clear hgo
            go_wp2_with fail
            go_roundg (s.length - (k + 1))
            case measure => omega
            case rel => exact ⟨k + 1, n * d, by omega, rfl, by go_num, rfl, by omega, by omega, HGO.out, rfl⟩
    · obtain rfl : k = s.length := by omega
      have hgo := HG.out
      rw [List.drop_length, elemsGo] at hgo
      have HGO := Lib.hid hgo
      clear hgo
      by_cases hl : 2 < s.length
      · go_wp2_with fail
        go_ret
        exact ⟨ret_int (by rw [mElems]; simp [hl]), rfl⟩
      · go_wp2_with fail
        go_ret
        exact ⟨ret_int (by rw [mElems, ← HGO.out, if_neg (by omega), if_neg hl]), rfl⟩

/-- How many elements shapes have; below 0: one is none. -/
def totalGo : List (List Int) → Int → Int
  | [], n => n
  | s :: l, n => if mElems s = 0 then -1 else totalGo l (n + mElems s)
def mTotal (l : List (List Int)) : Int := totalGo l 0
theorem totalGo_bd : ∀ (l : List (List Int)) (n : Int), 0 ≤ n → totalGo l n = -1 ∨ (0 ≤ totalGo l n ∧ totalGo l n ≤ n + 32 * l.length ∧ n + l.length ≤ totalGo l n ∧ ∀ s ∈ l, mElems s ≠ 0)
  | [], n, h => by simp [totalGo]; omega
  | s :: l, n, h => by
    rw [totalGo]
    split
    · exact .inl rfl
    · rename_i hs
      have hb := mElems_bd s
      rcases totalGo_bd l (n + mElems s) (by omega) with h1 | ⟨h1, h2, h3, h4⟩
      · exact .inl h1
      · refine .inr ⟨h1, by simp only [List.length_cons]; omega, by simp only [List.length_cons]; omega, ?_⟩
        intro x hx
        rcases List.mem_cons.1 hx with rfl | hx
        · exact hs
        · exact h4 x hx

set_option maxHeartbeats 1000000 in
set_option maxRecDepth 100000 in
theorem total_any (v : Value) (vs : List Value) (l : List (List Int)) (w : World) (hv : Arr w.heap.size w 1 v vs.length vs) (hvs : Nest w.heap.size w vs (l.map ints)) (hl : l.length ≤ 1099511627776) :
    Calls Tryz.prog 51 #[v] w fun e w' => e = .returned (.int .i64 (mTotal l)) ∧ w = w' := by
  have hle := hvs.length
  simp only [List.length_map] at hle
  obtain ⟨ao, cc, rfl, hcc, hm, hx, hy⟩ := hv.open
  have HY := Lib.hid hy
  have HV := Lib.hid hvs
  have HLE := Lib.hid hle
  have hvl : vs.length ≤ 1099511627776 := by omega
  clear hv hx hy hm hvs hle
  go_enter Tryz.func51, Tryz.ntmps51
  go_wp2_with fail
  go_loopg [3, 9] vs.length (fun g x i wr => ∃ (k : Nat) (n : Int), k ≤ vs.length ∧ g = vs.length - k ∧ i = .int .i64 k ∧ x = .int .i64 n ∧ 0 ≤ n ∧ n ≤ 32 * k ∧ Hid (totalGo (l.drop k) n = mTotal l) ∧ w = wr)
  case atStart => exact ⟨0, 0, Nat.zero_le _, rfl, rfl, rfl, by omega, by omega, rfl, rfl⟩
  case round =>
    obtain ⟨k, n, hk, hg, rfl, rfl, h0, h32, HG, rfl⟩ := hrel
    by_cases hkl : k < vs.length
    · obtain ⟨b, off, rfl, hbl, hcells⟩ := HY.out (by omega)
      have hkb : k < l.length := by have := HLE.out; omega
      have ha := HV.out.get k hkl (by simpa using hkb)
      simp only [List.getElem_map] at ha
      rw [ints_length] at ha
      have hcx : w.cell? ⟨b, off + k, none⟩ = some vs[k] := by rw [hcells k (by omega)]; simp [hkl]
      have hgo := HG.out
      rw [List.drop_eq_getElem_cons hkb, totalGo] at hgo
      generalize l[k] = s at ha hgo
      generalize vs[k] = sv at ha hcx
      obtain ⟨ao2, c2, rfl, hc2, hm2, hx2, hy2⟩ := Arr.open ha
      have hbd := mElems_bd s
      have HA := Lib.hid ha
      obtain ⟨E, hE⟩ : ∃ E, mElems s = E := ⟨_, rfl⟩
      rw [hE] at hgo hbd
      have HE := Lib.hid hE
      clear hcells ha hx2 hy2 hm2 hE
      by_cases hE0 : E = 0
      · rw [if_pos hE0] at hgo
        have HGO := Lib.hid hgo
        have hE1 : (E == 0) = true := by simpa using hE0
        clear hgo hE0
        go_wp2_with (go_at_call 87; go_must (refine (elems_any _ s _ HA.out).mono ?_; rw [HE.out]; rintro e w' ⟨rfl, rfl⟩))
        go_ret
        exact ⟨ret_int HGO.out, rfl⟩
      · rw [if_neg hE0] at hgo
        have HGO := Lib.hid hgo
        have hE1 : (E == 0) = false := by simpa using hE0
        clear hgo hE0
        go_wp2_with (go_at_call 87; go_must (refine (elems_any _ s _ HA.out).mono ?_; rw [HE.out]; rintro e w' ⟨rfl, rfl⟩))
        go_roundg (vs.length - (k + 1))
        case measure => omega
        case rel => exact ⟨k + 1, n + E, by omega, rfl, by go_num, rfl, by omega, by omega, HGO.out, rfl⟩
    · obtain rfl : k = vs.length := by omega
      have hgo := HG.out
      rw [List.drop_of_length_le (by have := HLE.out; omega), totalGo] at hgo
      have HGO := Lib.hid hgo
      clear hgo
      go_wp2_with fail
      go_ret
      exact ⟨ret_int HGO.out, rfl⟩
end Go.Proofs.YtjbhgimhcjcpmaaGreatDoor
