/-
  THE CONTRACTS of the references' numbers: twainref05.Number, twainref03.Eight, twainref03.Whole.
-/
import Derived.Test.YtjbhgimhcjcpmaaGreatDoorMPlanCheck
import Derived.Test.YtjbhgimhcjcpmaaGreatDoorMCutOp
import Derived.Test.YtjbhgimhcjcpmaaGreatDoorMCircTop
import Derived.Test.YtjbhgimhcjcpmaaGreatDoorMMem
set_option linter.unusedSimpArgs false
set_option linter.unusedVariables false
namespace Go.Proofs.YtjbhgimhcjcpmaaGreatDoor
open Go.RowKit

theorem u8_of (m : Nat) (h : m < 256) : IntKind.wrap .u8 (m : Int) = (m : Int) := by rw [IntKind.wrap_u8]; omega

set_option maxHeartbeats 400000 in
set_option maxRecDepth 100000 in
theorem refNumber_any (n : Nat) (w : World) (hn : n ≤ 4294967295) :
    Calls Tryz.prog 42 #[.int .i64 n] w fun e w' => ∃ v, e = .returned v ∧ w'.ownsRow w.heap.size 5 1 v (num7 n).length (bts (num7 n)) ∧ Below w.heap.size w w' := by
  go_enter Tryz.func42, Tryz.ntmps42
  go_wp2
  go_loopw [0, 3] (fun x v wr => ∃ (m : Nat) (pre : List Nat), m ≤ n ∧ x = .int .i64 m ∧ Hid (pre ++ num7 m = num7 n) ∧ wr.ownsRow w.heap.size 5 1 v pre.length (bts pre) ∧ Below w.heap.size w wr)
     (fun x _ _ => (intOf x).toNat)
  case atStart => exact ⟨n, [], Nat.le_refl _, rfl, rfl, World.ownsRow_nil _ _ _ _, Below.refl _ _⟩
  case round =>
    obtain ⟨m, pre, hm, rfl, H, hown, hb⟩ := hrel
    have hsz := hb.size
    have hp : pre.length ≤ n := by have := congrArg List.length H.out; have := num7_len n; have := num7_len m; simp only [List.length_append] at *; omega
    by_cases h : m < 128
    · go_wp2_with (at_builtin; refine app_k rfl _ _ 33 rfl 5 (.int .u8 0) 1 1 Tryz.underlying33 info_u8 rfl (by decide) #[_] _ _ _ _ hown rfl rfl rfl (by intro u hu; simp at hu; subst hu; rfl) (by omega) (by omega) (by unfold maxLen; omega) ?_; intro v1 w1 hown1 hg1 _)
      go_ret
      refine ⟨_, rfl, ?_, hb.grown hg1 hsz (fun k hk => (hown.lt k hk).1)⟩
      rw [← H.out, num7_small h, bts_append, List.length_append]
      exact hown1
    · go_wp2_with (at_builtin; refine app_k rfl _ _ 33 rfl 5 (.int .u8 0) 1 1 Tryz.underlying33 info_u8 rfl (by decide) #[_] _ _ _ _ hown rfl rfl rfl (by intro u hu; simp at hu; subst hu; rfl) (by omega) (by omega) (by unfold maxLen; omega) ?_; intro v1 w1 hown1 hg1 _)
      go_roundw
      case rel =>
        refine ⟨m / 128, pre ++ [m % 128 + 128], by omega, by go_num, ?_, ?_, hb.grown hg1 hsz (fun k hk => (hown.lt k hk).1)⟩
        · unfold Hid; rw [← H.out, num7_big h]; simp
        · rw [bts_append, List.length_append]
          exact hown1
      case measure => simp [intOf]; omega

/-- A word's bytes, the lowest first, one by one. -/
def leN : Nat → Nat → List Nat
  | 0, _ => []
  | n + 1, m => m % 256 :: leN n (m / 256)
theorem leN_8 (c : Nat) : leN 8 c = le8 c := by
  simp [leN, le8, List.range_succ, Nat.div_div_eq_div_mul]

set_option maxHeartbeats 400000 in
set_option maxRecDepth 100000 in
theorem eight_any (c : Nat) (w : World) (hc : c < 18446744073709551616) :
    Calls Tryz.prog 44 #[.int .u64 c] w fun e w' => ∃ v, e = .returned v ∧ w'.ownsRow w.heap.size 5 1 v (le8 c).length (bts (le8 c)) ∧ Below w.heap.size w w' := by
  go_enter Tryz.func44, Tryz.ntmps44
  go_wp2
  go_loopw [0, 3, 4] (fun x v i wr => ∃ (m k : Nat) (pre : List Nat), m ≤ c ∧ k ≤ 8 ∧ x = .int .u64 m ∧ i = .int .i64 k ∧ Hid (pre ++ leN (8 - k) m = le8 c) ∧ pre.length = k ∧ wr.ownsRow w.heap.size 5 1 v pre.length (bts pre) ∧ Below w.heap.size w wr)
     (fun _ _ i _ => 8 - (intOf i).toNat)
  case atStart => exact ⟨c, 0, [], Nat.le_refl _, by omega, rfl, rfl, (by unfold Hid; rw [List.nil_append]; exact leN_8 c), rfl, World.ownsRow_nil _ _ _ _, Below.refl _ _⟩
  case round =>
    obtain ⟨m, k, pre, hm, hk, rfl, rfl, H, hp, hown, hb⟩ := hrel
    have hsz := hb.size
    by_cases h : k < 8
    · go_wp2_with (at_builtin; refine app_k rfl _ _ 33 rfl 5 (.int .u8 0) 1 1 Tryz.underlying33 info_u8 rfl (by decide) #[_] _ _ _ _ hown rfl rfl rfl (by intro u hu; simp at hu; subst hu; rfl) (by omega) (by omega) (by unfold maxLen; omega) ?_; intro v1 w1 hown1 hg1 _)
      go_roundw
      case rel =>
        refine ⟨m / 256, k + 1, pre ++ [m % 256], by omega, by omega, by go_num, by go_num, ?_, by simp [hp], ?_, hb.grown hg1 hsz (fun k hk => (hown.lt k hk).1)⟩
        · unfold Hid; rw [← H.out, show 8 - k = (8 - (k + 1)) + 1 by omega, leN]; simp
        · rw [bts_append, List.length_append]
          exact hown1
      case measure => simp [intOf]; omega
    · have e : k = 8 := by omega
      subst e
      go_wp2
      go_ret
      have h2 := H.out
      simp only [Nat.sub_self, leN, List.append_nil] at h2
      rw [← h2]
      exact ⟨_, rfl, hown, hb⟩

set_option maxHeartbeats 400000 in
set_option maxRecDepth 100000 in
theorem whole_any (v : Value) (bs : List Nat) (w : World) (hv : Arr w.heap.size w 1 v bs.length (bts bs)) (h8 : ∀ x ∈ bs, x < 256) (hl : bs.length = 8) :
    Calls Tryz.prog 37 #[v] w fun e w' => e = .returned (.int .u64 (wh8 bs : Nat)) ∧ w = w' := by
  obtain ⟨ao, c, rfl, hc, hm, _, hcell⟩ := hv.open
  obtain ⟨b, off, rfl, hb, hcells⟩ := hcell (by omega)
  clear hcell
  unfold maxLen at hm
  go_enter Tryz.func37, Tryz.ntmps37
  go_wp2
  go_loop [3, 4] (fun x i => ∃ (k : Nat), k ≤ 8 ∧ x = .int .u64 (wh8 (bs.drop k) : Nat) ∧ i = .int .i64 ((k : Int) - 1)) (fun _ i => (intOf i + 1).toNat)
  case atStart => exact ⟨8, by omega, by rw [List.drop_eq_nil_of_le (by omega)]; rfl, rfl⟩
  case round =>
    obtain ⟨k, hk, rfl, rfl⟩ := hrel
    by_cases hk0 : k = 0
    · subst hk0
      go_wp2
      go_ret
      exact ⟨rfl, rfl⟩
    · obtain ⟨j, rfl⟩ : ∃ j, k = j + 1 := ⟨k - 1, by omega⟩
      have hj : j < bs.length := by omega
      have hcx : w.cell? ⟨b, off + j, none⟩ = some (.int .u8 (bs[j] : Nat)) := by rw [hcells j (by omega)]; simp [bts, hj]
      have hd : wh8 (bs.drop j) = bs[j] + 256 * wh8 (bs.drop (j + 1)) := by rw [List.drop_eq_getElem_cons hj]; rfl
      have hx : bs[j] < 256 := h8 _ (List.getElem_mem _)
      have hlt := wh8_lt (bs.drop (j + 1)) fun x hx => h8 x (List.mem_of_mem_drop hx)
      have hlt2 : wh8 (bs.drop (j + 1)) < 256 ^ 7 := Nat.lt_of_lt_of_le hlt (Nat.pow_le_pow_right (by decide) (by rw [List.length_drop]; omega))
      have h7 : (256 : Nat) ^ 7 = 72057594037927936 := by decide
      rw [h7] at hlt2
      generalize bs[j] = x at hcx hd hx
      generalize wh8 (bs.drop (j + 1)) = y at hd hlt2
      clear hlt h7 hcells
      rw [show (((j + 1 : Nat) : Int) - 1) = (j : Int) by omega]
      go_wp2
      go_round
      case rel => exact ⟨j, by omega, by rw [hd]; go_num, by go_num⟩
      case measure => simp [intOf]
end Go.Proofs.YtjbhgimhcjcpmaaGreatDoor

/-
  THE CONTRACTS of the references' small words: twainref18.has, twainref09.Operands.
-/
namespace Go.Proofs.YtjbhgimhcjcpmaaGreatDoor
open Go.RowKit

set_option maxHeartbeats 1000000 in
set_option maxRecDepth 100000 in
theorem has_any (v : Value) (a : List Int) (x : Int) (w : World) (h1 : Arr w.heap.size w 1 v a.length (ints a)) :
    Calls Tryz.prog 76 #[v, .int .i64 x] w fun e w' => e = .returned (.bool (decide (x ∈ a))) ∧ w' = w := by
  obtain ⟨ao, cc, rfl, hcc, hm, hx, hy⟩ := h1.open
  have HY := Lib.hid hy
  unfold maxLen at hm
  clear h1 hx hy
  go_enter Tryz.func76, Tryz.ntmps76
  go_wp2_with fail
  go_loopg [8] a.length (fun g i wr => ∃ (k : Nat), k ≤ a.length ∧ g = a.length - k ∧ i = .int .i64 k ∧ Hid (x ∉ a.take k) ∧ wr = w)
  case atStart => exact ⟨0, Nat.zero_le _, rfl, rfl, by simp [Hid], rfl⟩
  case round =>
    obtain ⟨k, hk, hg, rfl, HT, rfl⟩ := hrel
    by_cases hkl : k < a.length
    · obtain ⟨p, off, rfl, hp, hc⟩ := HY.out (by omega)
      have hcx : wr.cell? ⟨p, off + k, none⟩ = some (.int .i64 a[k]) := by rw [hc k (by omega)]; simp [ints, hkl]
      have h3 : (0 : Int) ≤ (k : Int) := by omega
      have h4 : (k : Int) < (a.length : Int) := by omega
      have hmem := List.getElem_mem hkl
      have HT2 := Lib.hid (show a[k] ≠ x → x ∉ a.take (k + 1) by
        intro hne hm
        rw [List.take_succ_eq_append_getElem hkl] at hm
        rcases List.mem_append.1 hm with h | h
        · exact HT.out h
        · exact hne (List.mem_singleton.1 h).symm)
      clear hc
      generalize a[k] = y at hcx hmem HT2
      by_cases hxy : y = x
      · subst hxy
        have hd : decide (y ∈ a) = true := by simpa using hmem
        go_wp2_with fail
        go_ret
        exact ⟨(by rw [hd]; rfl), rfl⟩
      · have hxy' : (y == x) = false := by simpa using hxy
        go_wp2_with fail
        go_roundg (a.length - (k + 1))
        case measure => omega
        case rel => exact ⟨k + 1, by omega, rfl, by go_num, HT2.out hxy, rfl⟩
    · obtain rfl : k = a.length := by omega
      have hd : decide (x ∈ a) = false := by have := HT.out; rw [List.take_length] at this; simpa using this
      go_wp2_with fail
      go_ret
      exact ⟨(by rw [hd]; rfl), rfl⟩

def rOperands (kind : Int) (c : Nat) : Int := if circOk kind c then (if kind = 1 then 1 else 2) else 0
set_option maxHeartbeats 1000000 in
set_option maxRecDepth 100000 in
theorem refOperands_any (kind : Int) (c : Nat) (w : World) :
    Calls Tryz.prog 77 #[.int .i64 kind, .int .u64 c] w fun e w' => e = .returned (.int .i64 (rOperands kind c)) ∧ w' = w := by
  unfold rOperands circOk
  by_cases h1 : kind = 1
  · subst h1
    by_cases hc : c < 2
    · have hd : decide ((c : Int) < 2) = true := by simp; omega
      have hd' : decide (c < 2) = true := by simpa using hc
      rw [hd']
      clear hd'
      go_enter Tryz.func77, Tryz.ntmps77
      go_wp2_with fail
      go_ret
      exact ⟨rfl, rfl⟩
    · have hd : decide ((c : Int) < 2) = false := by simp; omega
      have hd' : decide (c < 2) = false := by simpa using hc
      rw [hd']
      clear hd'
      go_enter Tryz.func77, Tryz.ntmps77
      go_wp2_with fail
      go_ret
      exact ⟨rfl, rfl⟩
  · by_cases h23 : kind = 2 ∨ kind = 3
    · by_cases hc : c < 4
      · have hd : decide ((c : Int) < 4) = true := by simp; omega
        have hd' : decide (c < 4) = true := by simpa using hc
        rw [hd']
        clear hd'
        rcases h23 with rfl | rfl
        all_goals
          go_enter Tryz.func77, Tryz.ntmps77
          go_wp2_with fail
          go_ret
          exact ⟨rfl, rfl⟩
      · have hd : decide ((c : Int) < 4) = false := by simp; omega
        have hd' : decide (c < 4) = false := by simpa using hc
        rw [hd']
        clear hd'
        rcases h23 with rfl | rfl
        all_goals
          go_enter Tryz.func77, Tryz.ntmps77
          go_wp2_with fail
          go_ret
          exact ⟨rfl, rfl⟩
    · have e1 : (kind == 1) = false := by simpa using h1
      have e2 : (kind == 2) = false := by simp; omega
      have e3 : (kind == 3) = false := by simp; omega
      have hz : (if ((kind == 1 && decide (c < 2)) || ((kind == 2 || kind == 3) && decide (c < 4))) = true then (if kind = 1 then (1 : Int) else 2) else 0) = 0 := by rw [e1, e2, e3]; simp
      rw [hz]
      clear hz h1 h23
      go_enter Tryz.func77, Tryz.ntmps77
      go_wp2_with fail
      go_ret
      exact ⟨rfl, rfl⟩
end Go.Proofs.YtjbhgimhcjcpmaaGreatDoor
