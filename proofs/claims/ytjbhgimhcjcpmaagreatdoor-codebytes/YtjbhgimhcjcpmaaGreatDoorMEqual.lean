/-
  THE CONTRACTS of slices.Equal at numbers and at bytes, of slices.IsSorted.
-/
import Derived.Test.YtjbhgimhcjcpmaaGreatDoorMSort2
import Derived.IntWalk
import Derived.Test.YtjbhgimhcjcpmaaGreatDoorMAlone
import Derived.Test.YtjbhgimhcjcpmaaGreatDoorMMCheck
import Derived.Laws.StructEq
import Derived.Laws.Tables
import Derived.Laws.Cover2
import Derived.KernelRfl
import Derived.Test.YtjbhgimhcjcpmaaGreatDoorMCircTop
set_option linter.unusedSimpArgs false
set_option linter.unusedVariables false
namespace Go.Proofs.YtjbhgimhcjcpmaaGreatDoor
open Go.RowKit

set_option maxHeartbeats 1000000 in
set_option maxRecDepth 100000 in
theorem equalI_any (v1 v2 : Value) (a b : List Int) (w : World) (h1 : Arr w.heap.size w 1 v1 a.length (ints a)) (h2 : Arr w.heap.size w 1 v2 b.length (ints b)) :
    Calls Tryz.prog 56 #[v1, v2] w fun e w' => e = .returned (.bool (decide (a = b))) ∧ ∃ n, w' = w.drewN n := by
  obtain ⟨ao, cc, rfl, hcc, hm, hx, hy⟩ := h1.open
  obtain ⟨ao2, cc2, rfl, hcc2, hm2, hx2, hy2⟩ := h2.open
  have HY := Lib.hid hy
  have HY2 := Lib.hid hy2
  unfold maxLen at hm hm2
  clear h1 h2 hx hx2 hy hy2
  by_cases hl : a.length = b.length
  · have hl' : ((a.length : Int) != (b.length : Int)) = false := by simp [hl]
    have HL := Lib.hid hl
    clear hl
    go_enter Tryz.func56, Tryz.ntmps56
    go_wp2_with fail
    go_loopg [13] a.length (fun g i wr => ∃ (k m : Nat), k ≤ a.length ∧ g = a.length - k ∧ i = .int .i64 k ∧ Hid (a.take k = b.take k) ∧ wr = w.drewN m)
    case atStart => exact ⟨0, 0, Nat.zero_le _, rfl, rfl, by simp [Hid], rfl⟩
    case round =>
      obtain ⟨k, m, hk, hg, rfl, HT, rfl⟩ := hrel
      by_cases hkl : k < a.length
      · have hkb : k < b.length := by have := HL.out; omega
        obtain ⟨p, off, rfl, hp, hc⟩ := HY.out (by omega)
        obtain ⟨p2, off2, rfl, hp2, hc2⟩ := HY2.out (by omega)
        have hcx : w.cell? ⟨p, off + k, none⟩ = some (.int .i64 a[k]) := by rw [hc k (by omega)]; simp [ints, hkl]
        have hcy : w.cell? ⟨p2, off2 + k, none⟩ = some (.int .i64 b[k]) := by rw [hc2 k (by omega)]; simp [ints, hkb]
        have h3 : (0 : Int) ≤ (k : Int) := by omega
        have h4 : (k : Int) < (a.length : Int) := by omega
        have h5 : (k : Int) < (b.length : Int) := by omega
        clear hc hc2
        by_cases hxy : a[k] = b[k]
        · have HT2 := Lib.hid (show a.take (k + 1) = b.take (k + 1) by rw [List.take_succ_eq_append_getElem hkl, List.take_succ_eq_append_getElem hkb, HT.out, hxy])
          rw [← hxy] at hcy
          generalize a[k] = x at hcx hcy
          clear hxy
          go_wp2_with fail
          go_quiet (fail)
          go_wp2_with fail
          go_roundg (a.length - (k + 1))
          case measure => omega
          case rel => exact ⟨k + 1, _, by omega, rfl, by go_num, HT2.out, rfl⟩
        · have HNE := Lib.hid (show decide (a = b) = false by
            simp only [decide_eq_false_iff_not]; rintro rfl; exact hxy rfl)
          generalize a[k] = x at hcx hxy
          generalize b[k] = y at hcy hxy
          have hxy' : ((x : Int) != (y : Int)) = true := by simp; omega
          clear hxy
          go_wp2_with fail
          go_quiet (fail)
          go_wp2_with fail
          go_ret
          exact ⟨by rw [HNE.out]; rfl, by first | exact ⟨_, rfl⟩ | exact ⟨_, World.drewN_drewN _ _ _⟩⟩
      · obtain rfl : k = a.length := by omega
        have HEQ := Lib.hid (show decide (a = b) = true by
          have h1 := HT.out
          rw [List.take_length, List.take_of_length_le (by have := HL.out; omega)] at h1
          simp [h1])
        go_wp2_with fail
        go_ret
        exact ⟨by rw [HEQ.out]; rfl, _, rfl⟩
  · have HNE := Lib.hid (show decide (a = b) = false by simp only [decide_eq_false_iff_not]; rintro rfl; exact hl rfl)
    have hl' : ((a.length : Int) != (b.length : Int)) = true := by simp; omega
    go_enter Tryz.func56, Tryz.ntmps56
    go_wp2_with fail
    go_ret
    exact ⟨by rw [HNE.out]; rfl, 0, rfl⟩

set_option maxHeartbeats 1000000 in
set_option maxRecDepth 100000 in
theorem equalB_any (v1 v2 : Value) (a b : List Nat) (w : World) (h1 : Arr w.heap.size w 1 v1 a.length (bts a)) (h2 : Arr w.heap.size w 1 v2 b.length (bts b)) :
    Calls Tryz.prog 28 #[v1, v2] w fun e w' => e = .returned (.bool (decide (a = b))) ∧ ∃ n, w' = w.drewN n := by
  obtain ⟨ao, cc, rfl, hcc, hm, hx, hy⟩ := h1.open
  obtain ⟨ao2, cc2, rfl, hcc2, hm2, hx2, hy2⟩ := h2.open
  have HY := Lib.hid hy
  have HY2 := Lib.hid hy2
  unfold maxLen at hm hm2
  clear h1 h2 hx hx2 hy hy2
  by_cases hl : a.length = b.length
  · have hl' : ((a.length : Int) != (b.length : Int)) = false := by simp [hl]
    have HL := Lib.hid hl
    clear hl
    go_enter Tryz.func28, Tryz.ntmps28
    go_wp2_with fail
    go_loopg [13] a.length (fun g i wr => ∃ (k m : Nat), k ≤ a.length ∧ g = a.length - k ∧ i = .int .i64 k ∧ Hid (a.take k = b.take k) ∧ wr = w.drewN m)
    case atStart => exact ⟨0, 0, Nat.zero_le _, rfl, rfl, by simp [Hid], rfl⟩
    case round =>
      obtain ⟨k, m, hk, hg, rfl, HT, rfl⟩ := hrel
      by_cases hkl : k < a.length
      · have hkb : k < b.length := by have := HL.out; omega
        obtain ⟨p, off, rfl, hp, hc⟩ := HY.out (by omega)
        obtain ⟨p2, off2, rfl, hp2, hc2⟩ := HY2.out (by omega)
        have hcx : w.cell? ⟨p, off + k, none⟩ = some (.int .u8 a[k]) := by rw [hc k (by omega)]; simp [bts, hkl]
        have hcy : w.cell? ⟨p2, off2 + k, none⟩ = some (.int .u8 b[k]) := by rw [hc2 k (by omega)]; simp [bts, hkb]
        have h3 : (0 : Int) ≤ (k : Int) := by omega
        have h4 : (k : Int) < (a.length : Int) := by omega
        have h5 : (k : Int) < (b.length : Int) := by omega
        clear hc hc2
        by_cases hxy : a[k] = b[k]
        · have HT2 := Lib.hid (show a.take (k + 1) = b.take (k + 1) by rw [List.take_succ_eq_append_getElem hkl, List.take_succ_eq_append_getElem hkb, HT.out, hxy])
          rw [← hxy] at hcy
          generalize a[k] = x at hcx hcy
          clear hxy
          go_wp2_with fail
          go_quiet (fail)
          go_wp2_with fail
          go_roundg (a.length - (k + 1))
          case measure => omega
          case rel => exact ⟨k + 1, _, by omega, rfl, by go_num, HT2.out, rfl⟩
        · have HNE := Lib.hid (show decide (a = b) = false by
            simp only [decide_eq_false_iff_not]; rintro rfl; exact hxy rfl)
          generalize a[k] = x at hcx hxy
          generalize b[k] = y at hcy hxy
          have hxy' : ((x : Int) != (y : Int)) = true := by simp; omega
          clear hxy
          go_wp2_with fail
          go_quiet (fail)
          go_wp2_with fail
          go_ret
          exact ⟨by rw [HNE.out]; rfl, by first | exact ⟨_, rfl⟩ | exact ⟨_, World.drewN_drewN _ _ _⟩⟩
      · obtain rfl : k = a.length := by omega
        have HEQ := Lib.hid (show decide (a = b) = true by
          have h1 := HT.out
          rw [List.take_length, List.take_of_length_le (by have := HL.out; omega)] at h1
          simp [h1])
        go_wp2_with fail
        go_ret
        exact ⟨by rw [HEQ.out]; rfl, _, rfl⟩
  · have HNE := Lib.hid (show decide (a = b) = false by simp only [decide_eq_false_iff_not]; rintro rfl; exact hl rfl)
    have hl' : ((a.length : Int) != (b.length : Int)) = true := by simp; omega
    go_enter Tryz.func28, Tryz.ntmps28
    go_wp2_with fail
    go_ret
    exact ⟨by rw [HNE.out]; rfl, 0, rfl⟩

/-- In order, not falling. -/
def mSorted : List Int → Bool
  | x :: y :: l => decide (x ≤ y) && mSorted (y :: l)
  | _ => true
theorem mSorted_iff : ∀ (l : List Int), mSorted l = true ↔ ∀ i, i + 1 < l.length → l.getD i 0 ≤ l.getD (i + 1) 0
  | [] => by simp [mSorted]
  | [x] => by simp [mSorted]
  | x :: y :: l => by
    rw [mSorted, Bool.and_eq_true, mSorted_iff (y :: l), decide_eq_true_eq]
    constructor
    · rintro ⟨h1, h2⟩ i hi
      cases i with
      | zero => simpa using h1
      | succ i => have := h2 i (by simpa using hi); simpa using this
    · intro h
      refine ⟨by have := h 0 (by simp); simpa using this, fun i hi => ?_⟩
      have := h (i + 1) (by simpa using hi); simpa using this

theorem cmpLess_b (x y : Int) (B : Bool) (w : World) (h : decide (x < y) = B) : Calls Tryz.prog 89 #[.int .i64 x, .int .i64 y] w fun e w' => e = .returned (.bool B) ∧ w' = w := by
  subst h; exact cmpLess_any x y w

set_option maxHeartbeats 1000000 in
set_option maxRecDepth 100000 in
theorem isSorted_any (v : Value) (l : List Int) (w : World) (hv : Arr w.heap.size w 1 v l.length (ints l)) :
    Calls Tryz.prog 53 #[v] w fun e w' => e = .returned (.bool (mSorted l)) ∧ ∃ n, w' = w.drewN n := by
  obtain ⟨ao, cc, rfl, hcc, hm, hx, hy⟩ := hv.open
  have HY := Lib.hid hy
  unfold maxLen at hm
  clear hv hx hy
  go_enter Tryz.func53, Tryz.ntmps53
  go_wp2_with fail
  go_loopg [3] l.length (fun g i wr => ∃ (k : Nat), k ≤ l.length ∧ g = k ∧ i = .int .i64 ((k : Int) - 1) ∧ Hid (∀ i, k ≤ i + 1 → i + 1 < l.length → l.getD i 0 ≤ l.getD (i + 1) 0) ∧ Hid (∃ m, wr = w.drewN m))
  case atStart => exact ⟨l.length, Nat.le_refl _, rfl, rfl, (fun i h1 h2 => by omega), ⟨0, rfl⟩⟩
  case round =>
    obtain ⟨k, hk, hg, rfl, HT, HW⟩ := hrel
    have hw : ∀ a, wr.cell? a = w.cell? a := fun a => by obtain ⟨m, hm⟩ := HW.out; rw [hm]; rfl
    have HWC := Lib.hid hw
    clear hw
    by_cases hk2 : 2 ≤ k
    · obtain ⟨j, rfl⟩ : ∃ j, k = j + 2 := ⟨k - 2, by omega⟩
      obtain ⟨p, off, rfl, hp, hc⟩ := HY.out (by omega)
      have hcx : wr.cell? ⟨p, off + (j + 1), none⟩ = some (.int .i64 (l.getD (j + 1) 0)) := by rw [HWC.out, hc (j + 1) (by omega), ints_get l (j + 1) (by omega)]; simp [List.getD, show j + 1 < l.length by omega]
      have hcy : wr.cell? ⟨p, off + j, none⟩ = some (.int .i64 (l.getD j 0)) := by rw [HWC.out, hc j (by omega), ints_get l j (by omega)]; simp [List.getD, show j < l.length by omega]
      have e1 : ((j + 2 : Nat) : Int) - 1 = (j : Int) + 1 := by omega
      rw [e1]
      have h3 : (0 : Int) ≤ (j : Int) + 1 := by omega
      have h4 : (j : Int) + 1 < (l.length : Int) := by omega
      have h5 : (0 : Int) ≤ (j : Int) := by omega
      have h6 : (j : Int) < (l.length : Int) := by omega
      obtain ⟨x, hxx⟩ : ∃ x, l.getD (j + 1) 0 = x := ⟨_, rfl⟩
      obtain ⟨y, hyy⟩ : ∃ y, l.getD j 0 = y := ⟨_, rfl⟩
      rw [hxx] at hcx
      rw [hyy] at hcy
      have HX := Lib.hid hxx
      have HYY := Lib.hid hyy
      clear hc hxx hyy e1
      have t1 : ((j : Int) + 1).toNat = j + 1 := by omega
      have t2 : IntKind.i64.wrap (j : Int) = (j : Int) := IntWalk.i64_in _ (by omega)
      by_cases hxy : x < y
      · have hd := Lib.hid (show decide (x < y) = true by simpa using hxy)
        have HNE := Lib.hid (show mSorted l = false by
          rw [← Bool.not_eq_true, mSorted_iff]
          intro h
          have := h j (by omega)
          rw [HX.out, HYY.out] at this; omega)
        clear hxy
        go_wp2_with fail
        go_quiet ((go_at_call 89; exact Calls.quiet_of_same (cmpLess_b _ _ _ _ hd.out)))
        go_wp2_with fail
        go_ret
        obtain ⟨m, hm⟩ := HW.out
        subst hm
        exact ⟨by rw [HNE.out]; rfl, by first | exact ⟨_, World.drewN_drewN _ _ _⟩ | exact ⟨_, rfl⟩⟩
      · have hd := Lib.hid (show decide (x < y) = false by simpa using hxy)
        have HT2 := Lib.hid (show ∀ i, j + 1 ≤ i + 1 → i + 1 < l.length → l.getD i 0 ≤ l.getD (i + 1) 0 from fun i h1 h2 => by
          by_cases hij : i = j
          · subst hij; rw [HX.out, HYY.out]; omega
          · exact HT.out i (by omega) h2)
        clear hxy
        go_wp2_with fail
        go_quiet ((go_at_call 89; exact Calls.quiet_of_same (cmpLess_b _ _ _ _ hd.out)))
        go_wp2_with fail
        go_roundg (j + 1)
        case measure => omega
        case rel =>
          obtain ⟨m, hm⟩ := HW.out
          subst hm
          exact ⟨j + 1, by omega, rfl, by go_num, HT2.out, by first | exact ⟨_, World.drewN_drewN _ _ _⟩ | exact ⟨_, rfl⟩⟩
    · have hle : ¬ (0 : Int) < (k : Int) - 1 := by omega
      have HEQ := Lib.hid (show mSorted l = true by rw [mSorted_iff]; intro i hi; exact HT.out i (by omega) hi)
      go_wp2_with fail
      go_ret
      exact ⟨by rw [HEQ.out]; rfl, HW.out⟩
end Go.Proofs.YtjbhgimhcjcpmaaGreatDoor

/-
  PLAIN MIRROR of plan.most.
-/
namespace Go.Proofs.YtjbhgimhcjcpmaaGreatDoor

def upd (m : Int → Int) (r x : Int) : Int → Int := fun k => if k = r then x else m k
theorem upd_same (m : Int → Int) (r x : Int) : upd m r x r = x := by simp [upd]
/-- Of each party the words of each round so far, and the most of them. -/
structure MostSt where
  s0 : Int → Int
  s1 : Int → Int
  out : Int
def mostRound1 (o : MOp) (r : Int) : Int := if o.kind = 17 then r - 1 else r
def mostStep0 (o : MOp) (r : Int) (s : MostSt) : MostSt :=
  { s with s0 := upd s.s0 r (s.s0 r + (mNeed (mAlone o)).w0), out := if mWantsW o then max s.out (s.s0 r + (mNeed (mAlone o)).w0) else s.out }
def mostStep1 (o : MOp) (r : Int) (s : MostSt) : MostSt :=
  { s with s1 := upd s.s1 r (s.s1 r + (mNeed (mAlone o)).w1), out := if mWantsW o then max s.out (s.s1 r + (mNeed (mAlone o)).w1) else s.out }
def mostStep (o : MOp) (r : Int) (s : MostSt) : MostSt := mostStep1 o (mostRound1 o r) (mostStep0 o r s)
def mostGo : List MOp → List Int → MostSt → MostSt
  | o :: l, r :: rs, s => mostGo l rs (mostStep o r s)
  | _, _, s => s
def mMost (ops : List MOp) : Int := (mostGo ops (mRounds ops) ⟨fun _ => 0, fun _ => 0, 0⟩).out

theorem needGo_small : ∀ (l : List MOp) (n : MNeed) (B : Int), n.small B → (∀ o ∈ l, (mRule o 65536 65536).2 = true) → (needGo l n).small (B + 10000 * l.length)
  | [], n, B, h, _ => by simpa [needGo] using h
  | o :: l, n, B, h, hr => by
    rw [needGo]
    have h1 := needStep_small h o (hr o (by simp))
    have h2 := needGo_small l (needStep n o) (B + 10000) h1 (fun x hx => hr x (by simp [hx]))
    have e : B + 10000 + 10000 * (l.length : Int) = B + 10000 * ((o :: l).length : Nat) := by simp only [List.length_cons]; omega
    rw [e] at h2; exact h2
theorem mNeed_small (ops : List MOp) : (0 ≤ (mNeed ops).w0 ∧ (mNeed ops).w0 ≤ 10000 * ops.length) ∧ (0 ≤ (mNeed ops).w1 ∧ (mNeed ops).w1 ≤ 10000 * ops.length) := by
  unfold mNeed
  split
  · rename_i h
    have hr : ∀ o ∈ ops, (mRule o 65536 65536).2 = true := by
      intro o ho
      obtain ⟨i, hi, rfl⟩ := List.mem_iff_getElem.1 ho
      exact check_rules h i hi
    have h0 : ({ need0 with rounds := maxOf (mRounds ops) } : MNeed).small 0 := by simp [MNeed.small, need0]
    have hs := needGo_small ops _ 0 h0 hr
    unfold MNeed.small at hs
    rw [Int.zero_add] at hs
    dsimp only [need0] at hs ⊢
    generalize needGo ops _ = n at hs ⊢
    split
    · dsimp only; omega
    · omega
  · simp only [need0]; omega
theorem mAlone_len (o : MOp) : (mAlone o).length ≤ 3 := by unfold mAlone; split <;> (try split) <;> simp
theorem alone_words (o : MOp) : (0 ≤ (mNeed (mAlone o)).w0 ∧ (mNeed (mAlone o)).w0 ≤ 30000) ∧ (0 ≤ (mNeed (mAlone o)).w1 ∧ (mNeed (mAlone o)).w1 ≤ 30000) := by
  have := mNeed_small (mAlone o)
  have := mAlone_len o
  omega
theorem mAlone_c (o : MOp) (h : o.c < 18446744073709551616) : ∀ x ∈ mAlone o, x.c < 18446744073709551616 := by
  intro x hx
  unfold mAlone at hx
  split at hx
  · cases hx
  · split at hx
    · simp at hx; subst hx; exact h
    · simp only [List.mem_cons, List.not_mem_nil, or_false] at hx
      rcases hx with rfl | rfl | rfl
      · decide
      · decide
      · unfold aloneOp; split
        · exact h
        · split <;> exact h

/-- All that is said is between 0 and B. -/
def MostSt.small (s : MostSt) (B : Int) : Prop := (∀ r, 0 ≤ s.s0 r ∧ s.s0 r ≤ B) ∧ (∀ r, 0 ≤ s.s1 r ∧ s.s1 r ≤ B) ∧ 0 ≤ s.out ∧ s.out ≤ B
theorem upd_small {m : Int → Int} {B : Int} (h : ∀ r, 0 ≤ m r ∧ m r ≤ B) (r x : Int) (h0 : 0 ≤ x) (h1 : x ≤ B + 30000) : ∀ k, 0 ≤ upd m r x k ∧ upd m r x k ≤ B + 30000 := by
  intro k; unfold upd; split
  · exact ⟨h0, h1⟩
  · have := h k; omega
theorem mostStep0_small {s : MostSt} {B : Int} (h : s.small B) (o : MOp) (r : Int) : (mostStep0 o r s).small (B + 30000) := by
  obtain ⟨h1, h2, h3, h4⟩ := h
  have hw := alone_words o
  have hr := h1 r
  refine ⟨upd_small h1 _ _ (by omega) (by omega), fun k => by have := h2 k; simp only [mostStep0]; omega, ?_, ?_⟩
  · simp only [mostStep0]; split <;> omega
  · simp only [mostStep0]; split <;> omega
theorem mostStep1_small {s : MostSt} {B : Int} (h : s.small B) (o : MOp) (r : Int) : (mostStep1 o r s).small (B + 30000) := by
  obtain ⟨h1, h2, h3, h4⟩ := h
  have hw := alone_words o
  have hr := h2 r
  refine ⟨fun k => by have := h1 k; simp only [mostStep1]; omega, upd_small h2 _ _ (by omega) (by omega), ?_, ?_⟩
  · simp only [mostStep1]; split <;> omega
  · simp only [mostStep1]; split <;> omega
theorem mostStep_small {s : MostSt} {B : Int} (h : s.small B) (o : MOp) (r : Int) : (mostStep o r s).small (B + 60000) := by
  have := mostStep1_small (mostStep0_small h o r) o (mostRound1 o r)
  rw [show B + 60000 = B + 30000 + 30000 by omega]; exact this
end Go.Proofs.YtjbhgimhcjcpmaaGreatDoor

/-
  CLOSED FACTS: what '==' says of two needs, of two pairs of numbers, of two operations.
-/
namespace Go.Proofs.YtjbhgimhcjcpmaaGreatDoor
open Go.RowKit

theorem isAgg_int (w : World) : (isAgg 3).run Tryz.prog w = .ok false w := by kernel_rfl
theorem isAgg_u64 (w : World) : (isAgg 41).run Tryz.prog w = .ok false w := by kernel_rfl
theorem isAgg_kind (w : World) : (isAgg 42).run Tryz.prog w = .ok false w := by kernel_rfl
theorem isAgg_two (w : World) : (isAgg 23).run Tryz.prog w = .ok true w := by kernel_rfl
theorem sizeOf_int (w : World) : (sizeOf 3).run Tryz.prog w = .ok 1 w := by kernel_rfl
theorem sizeOf_two (w : World) : (sizeOf 23).run Tryz.prog w = .ok 2 w := by kernel_rfl

theorem eq_two (n : Nat) (a b c d : Int) (w : World) : (Op.equalIn (n + 2) 23 (.agg #[.int .i64 a, .int .i64 b]) (.agg #[.int .i64 c, .int .i64 d])).run Tryz.prog w = .ok (a == c && b == d) w := by
  have u3 := Tryz.underlying3
  have a3 := isAgg_int
  have z3 := sizeOf_int
  rw [show n + 2 = (n + 1) + 1 from rfl, Op.equalIn]
  simp only [Sem.run_bind, run_underlying Tryz.underlying23, Result.andThen_ok]
  simp only [Std.Legacy.Range.forIn_eq_forIn_range', Std.Legacy.Range.size, Nat.sub_zero, Nat.add_sub_cancel, Nat.div_one, List.range'_succ, List.range'_zero, List.forIn_cons, List.forIn_nil]
  go_simp
  by_cases h1 : a = c <;> by_cases h2 : b = d <;> simp [h1, h2]
theorem eq_op (a b : MOp) (w : World) : (Op.equalIn 10000 44 (.agg #[.int .i64 a.kind, .int .i64 a.a, .int .i64 a.b, .int .i64 a.k, .int .u64 a.c, .int .i64 a.party]) (.agg #[.int .i64 b.kind, .int .i64 b.a, .int .i64 b.b, .int .i64 b.k, .int .u64 b.c, .int .i64 b.party])).run Tryz.prog w =
    .ok ((a.kind == b.kind) && (a.a == b.a) && (a.b == b.b) && (a.k == b.k) && ((a.c : Int) == (b.c : Int)) && (a.party == b.party)) w := by
  have u1 := Tryz.underlying3
  have u2 := Tryz.underlying41
  have u3 := Tryz.underlying42
  have a1 := isAgg_int
  have a2 := isAgg_u64
  have a3 := isAgg_kind
  have hS : Tryz.prog.underlying 44 = some (.struct (Tryz.prog.fieldsOf 44)) := by kernel_rfl
  rw [show (10000 : Nat) = 9999 + 1 from rfl, run_equalIn_agg w 9999 44 _ _ hS (by kernel_rfl)]
  simp only [Program.fieldsOf, Tryz.underlying44]
  go_simp
  by_cases h1 : a.kind = b.kind <;> by_cases h2 : a.a = b.a <;> by_cases h3 : a.b = b.b <;> by_cases h4 : a.k = b.k <;> by_cases h5 : (a.c : Int) = (b.c : Int) <;> by_cases h6 : a.party = b.party <;> simp [h1, h2, h3, h4, h5, h6]
end Go.Proofs.YtjbhgimhcjcpmaaGreatDoor

/-
  What '!=' says of two needs.
-/
namespace Go.Proofs.YtjbhgimhcjcpmaaGreatDoor
open Go.RowKit

def needEq (a b : MNeed) : Bool := (a.tri == b.tri) && (a.bits == b.bits) && (a.ots == b.ots) && (a.t0 == b.t0) && (a.t1 == b.t1) && (a.rounds == b.rounds) && (a.w0 == b.w0) && (a.w1 == b.w1)
set_option maxHeartbeats 4000000 in
theorem run_neq_need (a b : MNeed) (w : World) : (binOp .neq 26 (.agg #[.int .i64 a.tri, .int .i64 a.bits, .int .i64 a.ots, .int .i64 a.t0, .int .i64 a.t1, .int .i64 a.rounds, .int .i64 a.w0, .int .i64 a.w1])
    (.agg #[.int .i64 b.tri, .int .i64 b.bits, .int .i64 b.ots, .int .i64 b.t0, .int .i64 b.t1, .int .i64 b.rounds, .int .i64 b.w0, .int .i64 b.w1])).run Tryz.prog w = .ok (.bool (!needEq a b)) w := by
  have u1 := Tryz.underlying3
  have a1 := isAgg_int
  have a2 := isAgg_two
  have z1 := sizeOf_int
  have z2 := sizeOf_two
  have e2 := fun a b c d w => eq_two 9997 a b c d w
  simp only [show (9997 + 2 : Nat) = 9999 from rfl] at e2
  have hS : Tryz.prog.underlying 26 = some (.struct (Tryz.prog.fieldsOf 26)) := by kernel_rfl
  rw [run_neq_struct, show (10000 : Nat) = 9999 + 1 from rfl, run_equalIn_agg w 9999 26 _ _ hS (by kernel_rfl)]
  simp only [Program.fieldsOf, Tryz.underlying26]
  go_simp
  simp only [needEq]
  by_cases h1 : a.tri = b.tri <;> (first | (simp [h1]; done) | skip)
  by_cases h2 : a.bits = b.bits <;> (first | (simp [h2]; done) | skip)
  by_cases h3 : a.ots = b.ots <;> (first | (simp [h3]; done) | skip)
  by_cases h4 : a.rounds = b.rounds <;> (first | (simp [h4]; done) | skip)
  all_goals by_cases h5 : a.t0 = b.t0 <;> by_cases h6 : a.t1 = b.t1 <;> by_cases h7 : a.w0 = b.w0 <;> by_cases h8 : a.w1 = b.w1 <;> simp [h1, h2, h3, h4, h5, h6, h7, h8]
end Go.Proofs.YtjbhgimhcjcpmaaGreatDoor

/-
  THE PLAIN LAW: what is a program for some inputs is one for the most that may be.
-/
namespace Go.Proofs.YtjbhgimhcjcpmaaGreatDoor

theorem mRule_other (o : MOp) (e0 e1 : Int) (h : o.kind ≠ 1) : mRule o e0 e1 = mRule o 65536 65536 := by
  rw [mRule, mRule, if_neg h, if_neg h]
theorem opOk_all (o : MOp) (e0 e1 : Int) (h0 : e0 ≤ 65536) (h1 : e1 ≤ 65536) (outs : Nat) (seen made : List Int) (h : opOk outs seen made o (mRule o e0 e1) = true) :
    opOk outs seen made o (mRule o 65536 65536) = true ∧ opOk1 outs seen o (mRule o 65536 65536) = opOk1 outs seen o (mRule o e0 e1) ∧ (mRule o 65536 65536).1.makes = (mRule o e0 e1).1.makes := by
  by_cases hk : o.kind = 1
  · have ht : mTold o = false := by simp [mTold, hk]
    have hr : ∀ a b, mRule o a b = mInRule o.party a b := fun a b => by rw [mRule, if_pos hk]
    rw [hr] at h ⊢
    rw [hr]
    by_cases p0 : o.party = 0
    · simp only [mInRule, if_pos p0, opOk, opOk1, opNum, opK, ht, Bool.and_eq_true, Bool.or_eq_true, decide_eq_true_eq, Bool.not_false, Bool.true_or, Bool.and_true, beq_iff_eq, Bool.false_eq_true, if_false] at h ⊢
      obtain ⟨⟨ha, hw⟩, ⟨⟨hn, hc⟩, hp⟩⟩ := h
      refine ⟨⟨⟨by omega, hw⟩, ⟨⟨by omega, hc⟩, hp⟩⟩, ?_, trivial⟩
      simp [ha]
    · by_cases p1 : o.party = 1
      · simp only [mInRule, if_neg p0, if_pos p1, opOk, opOk1, opNum, opK, ht, Bool.and_eq_true, Bool.or_eq_true, decide_eq_true_eq, Bool.not_false, Bool.true_or, Bool.and_true, beq_iff_eq, Bool.false_eq_true, if_false] at h ⊢
        obtain ⟨⟨ha, hw⟩, ⟨⟨hn, hc⟩, hp⟩⟩ := h
        refine ⟨⟨⟨by omega, hw⟩, ⟨⟨by omega, hc⟩, hp⟩⟩, ?_, trivial⟩
        simp [ha]
      · simp [mInRule, p0, p1, opOk, opOk1] at h
  · rw [mRule_other o e0 e1 hk] at h ⊢
    exact ⟨h, rfl, rfl⟩
theorem formsGo_all (e0 e1 : Int) (h0 : e0 ≤ 65536) (h1 : e1 ≤ 65536) (outs : Nat) (l : List MOp) : ∀ (seen made : List Int) (x : List Int), formsGo e0 e1 outs l seen made = some x → formsGo 65536 65536 outs l seen made = some x := by
  induction l with
  | nil => intro seen made x h; exact h
  | cons o l ih =>
    intro seen made x h
    rw [formsGo] at h ⊢
    by_cases ho : opOk outs seen made o (mRule o e0 e1) = true
    · obtain ⟨a, b, c⟩ := opOk_all o e0 e1 h0 h1 outs seen made ho
      rw [if_pos ho] at h
      rw [if_pos a, b, c]
      exact ih _ _ _ h
    · rw [if_neg ho] at h; cases h
theorem mCheck_all (ops : List MOp) (e0 e1 : Int) (h : mCheck ops e0 e1 = true) : mCheck ops 65536 65536 = true := by
  simp only [mCheck, mForms, Bool.and_eq_true, decide_eq_true_eq] at h ⊢
  obtain ⟨⟨⟨⟨⟨a, b⟩, c⟩, d⟩, e⟩, f⟩ := h
  obtain ⟨x, hx⟩ := Option.isSome_iff_exists.1 f
  rw [formsGo_all e0 e1 b d _ _ _ _ x hx]
  exact ⟨⟨⟨⟨⟨by omega, by omega⟩, by omega⟩, by omega⟩, e⟩, rfl⟩
end Go.Proofs.YtjbhgimhcjcpmaaGreatDoor
