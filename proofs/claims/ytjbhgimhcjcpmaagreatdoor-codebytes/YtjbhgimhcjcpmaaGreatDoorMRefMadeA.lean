/-
  THE CONTRACT of twainref11.Made, at any list and any numbers of elements.
-/
import Derived.Test.YtjbhgimhcjcpmaaGreatDoorMRefFits
import Derived.Test.YtjbhgimhcjcpmaaGreatDoorMMCheck
set_option linter.unusedSimpArgs false
set_option linter.unusedVariables false
namespace Go.Proofs.YtjbhgimhcjcpmaaGreatDoor
open Go.RowKit

set_option maxHeartbeats 1000000 in
set_option maxRecDepth 100000 in
theorem refMade_0 (ao : Option Addr) (n cc : Nat) (e0 e1 : Int) (w : World) (g0 : decide ((16384 : Int) < (n : Int)) = true) : Calls Tryz.prog 38 #[.slice ao n cc, .agg #[.int .i64 e0, .int .i64 e1]] w (MadePost w false) := by
  go_enter Tryz.func38, Tryz.ntmps38
  go_wp2_with fail
  go_ret2
  exact ⟨_, rfl, (Below.refl _ _).alloc (Nat.le_refl _) _⟩

set_option maxHeartbeats 1000000 in
set_option maxRecDepth 100000 in
theorem refMade_1 (ao : Option Addr) (n cc : Nat) (e0 e1 : Int) (w : World) (g0 : decide ((16384 : Int) < (n : Int)) = false) (g1 : decide (e0 < 0) = true) : Calls Tryz.prog 38 #[.slice ao n cc, .agg #[.int .i64 e0, .int .i64 e1]] w (MadePost w false) := by
  go_enter Tryz.func38, Tryz.ntmps38
  go_wp2_with fail
  go_ret2
  exact ⟨_, rfl, (Below.refl _ _).alloc (Nat.le_refl _) _⟩

set_option maxHeartbeats 1000000 in
set_option maxRecDepth 100000 in
theorem refMade_2 (ao : Option Addr) (n cc : Nat) (e0 e1 : Int) (w : World) (g0 : decide ((16384 : Int) < (n : Int)) = false) (g1 : decide (e0 < 0) = false) (g2 : decide (65536 < e0) = true) : Calls Tryz.prog 38 #[.slice ao n cc, .agg #[.int .i64 e0, .int .i64 e1]] w (MadePost w false) := by
  go_enter Tryz.func38, Tryz.ntmps38
  go_wp2_with fail
  go_ret2
  exact ⟨_, rfl, (Below.refl _ _).alloc (Nat.le_refl _) _⟩

set_option maxHeartbeats 1000000 in
set_option maxRecDepth 100000 in
theorem refMade_3 (ao : Option Addr) (n cc : Nat) (e0 e1 : Int) (w : World) (g0 : decide ((16384 : Int) < (n : Int)) = false) (g1 : decide (e0 < 0) = false) (g2 : decide (65536 < e0) = false) (g3 : decide (e1 < 0) = true) : Calls Tryz.prog 38 #[.slice ao n cc, .agg #[.int .i64 e0, .int .i64 e1]] w (MadePost w false) := by
  go_enter Tryz.func38, Tryz.ntmps38
  go_wp2_with fail
  go_ret2
  exact ⟨_, rfl, (Below.refl _ _).alloc (Nat.le_refl _) _⟩

set_option maxHeartbeats 1000000 in
set_option maxRecDepth 100000 in
theorem refMade_4 (ao : Option Addr) (n cc : Nat) (e0 e1 : Int) (w : World) (g0 : decide ((16384 : Int) < (n : Int)) = false) (g1 : decide (e0 < 0) = false) (g2 : decide (65536 < e0) = false) (g3 : decide (e1 < 0) = false) (g4 : decide (65536 < e1) = true) : Calls Tryz.prog 38 #[.slice ao n cc, .agg #[.int .i64 e0, .int .i64 e1]] w (MadePost w false) := by
  go_enter Tryz.func38, Tryz.ntmps38
  go_wp2_with fail
  go_ret2
  exact ⟨_, rfl, (Below.refl _ _).alloc (Nat.le_refl _) _⟩

set_option maxHeartbeats 1000000 in
set_option maxRecDepth 100000 in
theorem refMade_5 (v : Value) (ops : List MOp) (e0 e1 : Int) (w : World) (hv : Arr w.heap.size w 6 v ops.length (ocells ops)) (hl : ops.length ≤ 16384) (h0 : 0 ≤ e0 ∧ e0 ≤ 65536) (h1 : 0 ≤ e1 ∧ e1 ≤ 65536) (ht : rTold ops = false) :
    Calls Tryz.prog 38 #[v, .agg #[.int .i64 e0, .int .i64 e1]] w (MadePost w false) := by
  obtain ⟨ao, cc, rfl, hcc, hm, hx, hy⟩ := hv.open
  have HV := Lib.hid hv
  have HT := Lib.hid ht
  have g0 : decide ((16384 : Int) < (ops.length : Int)) = false := by simp; omega
  have g1 : decide (e0 < 0) = false := by simp; omega
  have g2 : decide (65536 < e0) = false := by simp; omega
  have g3 : decide (e1 < 0) = false := by simp; omega
  have g4 : decide (65536 < e1) = false := by simp; omega
  have HB := Lib.hid ((Below.refl w.heap.size w).alloc (Nat.le_refl _) (.cells #[.int .i64 e0, .int .i64 e1] 23))
  clear hv hx hy hm ht h0 h1
  go_enter Tryz.func38, Tryz.ntmps38
  go_wp2_with (go_at_call 71; go_must (refine (refTold_any _ ops _ (HV.out.later HB.out HB.out.size) (by omega)).mono ?_; rw [HT.out]; rintro e w' ⟨rfl, rfl⟩))
  go_ret2
  exact ⟨_, rfl, HB.out⟩
theorem refMade_any (v : Value) (ops : List MOp) (e0 e1 : Int) (w : World) (hv : Arr w.heap.size w 6 v ops.length (ocells ops)) (hl : ops.length ≤ 1000000) :
    Calls Tryz.prog 38 #[v, .agg #[.int .i64 e0, .int .i64 e1]] w (MadePost w (rMade ops e0 e1)) := by
  obtain ⟨ao, cc, hve, _⟩ := hv.open
  by_cases h0 : 16384 < ops.length
  · rw [show rMade ops e0 e1 = false by simp [rMade]; omega, hve]
    exact refMade_0 ao _ cc e0 e1 w (by simp; omega)
  by_cases h1 : e0 < 0
  · rw [show rMade ops e0 e1 = false by simp [rMade]; omega, hve]
    exact refMade_1 ao _ cc e0 e1 w (by simp; omega) (by simpa using h1)
  by_cases h2 : 65536 < e0
  · rw [show rMade ops e0 e1 = false by simp [rMade]; omega, hve]
    exact refMade_2 ao _ cc e0 e1 w (by simp; omega) (by simpa using h1) (by simpa using h2)
  by_cases h3 : e1 < 0
  · rw [show rMade ops e0 e1 = false by simp [rMade]; omega, hve]
    exact refMade_3 ao _ cc e0 e1 w (by simp; omega) (by simpa using h1) (by simpa using h2) (by simpa using h3)
  by_cases h4 : 65536 < e1
  · rw [show rMade ops e0 e1 = false by simp [rMade]; omega, hve]
    exact refMade_4 ao _ cc e0 e1 w (by simp; omega) (by simpa using h1) (by simpa using h2) (by simpa using h3) (by simpa using h4)
  by_cases h5 : rTold ops = true
  · rw [show rMade ops e0 e1 = rMadeGo e0 e1 ops [] by simp [rMade, h5, show ops.length ≤ 16384 by omega, show 0 ≤ e0 by omega, show e0 ≤ 65536 by omega, show 0 ≤ e1 by omega, show e1 ≤ 65536 by omega]]
    exact refMade_loop v ops e0 e1 w hv (by omega) ⟨by omega, by omega⟩ ⟨by omega, by omega⟩ h5 _ rfl
  · rw [show rMade ops e0 e1 = false by simp [rMade, h5]]
    exact refMade_5 v ops e0 e1 w hv (by omega) ⟨by omega, by omega⟩ ⟨by omega, by omega⟩ (by simpa using h5)
end Go.Proofs.YtjbhgimhcjcpmaaGreatDoor

/-
  PLAIN LAWS: what the reference calls a program is one.
-/
namespace Go.Proofs.YtjbhgimhcjcpmaaGreatDoor

/-- The words that an operation tells, against those told before. -/
def tellOk (n : Nat) (seen : List Int) (o : MOp) : Bool := !mTold o || (decide (0 ≤ o.k) && decide (o.k < n) && (seen.getD o.k.toNat 0 == 0))
theorem step_in (n : Nat) (seen made : List Int) (e0 e1 a b k party : Int) (c : Nat) (h0 : e0 ≤ 65536) (h1 : e1 ≤ 65536) : opOk n seen made ⟨1, a, b, k, c, party⟩ (mRule ⟨1, a, b, k, c, party⟩ e0 e1) = (tellOk n seen ⟨1, a, b, k, c, party⟩ && rStep e0 e1 made ⟨1, a, b, k, c, party⟩) := by
  have hr : mRule ⟨1, a, b, k, c, party⟩ e0 e1 = mInRule party e0 e1 := rfl
  have hw : rWants ⟨1, a, b, k, c, party⟩ = (0, 0, 1, 1) := rfl
  rw [hr]
  simp only [rStep, hw]
  rw [Bool.eq_iff_iff]
  by_cases p0 : party = 0
  · subst p0
    simp [opOk, opOk1, opNum, opK, tellOk, rNumbers, mTold, mInRule]
    by_cases hA : mWants made a 0 = true <;> by_cases hB : mWants made b 0 = true <;> simp [hA, hB] <;> omega
  · by_cases p1 : party = 1
    · subst p1
      simp [opOk, opOk1, opNum, opK, tellOk, rNumbers, mTold, mInRule]
      by_cases hA : mWants made a 0 = true <;> by_cases hB : mWants made b 0 = true <;> simp [hA, hB] <;> omega
    · simp [opOk, opOk1, opNum, opK, tellOk, rNumbers, mTold, mInRule, p0, p1, rule0]
      omega
theorem step_garb (n : Nat) (seen made : List Int) (e0 e1 a b k party : Int) (c : Nat) : opOk n seen made ⟨17, a, b, k, c, party⟩ (mRule ⟨17, a, b, k, c, party⟩ e0 e1) = (tellOk n seen ⟨17, a, b, k, c, party⟩ && rStep e0 e1 made ⟨17, a, b, k, c, party⟩) := by
  have hr : mRule ⟨17, a, b, k, c, party⟩ e0 e1 = mGarbRule k c := rfl
  rw [hr]
  by_cases hc : circOk k c = true
  · have hw : rWants ⟨17, a, b, k, c, party⟩ = rW17 k c := by simp [rWants, hc]
    have hg : mGarbRule k c = (⟨mFormOf c, if k = 1 then 0 else mFormOf (c / 2), 2, 4, true, false, 2⟩, true) := by simp [mGarbRule, hc]
    rw [hg]
    simp only [rStep, hw, rW17]
    have hk : 0 < k ∧ k < 4 := by rcases circOk_cases hc with ⟨h, _⟩ | ⟨h | h, _⟩ <;> omega
    have f1 : mFormOf c = 1 + (c : Int) % 2 := by unfold mFormOf; split <;> omega
    have f2 : mFormOf (c / 2) = 1 + (c : Int) / 2 % 2 := by unfold mFormOf; split <;> omega
    rw [f1, f2]
    generalize (1 + (c : Int) % 2) = fa
    generalize (if k = 1 then 0 else 1 + (c : Int) / 2 % 2) = fb
    rw [Bool.eq_iff_iff]
    simp [opOk, opOk1, opNum, opK, tellOk, rNumbers, mTold]
    by_cases hA : mWants made a fa = true <;> by_cases hB : mWants made b fb = true <;> simp [hA, hB] <;> omega
  · have hw : rWants ⟨17, a, b, k, c, party⟩ = (0, 0, 0, -1) := by simp [rWants, hc]
    have hg : mGarbRule k c = (rule0, false) := by simp [mGarbRule, hc]
    rw [hg]
    simp [rStep, hw, opOk, opOk1]

theorem step_2 (n : Nat) (seen made : List Int) (e0 e1 a b k party : Int) (c : Nat) : opOk n seen made ⟨2, a, b, k, c, party⟩ (mRule ⟨2, a, b, k, c, party⟩ e0 e1) = (tellOk n seen ⟨2, a, b, k, c, party⟩ && rStep e0 e1 made ⟨2, a, b, k, c, party⟩) := by
  have hr : mRule ⟨2, a, b, k, c, party⟩ e0 e1 = (⟨0, 0, 3, 0, true, false, 0⟩, true) := rfl
  have hw : rWants ⟨2, a, b, k, c, party⟩ = (0, 0, 3, 0) := rfl
  rw [hr]
  simp only [rStep, hw]
  rw [Bool.eq_iff_iff]
  generalize hs : seen.getD k.toNat 0 = s
  simp [opOk, opOk1, opNum, opK, tellOk, rNumbers, mTold, hs]
  by_cases hA : mWants made a 0 = true <;> by_cases hB : mWants made b 0 = true <;> simp [hA, hB] <;> omega
theorem step_3 (n : Nat) (seen made : List Int) (e0 e1 a b k party : Int) (c : Nat) : opOk n seen made ⟨3, a, b, k, c, party⟩ (mRule ⟨3, a, b, k, c, party⟩ e0 e1) = (tellOk n seen ⟨3, a, b, k, c, party⟩ && rStep e0 e1 made ⟨3, a, b, k, c, party⟩) := by
  have hr : mRule ⟨3, a, b, k, c, party⟩ e0 e1 = (⟨1, 1, 1, 0, false, false, 0⟩, true) := rfl
  have hw : rWants ⟨3, a, b, k, c, party⟩ = (1, 1, 1, 0) := rfl
  rw [hr]
  simp only [rStep, hw]
  rw [Bool.eq_iff_iff]
  generalize hs : seen.getD k.toNat 0 = s
  simp [opOk, opOk1, opNum, opK, tellOk, rNumbers, mTold, hs]
  by_cases hA : mWants made a 1 = true <;> by_cases hB : mWants made b 1 = true <;> simp [hA, hB] <;> omega
theorem step_4 (n : Nat) (seen made : List Int) (e0 e1 a b k party : Int) (c : Nat) : opOk n seen made ⟨4, a, b, k, c, party⟩ (mRule ⟨4, a, b, k, c, party⟩ e0 e1) = (tellOk n seen ⟨4, a, b, k, c, party⟩ && rStep e0 e1 made ⟨4, a, b, k, c, party⟩) := by
  have hr : mRule ⟨4, a, b, k, c, party⟩ e0 e1 = (⟨1, 1, 1, 0, false, false, 0⟩, true) := rfl
  have hw : rWants ⟨4, a, b, k, c, party⟩ = (1, 1, 1, 0) := rfl
  rw [hr]
  simp only [rStep, hw]
  rw [Bool.eq_iff_iff]
  generalize hs : seen.getD k.toNat 0 = s
  simp [opOk, opOk1, opNum, opK, tellOk, rNumbers, mTold, hs]
  by_cases hA : mWants made a 1 = true <;> by_cases hB : mWants made b 1 = true <;> simp [hA, hB] <;> omega
theorem step_5 (n : Nat) (seen made : List Int) (e0 e1 a b k party : Int) (c : Nat) : opOk n seen made ⟨5, a, b, k, c, party⟩ (mRule ⟨5, a, b, k, c, party⟩ e0 e1) = (tellOk n seen ⟨5, a, b, k, c, party⟩ && rStep e0 e1 made ⟨5, a, b, k, c, party⟩) := by
  have hr : mRule ⟨5, a, b, k, c, party⟩ e0 e1 = (⟨1, 0, 1, 0, true, false, 0⟩, true) := rfl
  have hw : rWants ⟨5, a, b, k, c, party⟩ = (1, 0, 1, 0) := rfl
  rw [hr]
  simp only [rStep, hw]
  rw [Bool.eq_iff_iff]
  generalize hs : seen.getD k.toNat 0 = s
  simp [opOk, opOk1, opNum, opK, tellOk, rNumbers, mTold, hs]
  by_cases hA : mWants made a 1 = true <;> by_cases hB : mWants made b 0 = true <;> simp [hA, hB] <;> omega
theorem step_6 (n : Nat) (seen made : List Int) (e0 e1 a b k party : Int) (c : Nat) : opOk n seen made ⟨6, a, b, k, c, party⟩ (mRule ⟨6, a, b, k, c, party⟩ e0 e1) = (tellOk n seen ⟨6, a, b, k, c, party⟩ && rStep e0 e1 made ⟨6, a, b, k, c, party⟩) := by
  have hr : mRule ⟨6, a, b, k, c, party⟩ e0 e1 = (⟨1, 1, 1, 0, false, false, 1⟩, true) := rfl
  have hw : rWants ⟨6, a, b, k, c, party⟩ = (1, 1, 1, 1) := rfl
  rw [hr]
  simp only [rStep, hw]
  rw [Bool.eq_iff_iff]
  generalize hs : seen.getD k.toNat 0 = s
  simp [opOk, opOk1, opNum, opK, tellOk, rNumbers, mTold, hs]
  by_cases hA : mWants made a 1 = true <;> by_cases hB : mWants made b 1 = true <;> simp [hA, hB] <;> omega
theorem step_7 (n : Nat) (seen made : List Int) (e0 e1 a b k party : Int) (c : Nat) : opOk n seen made ⟨7, a, b, k, c, party⟩ (mRule ⟨7, a, b, k, c, party⟩ e0 e1) = (tellOk n seen ⟨7, a, b, k, c, party⟩ && rStep e0 e1 made ⟨7, a, b, k, c, party⟩) := by
  have hr : mRule ⟨7, a, b, k, c, party⟩ e0 e1 = (⟨2, 2, 2, 0, false, false, 0⟩, true) := rfl
  have hw : rWants ⟨7, a, b, k, c, party⟩ = (2, 2, 2, 0) := rfl
  rw [hr]
  simp only [rStep, hw]
  rw [Bool.eq_iff_iff]
  generalize hs : seen.getD k.toNat 0 = s
  simp [opOk, opOk1, opNum, opK, tellOk, rNumbers, mTold, hs]
  by_cases hA : mWants made a 2 = true <;> by_cases hB : mWants made b 2 = true <;> simp [hA, hB] <;> omega
theorem step_8 (n : Nat) (seen made : List Int) (e0 e1 a b k party : Int) (c : Nat) : opOk n seen made ⟨8, a, b, k, c, party⟩ (mRule ⟨8, a, b, k, c, party⟩ e0 e1) = (tellOk n seen ⟨8, a, b, k, c, party⟩ && rStep e0 e1 made ⟨8, a, b, k, c, party⟩) := by
  have hr : mRule ⟨8, a, b, k, c, party⟩ e0 e1 = (⟨2, 0, 2, 0, true, false, 0⟩, true) := rfl
  have hw : rWants ⟨8, a, b, k, c, party⟩ = (2, 0, 2, 0) := rfl
  rw [hr]
  simp only [rStep, hw]
  rw [Bool.eq_iff_iff]
  generalize hs : seen.getD k.toNat 0 = s
  simp [opOk, opOk1, opNum, opK, tellOk, rNumbers, mTold, hs]
  by_cases hA : mWants made a 2 = true <;> by_cases hB : mWants made b 0 = true <;> simp [hA, hB] <;> omega
theorem step_9 (n : Nat) (seen made : List Int) (e0 e1 a b k party : Int) (c : Nat) : opOk n seen made ⟨9, a, b, k, c, party⟩ (mRule ⟨9, a, b, k, c, party⟩ e0 e1) = (tellOk n seen ⟨9, a, b, k, c, party⟩ && rStep e0 e1 made ⟨9, a, b, k, c, party⟩) := by
  have hr : mRule ⟨9, a, b, k, c, party⟩ e0 e1 = (⟨2, 2, 2, 0, false, false, 1⟩, true) := rfl
  have hw : rWants ⟨9, a, b, k, c, party⟩ = (2, 2, 2, 1) := rfl
  rw [hr]
  simp only [rStep, hw]
  rw [Bool.eq_iff_iff]
  generalize hs : seen.getD k.toNat 0 = s
  simp [opOk, opOk1, opNum, opK, tellOk, rNumbers, mTold, hs]
  by_cases hA : mWants made a 2 = true <;> by_cases hB : mWants made b 2 = true <;> simp [hA, hB] <;> omega
theorem step_10 (n : Nat) (seen made : List Int) (e0 e1 a b k party : Int) (c : Nat) : opOk n seen made ⟨10, a, b, k, c, party⟩ (mRule ⟨10, a, b, k, c, party⟩ e0 e1) = (tellOk n seen ⟨10, a, b, k, c, party⟩ && rStep e0 e1 made ⟨10, a, b, k, c, party⟩) := by
  have hr : mRule ⟨10, a, b, k, c, party⟩ e0 e1 = (⟨2, 0, 2, 0, true, false, 0⟩, true) := rfl
  have hw : rWants ⟨10, a, b, k, c, party⟩ = (2, 0, 2, 0) := rfl
  rw [hr]
  simp only [rStep, hw]
  rw [Bool.eq_iff_iff]
  generalize hs : seen.getD k.toNat 0 = s
  simp [opOk, opOk1, opNum, opK, tellOk, rNumbers, mTold, hs]
  by_cases hA : mWants made a 2 = true <;> by_cases hB : mWants made b 0 = true <;> simp [hA, hB] <;> omega
theorem step_11 (n : Nat) (seen made : List Int) (e0 e1 a b k party : Int) (c : Nat) : opOk n seen made ⟨11, a, b, k, c, party⟩ (mRule ⟨11, a, b, k, c, party⟩ e0 e1) = (tellOk n seen ⟨11, a, b, k, c, party⟩ && rStep e0 e1 made ⟨11, a, b, k, c, party⟩) := by
  have hr : mRule ⟨11, a, b, k, c, party⟩ e0 e1 = (⟨2, 0, 2, 64, false, false, 0⟩, true) := rfl
  have hw : rWants ⟨11, a, b, k, c, party⟩ = (2, 0, 2, 0) := rfl
  rw [hr]
  simp only [rStep, hw]
  rw [Bool.eq_iff_iff]
  generalize hs : seen.getD k.toNat 0 = s
  simp [opOk, opOk1, opNum, opK, tellOk, rNumbers, mTold, hs]
  by_cases hA : mWants made a 2 = true <;> by_cases hB : mWants made b 0 = true <;> simp [hA, hB] <;> omega
theorem step_12 (n : Nat) (seen made : List Int) (e0 e1 a b k party : Int) (c : Nat) : opOk n seen made ⟨12, a, b, k, c, party⟩ (mRule ⟨12, a, b, k, c, party⟩ e0 e1) = (tellOk n seen ⟨12, a, b, k, c, party⟩ && rStep e0 e1 made ⟨12, a, b, k, c, party⟩) := by
  have hr : mRule ⟨12, a, b, k, c, party⟩ e0 e1 = (⟨2, 0, 2, 64, false, false, 0⟩, true) := rfl
  have hw : rWants ⟨12, a, b, k, c, party⟩ = (2, 0, 2, 0) := rfl
  rw [hr]
  simp only [rStep, hw]
  rw [Bool.eq_iff_iff]
  generalize hs : seen.getD k.toNat 0 = s
  simp [opOk, opOk1, opNum, opK, tellOk, rNumbers, mTold, hs]
  by_cases hA : mWants made a 2 = true <;> by_cases hB : mWants made b 0 = true <;> simp [hA, hB] <;> omega
theorem step_13 (n : Nat) (seen made : List Int) (e0 e1 a b k party : Int) (c : Nat) : opOk n seen made ⟨13, a, b, k, c, party⟩ (mRule ⟨13, a, b, k, c, party⟩ e0 e1) = (tellOk n seen ⟨13, a, b, k, c, party⟩ && rStep e0 e1 made ⟨13, a, b, k, c, party⟩) := by
  have hr : mRule ⟨13, a, b, k, c, party⟩ e0 e1 = (⟨2, 0, 2, 64, false, false, 0⟩, true) := rfl
  have hw : rWants ⟨13, a, b, k, c, party⟩ = (2, 0, 2, 0) := rfl
  rw [hr]
  simp only [rStep, hw]
  rw [Bool.eq_iff_iff]
  generalize hs : seen.getD k.toNat 0 = s
  simp [opOk, opOk1, opNum, opK, tellOk, rNumbers, mTold, hs]
  by_cases hA : mWants made a 2 = true <;> by_cases hB : mWants made b 0 = true <;> simp [hA, hB] <;> omega
theorem step_14 (n : Nat) (seen made : List Int) (e0 e1 a b k party : Int) (c : Nat) : opOk n seen made ⟨14, a, b, k, c, party⟩ (mRule ⟨14, a, b, k, c, party⟩ e0 e1) = (tellOk n seen ⟨14, a, b, k, c, party⟩ && rStep e0 e1 made ⟨14, a, b, k, c, party⟩) := by
  have hr : mRule ⟨14, a, b, k, c, party⟩ e0 e1 = (⟨2, 0, 2, 0, false, false, 0⟩, true) := rfl
  have hw : rWants ⟨14, a, b, k, c, party⟩ = (2, 0, 2, 0) := rfl
  rw [hr]
  simp only [rStep, hw]
  rw [Bool.eq_iff_iff]
  generalize hs : seen.getD k.toNat 0 = s
  simp [opOk, opOk1, opNum, opK, tellOk, rNumbers, mTold, hs]
  by_cases hA : mWants made a 2 = true <;> by_cases hB : mWants made b 0 = true <;> simp [hA, hB] <;> omega
theorem step_15 (n : Nat) (seen made : List Int) (e0 e1 a b k party : Int) (c : Nat) : opOk n seen made ⟨15, a, b, k, c, party⟩ (mRule ⟨15, a, b, k, c, party⟩ e0 e1) = (tellOk n seen ⟨15, a, b, k, c, party⟩ && rStep e0 e1 made ⟨15, a, b, k, c, party⟩) := by
  have hr : mRule ⟨15, a, b, k, c, party⟩ e0 e1 = (⟨1, 0, 2, 0, false, true, 0⟩, true) := rfl
  have hw : rWants ⟨15, a, b, k, c, party⟩ = (1, 0, 2, 0) := rfl
  rw [hr]
  simp only [rStep, hw]
  rw [Bool.eq_iff_iff]
  generalize hs : seen.getD k.toNat 0 = s
  simp [opOk, opOk1, opNum, opK, tellOk, rNumbers, mTold, hs]
  by_cases hA : mWants made a 1 = true <;> by_cases hB : mWants made b 0 = true <;> simp [hA, hB] <;> omega
theorem step_16 (n : Nat) (seen made : List Int) (e0 e1 a b k party : Int) (c : Nat) : opOk n seen made ⟨16, a, b, k, c, party⟩ (mRule ⟨16, a, b, k, c, party⟩ e0 e1) = (tellOk n seen ⟨16, a, b, k, c, party⟩ && rStep e0 e1 made ⟨16, a, b, k, c, party⟩) := by
  have hr : mRule ⟨16, a, b, k, c, party⟩ e0 e1 = (⟨2, 0, 1, 64, false, true, 0⟩, true) := rfl
  have hw : rWants ⟨16, a, b, k, c, party⟩ = (2, 0, 1, 0) := rfl
  rw [hr]
  simp only [rStep, hw]
  rw [Bool.eq_iff_iff]
  generalize hs : seen.getD k.toNat 0 = s
  simp [opOk, opOk1, opNum, opK, tellOk, rNumbers, mTold, hs]
  by_cases hA : mWants made a 2 = true <;> by_cases hB : mWants made b 0 = true <;> simp [hA, hB] <;> omega
theorem step_18 (n : Nat) (seen made : List Int) (e0 e1 a b k party : Int) (c : Nat) : opOk n seen made ⟨18, a, b, k, c, party⟩ (mRule ⟨18, a, b, k, c, party⟩ e0 e1) = (tellOk n seen ⟨18, a, b, k, c, party⟩ && rStep e0 e1 made ⟨18, a, b, k, c, party⟩) := by
  have hr : mRule ⟨18, a, b, k, c, party⟩ e0 e1 = (⟨1, 0, 0, 0, false, false, 1⟩, true) := rfl
  have hw : rWants ⟨18, a, b, k, c, party⟩ = (1, 0, 0, 1) := rfl
  rw [hr]
  simp only [rStep, hw]
  rw [Bool.eq_iff_iff]
  generalize hs : seen.getD k.toNat 0 = s
  simp [opOk, opOk1, opNum, opK, tellOk, rNumbers, mTold, hs]
  by_cases hA : mWants made a 1 = true <;> by_cases hB : mWants made b 0 = true <;> simp [hA, hB] <;> omega
theorem step_19 (n : Nat) (seen made : List Int) (e0 e1 a b k party : Int) (c : Nat) : opOk n seen made ⟨19, a, b, k, c, party⟩ (mRule ⟨19, a, b, k, c, party⟩ e0 e1) = (tellOk n seen ⟨19, a, b, k, c, party⟩ && rStep e0 e1 made ⟨19, a, b, k, c, party⟩) := by
  have hr : mRule ⟨19, a, b, k, c, party⟩ e0 e1 = (⟨2, 0, 0, 0, false, false, 1⟩, true) := rfl
  have hw : rWants ⟨19, a, b, k, c, party⟩ = (2, 0, 0, 1) := rfl
  rw [hr]
  simp only [rStep, hw]
  rw [Bool.eq_iff_iff]
  generalize hs : seen.getD k.toNat 0 = s
  simp [opOk, opOk1, opNum, opK, tellOk, rNumbers, mTold, hs]
  by_cases hA : mWants made a 2 = true <;> by_cases hB : mWants made b 0 = true <;> simp [hA, hB] <;> omega
end Go.Proofs.YtjbhgimhcjcpmaaGreatDoor

/-
  THE PLAIN LAW: the reference's Made says yes just where micro.Check does (rMade = mCheck).
-/
namespace Go.Proofs.YtjbhgimhcjcpmaaGreatDoor

theorem step_law (n : Nat) (seen made : List Int) (e0 e1 : Int) (o : MOp) (h0 : e0 ≤ 65536) (h1 : e1 ≤ 65536) : opOk n seen made o (mRule o e0 e1) = (tellOk n seen o && rStep e0 e1 made o) := by
  obtain ⟨kind, a, b, k, c, party⟩ := o
  by_cases h : kind = 1
  · subst h; exact step_in n seen made e0 e1 a b k party c h0 h1
  by_cases h : kind = 17
  · subst h; exact step_garb n seen made e0 e1 a b k party c
  by_cases ht : (tabRule kind).2 = true
  · rcases tabRule_known _ ht with h | h | h | h | h | h | h | h | h | h | h | h | h | h | h | h | h <;> subst h
    · exact step_2 ..
    · exact step_3 ..
    · exact step_4 ..
    · exact step_5 ..
    · exact step_6 ..
    · exact step_7 ..
    · exact step_8 ..
    · exact step_9 ..
    · exact step_10 ..
    · exact step_11 ..
    · exact step_12 ..
    · exact step_13 ..
    · exact step_14 ..
    · exact step_15 ..
    · exact step_16 ..
    · exact step_18 ..
    · exact step_19 ..
  · have hr : mRule ⟨kind, a, b, k, c, party⟩ e0 e1 = (rule0, false) := by
      simp only [mRule]; rw [if_neg (by assumption), if_neg (by assumption)]; exact tabRule_none _ (by simpa using ht)
    have hw : rWants ⟨kind, a, b, k, c, party⟩ = (0, 0, 0, -1) := by
      simp only [rWants, rW]; rw [if_neg (by assumption), if_neg (by assumption), if_neg ht]
    rw [hr]
    simp [opOk, opOk1, rStep, hw]
/-- What the reference says of an operation that has a rule. -/
theorem wants_rule {o : MOp} {e0 e1 : Int} (h : (mRule o e0 e1).2 = true) : rWants o = ((mRule o e0 e1).1.a, (mRule o e0 e1).1.b, (mRule o e0 e1).1.makes, (mRule o e0 e1).1.rounds) := by
  obtain ⟨kind, a, b, k, c, party⟩ := o
  by_cases h1 : kind = 1
  · subst h1
    have hr : mRule ⟨1, a, b, k, c, party⟩ e0 e1 = mInRule party e0 e1 := rfl
    rw [hr] at h ⊢
    have hw : rWants ⟨1, a, b, k, c, party⟩ = (0, 0, 1, 1) := rfl
    rw [hw]
    unfold mInRule at h ⊢
    split at h
    · rw [if_pos (by assumption)]
    · rw [if_neg (by assumption)]
      split at h
      · rw [if_pos (by assumption)]
      · simp at h
  by_cases h17 : kind = 17
  · subst h17
    have hr : mRule ⟨17, a, b, k, c, party⟩ e0 e1 = mGarbRule k c := rfl
    rw [hr] at h ⊢
    unfold mGarbRule at h ⊢
    split at h
    · rename_i hc
      rw [if_pos hc]
      have f1 : ∀ c, mFormOf c = 1 + (c : Int) % 2 := by intro c; unfold mFormOf; split <;> omega
      have f2 : mFormOf (c / 2) = 1 + (c : Int) / 2 % 2 := by rw [f1]; omega
      simp [rWants, hc, rW17, f1, f2]
    · simp at h
  · have hr : mRule ⟨kind, a, b, k, c, party⟩ e0 e1 = tabRule kind := by simp [mRule, h1, h17]
    rw [hr] at h ⊢
    have : rWants ⟨kind, a, b, k, c, party⟩ = rW kind := by simp [rWants, h17]
    rw [this, rW, if_neg h1, if_pos h]

/-- The words that are told, in their order. -/
def toldGo (n : Nat) : List MOp → List Int → Bool
  | [], _ => true
  | o :: l, seen => if tellOk n seen o then toldGo n l (if mTold o then seen.set o.k.toNat 1 else seen) else false
theorem opOk_1 {n : Nat} {seen made : List Int} {o : MOp} {r : Rule × Bool} (h : opOk n seen made o r = true) : opOk1 n seen o r = true := by
  simp only [opOk, Bool.and_eq_true] at h; exact h.1.1
theorem formsGo_law (e0 e1 : Int) (n : Nat) (h0 : e0 ≤ 65536) (h1 : e1 ≤ 65536) : ∀ (l : List MOp) (seen made : List Int), (formsGo e0 e1 n l seen made).isSome = (toldGo n l seen && rMadeGo e0 e1 l made)
  | [], seen, made => rfl
  | o :: l, seen, made => by
    rw [formsGo, toldGo, rMadeGo]
    have hs := step_law n seen made e0 e1 o h0 h1
    by_cases hok : opOk n seen made o (mRule o e0 e1) = true
    · rw [if_pos hok]
      rw [hok] at hs
      have hs' := hs.symm
      rw [Bool.and_eq_true] at hs'
      rw [if_pos hs'.1, if_pos hs'.2, formsGo_law e0 e1 n h0 h1 l]
      have h2 := opOk_1 hok
      have h3 : (mRule o e0 e1).2 = true := by simp only [opOk1, Bool.and_eq_true] at h2; exact h2.1
      rw [h2, wants_rule h3]
      simp [opSeen]
    · rw [if_neg hok]
      rw [Bool.eq_false_iff.2 hok] at hs
      have hs' := hs.symm
      rw [Bool.and_eq_false_iff] at hs'
      rcases hs' with h | h <;> simp [h]

/-! The pigeons. -/
def toldK (n : Nat) : List Int → List Int → Bool
  | [], _ => true
  | x :: l, seen => if decide (0 ≤ x) && decide (x < n) && (seen.getD x.toNat 0 == 0) then toldK n l (seen.set x.toNat 1) else false
def ksOf (l : List MOp) : List Int := (l.filter mTold).map (·.k)
theorem toldGo_ks (n : Nat) : ∀ (l : List MOp) (seen : List Int), toldGo n l seen = toldK n (ksOf l) seen
  | [], _ => rfl
  | o :: l, seen => by
    rw [toldGo, toldGo_ks n l]
    by_cases ht : mTold o = true
    · have : ksOf (o :: l) = o.k :: ksOf l := by simp [ksOf, ht]
      rw [this, toldK]
      simp [tellOk, ht]
    · have : ksOf (o :: l) = ksOf l := by simp [ksOf, ht]
      rw [this]
      simp [tellOk, ht]
theorem toldK_iff (n : Nat) : ∀ (l seen : List Int), seen.length = n → (toldK n l seen = true ↔ (∀ x ∈ l, 0 ≤ x ∧ x < n) ∧ l.Nodup ∧ ∀ x ∈ l, seen.getD x.toNat 0 = 0)
  | [], seen, _ => by simp [toldK]
  | x :: l, seen, hn => by
    rw [toldK]
    by_cases h : (decide (0 ≤ x) && decide (x < n) && (seen.getD x.toNat 0 == 0)) = true
    · rw [if_pos h, toldK_iff n l _ (by simpa using hn)]
      simp only [Bool.and_eq_true, decide_eq_true_eq, beq_iff_eq] at h
      obtain ⟨⟨h0, h1⟩, h2⟩ := h
      have key : ∀ y : Int, 0 ≤ y → ((seen.set x.toNat 1).getD y.toNat 0 = 0 ↔ y ≠ x ∧ seen.getD y.toNat 0 = 0) := by
        intro y hy
        by_cases hyx : y = x
        · subst hyx
          simp [List.getD, List.getElem?_set, show y.toNat < seen.length by omega]
        · have : x.toNat ≠ y.toNat := by omega
          simp [List.getD, List.getElem?_set, this, hyx]
      constructor
      · rintro ⟨a, b, c⟩
        refine ⟨?_, ?_, ?_⟩
        · intro y hy
          rcases List.mem_cons.1 hy with rfl | hy
          · exact ⟨h0, h1⟩
          · exact a y hy
        · rw [List.nodup_cons]
          refine ⟨fun hx => ?_, b⟩
          exact ((key x h0).1 (c x hx)).1 rfl
        · intro y hy
          rcases List.mem_cons.1 hy with rfl | hy
          · exact h2
          · exact ((key y (a y hy).1).1 (c y hy)).2
      · rintro ⟨a, b, c⟩
        rw [List.nodup_cons] at b
        refine ⟨fun y hy => a y (by simp [hy]), b.2, fun y hy => (key y (a y (by simp [hy])).1).2 ⟨fun e => b.1 (e ▸ hy), c y (by simp [hy])⟩⟩
    · rw [if_neg h]
      constructor
      · intro hf; cases hf
      · rintro ⟨a, b, c⟩
        exfalso; apply h
        have := a x (by simp)
        have := c x (by simp)
        simp only [Bool.and_eq_true, decide_eq_true_eq, beq_iff_eq]
        omega
def sumTo (f : Nat → Nat) : Nat → Nat
  | 0 => 0
  | n + 1 => sumTo f n + f n
theorem sumTo_add (f g : Nat → Nat) : ∀ n, sumTo (fun j => f j + g j) n = sumTo f n + sumTo g n
  | 0 => rfl
  | n + 1 => by simp only [sumTo, sumTo_add f g n]; omega
theorem sumTo_congr {f g : Nat → Nat} : ∀ n, (∀ j, j < n → f j = g j) → sumTo f n = sumTo g n
  | 0, _ => rfl
  | n + 1, h => by simp only [sumTo]; rw [sumTo_congr n fun j hj => h j (by omega), h n (by omega)]
theorem sumTo_one : ∀ n, sumTo (fun _ => 1) n = n
  | 0 => rfl
  | n + 1 => by simp only [sumTo, sumTo_one n]
theorem sumTo_zero : ∀ n, sumTo (fun _ => 0) n = 0
  | 0 => rfl
  | n + 1 => by simp only [sumTo, sumTo_zero n]
theorem sumTo_point (x : Int) : ∀ n, sumTo (fun j => if x = (j : Int) then 1 else 0) n = if 0 ≤ x ∧ x < n then 1 else 0
  | 0 => by simp [sumTo]; try omega
  | n + 1 => by
    simp only [sumTo, sumTo_point x n]
    repeat' split
    all_goals omega
theorem sumTo_le {f : Nat → Nat} : ∀ n, (∀ j, j < n → f j ≤ 1) → sumTo f n ≤ n
  | 0, _ => Nat.le_refl _
  | n + 1, h => by simp only [sumTo]; have := sumTo_le n fun j hj => h j (by omega); have := h n (by omega); omega
theorem sumTo_full {f : Nat → Nat} : ∀ n, (∀ j, j < n → f j ≤ 1) → sumTo f n = n → ∀ j, j < n → f j = 1
  | 0, _, _, j, hj => by omega
  | n + 1, h, hs, j, hj => by
    simp only [sumTo] at hs
    have h1 := sumTo_le n fun j hj => h j (by omega)
    have h2 := h n (by omega)
    by_cases hjn : j = n
    · subst hjn; omega
    · exact sumTo_full n (fun j hj => h j (by omega)) (by omega) j (by omega)
theorem count_sum (n : Nat) : ∀ l : List Int, sumTo (fun j => l.count (j : Int)) n = (l.filter fun (x : Int) => decide (0 ≤ x ∧ x < (n : Int))).length
  | [] => by simp [sumTo_zero]
  | x :: l => by
    have h1 : ∀ j : Nat, (x :: l).count (j : Int) = l.count (j : Int) + if x = (j : Int) then 1 else 0 := by
      intro j; rw [List.count_cons]; simp
    rw [sumTo_congr n (fun j _ => h1 j), sumTo_add, count_sum n l, sumTo_point x n, List.filter_cons]
    by_cases h : 0 ≤ x ∧ x < n
    · simp [h]
    · simp [h]
theorem nodup_count : ∀ {l : List Int}, l.Nodup → ∀ x, l.count x ≤ 1
  | [], _, x => by simp
  | y :: l, h, x => by
    rw [List.nodup_cons] at h
    rw [List.count_cons]
    have := nodup_count h.2 x
    by_cases e : y = x
    · subst e
      have := List.count_eq_zero.2 h.1
      simp [this]
    · simp [e]; exact this
theorem count_nodup : ∀ {l : List Int}, (∀ x, l.count x ≤ 1) → l.Nodup
  | [], _ => List.nodup_nil
  | y :: l, h => by
    rw [List.nodup_cons]
    constructor
    · intro hy
      have := h y
      rw [List.count_cons] at this
      have h2 := List.count_pos_iff.2 hy
      simp at this; omega
    · refine count_nodup fun x => ?_
      have := h x
      rw [List.count_cons] at this
      omega
theorem pigeons (l : List Int) : ((∀ x ∈ l, 0 ≤ x ∧ x < l.length) ∧ l.Nodup) ↔ ∀ j, j < l.length → l.count (j : Int) = 1 := by
  have hs := count_sum l.length l
  constructor
  · rintro ⟨a, b⟩ j hj
    refine sumTo_full (f := fun j => l.count (j : Int)) l.length (fun j _ => nodup_count b _) ?_ j hj
    rw [hs, List.filter_eq_self.2 (fun x hx => by simpa using a x hx)]
  · intro h
    rw [sumTo_congr l.length h, sumTo_one] at hs
    have ha : ∀ x ∈ l, 0 ≤ x ∧ x < l.length := by
      intro x hx
      have := List.length_filter_eq_length_iff.1 hs.symm x hx
      simpa using this
    refine ⟨ha, count_nodup fun x => ?_⟩
    by_cases hx : x ∈ l
    · obtain ⟨h0, h1⟩ := ha x hx
      have := h x.toNat (by omega)
      rw [show ((x.toNat : Nat) : Int) = x by omega] at this
      omega
    · rw [List.count_eq_zero.2 hx]; omega
theorem cntK_count (l : List MOp) (k : Int) : cntK l k = (ksOf l).count k := by
  unfold cntK ksOf
  rw [List.count_eq_length_filter, List.filter_map, List.length_map, List.filter_filter]
  congr 2
  funext o
  simp only [Function.comp]
  rw [Bool.and_comm]
theorem ksOf_len (l : List MOp) : (ksOf l).length = mOuts l := by simp [ksOf, mOuts]
theorem told_law (l : List MOp) : toldGo (mOuts l) l (List.replicate (mOuts l) 0) = rTold l := by
  rw [toldGo_ks, Bool.eq_iff_iff, toldK_iff _ _ _ (by simp)]
  have hz : ∀ x ∈ ksOf l, (List.replicate (mOuts l) (0 : Int)).getD x.toNat 0 = 0 := by
    intro x _
    simp only [List.getD, List.getElem?_replicate]
    split <;> rfl
  have hp := pigeons (ksOf l)
  rw [ksOf_len] at hp
  constructor
  · rintro ⟨a, b, _⟩
    exact rTold_yes fun k hk => by rw [cntK_count]; exact hp.1 ⟨a, b⟩ k hk
  · intro h
    have h1 : ∀ j, j < mOuts l → (ksOf l).count (j : Int) = 1 := by
      intro j hj
      have := List.all_eq_true.1 h j (List.mem_range.2 hj)
      rw [← cntK_count]; simpa using this
    obtain ⟨a, b⟩ := hp.2 h1
    exact ⟨a, b, hz⟩
theorem rMade_eq (ops : List MOp) (e0 e1 : Int) : rMade ops e0 e1 = mCheck ops e0 e1 := by
  unfold rMade mCheck mForms
  by_cases h0 : e0 ≤ 65536
  · by_cases h1 : e1 ≤ 65536
    · rw [formsGo_law e0 e1 _ h0 h1, told_law]
      rw [Bool.eq_iff_iff]
      simp only [Bool.and_eq_true, decide_eq_true_eq]
      constructor
      · rintro ⟨⟨⟨⟨⟨⟨a, b⟩, c⟩, d⟩, e⟩, f⟩, g⟩; exact ⟨⟨⟨⟨⟨b, c⟩, d⟩, e⟩, a⟩, f, g⟩
      · rintro ⟨⟨⟨⟨⟨b, c⟩, d⟩, e⟩, a⟩, f, g⟩; exact ⟨⟨⟨⟨⟨⟨a, b⟩, c⟩, d⟩, e⟩, f⟩, g⟩
    · simp [h1]
  · simp [h0]
end Go.Proofs.YtjbhgimhcjcpmaaGreatDoor
