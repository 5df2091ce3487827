/-
  THE CONTRACT of twainref11.Rounds, of what is a program.
-/
import Derived.Test.YtjbhgimhcjcpmaaGreatDoorMRefMadeA
set_option linter.unusedSimpArgs false
set_option linter.unusedVariables false
namespace Go.Proofs.YtjbhgimhcjcpmaaGreatDoor
open Go.RowKit

theorem rule_ab (o : MOp) (e0 e1 : Int) (h : (mRule o e0 e1).1.b ≠ 0) : (mRule o e0 e1).1.a ≠ 0 := by
  unfold mRule at h ⊢
  split at h
  · rw [if_pos (by assumption)]
    exfalso; apply h; unfold mInRule; split
    · rfl
    · split <;> rfl
  · rw [if_neg (by assumption)]
    split at h
    · rw [if_pos (by assumption)]
      unfold mGarbRule at h ⊢
      split
      · simp only; unfold mFormOf; split <;> decide
      · exfalso; rw [if_neg (by assumption)] at h; exact h rfl
    · rw [if_neg (by assumption)]
      by_cases ht : (tabRule o.kind).2 = true
      · rcases tabRule_known _ ht with k | k | k | k | k | k | k | k | k | k | k | k | k | k | k | k | k <;> rw [k] at h ⊢ <;> first | decide | (exfalso; revert h; decide)
      · rw [tabRule_none _ (by simpa using ht)] at h; exact absurd rfl h
/-- The rounds so far. -/
structure RdSt (w : World) (y : Value) (m : List Int) (W : World) : Prop where
  own : W.ownsRow w.heap.size 3 1 y m.length (ints m)
  below : Below w.heap.size w W
theorem RdSt.later {w : World} {y : Value} {m : List Int} {W W1 : World} (h : RdSt w y m W) (hb : Below W.heap.size W W1) : RdSt w y m W1 := ⟨Below.owns h.own hb, h.below.trans (hb.mono h.below.size)⟩
theorem RdSt.add {w : World} {x y : Value} {m : List Int} {W W1 : World} {z : Int} (h : RdSt w x m W) (hg : W.grownBy W1 x.ownBlock) (ho : W1.ownsRow w.heap.size 3 1 y (m.length + 1) (ints m ++ [.int .i64 z])) : RdSt w y (m ++ [z]) W1 :=
  ⟨by rw [List.length_append]; simpa [ints] using ho, h.below.grown hg h.below.size fun j hj => (h.own.lt j hj).1⟩
theorem ints_getD {W : World} {base g n c : Nat} {m : List Int} (h : W.ownsRow base 3 1 (.slice (some ⟨g, 0, none⟩) n c) n (ints m)) (j : Nat) (hj : j < n) : W.cell? ⟨g, j, none⟩ = some (.int .i64 (m.getD j 0)) := by
  have hl : m.length = n := by have := h.1; simpa [ints] using this
  have := h.cellAt j (by omega)
  simp only [ints, List.getElem?_map, List.getElem?_eq_getElem (show j < m.length by omega), Option.map_some] at this
  simpa [List.getD, show j < m.length by omega] using this

set_option maxHeartbeats 4000000 in
set_option maxRecDepth 100000 in
theorem refRounds_any (v : Value) (ops : List MOp) (w : World) (hc : mCheck ops 65536 65536 = true) (hv : Arr w.heap.size w 6 v ops.length (ocells ops)) :
    Calls Tryz.prog 47 #[v] w (RetInts (mRounds ops) w) := by
  have hl : ops.length ≤ 16384 := by simp only [mCheck, Bool.and_eq_true, decide_eq_true_eq] at hc; exact hc.1.2
  have hR : mRounds ops = roundsGo ops [] := by unfold mRounds; rw [if_pos hc]
  rw [hR]
  obtain ⟨R, hR2⟩ : ∃ R, roundsGo ops [] = R := ⟨_, rfl⟩
  rw [hR2]
  obtain ⟨ao, cc, rfl, hcc, hm, hx, hy⟩ := hv.open
  have HY := Lib.hid hy
  have HR := Lib.hid hR2
  have HP := Lib.hid (fun j hj => check_places hc j hj)
  have HK := Lib.hid (fun j hj => check_rules hc j hj)
  clear hv hx hy hm hR hR2 hc
  go_enter Tryz.func47, Tryz.ntmps47
  go_wp2_with fail
  go_loopg [3, 4] ops.length (fun g x i wr => ∃ (k : Nat) (m : List Int), k ≤ ops.length ∧ g = ops.length - k ∧ i = .int .i64 k ∧ m.length = k ∧ Hid (Upto (2 * k : Nat) m) ∧ Hid (RdSt w x m wr) ∧ Hid (roundsGo (ops.drop k) m = R))
  case atStart => exact ⟨0, [], Nat.zero_le _, rfl, rfl, rfl, Lib.hid (by intro x hx; cases hx), Lib.hid ⟨World.ownsRow_nil _ _ _ _, Below.refl _ _⟩, HR⟩
  case round =>
    obtain ⟨k, m, hk, hg, rfl, hmk, HU, HS, HG⟩ := hrel
    have HMK := Lib.hid hmk
    clear hmk
    by_cases hkl : k < ops.length
    · obtain ⟨b, off, rfl, hbl, hcells⟩ := HY.out (by omega)
      have hcs := fun (W : World) (hb : Below w.heap.size w W) => op_cells hcells hb hbl rfl k hkl
      have hgo := HG.out
      rw [List.drop_eq_getElem_cons hkl, roundsGo] at hgo
      have hp := HP.out k hkl
      have hr := HK.out k hkl
      generalize ops[k] = o at hcs hgo hp hr
      have hw := wants_rule hr
      have hab := rule_ab o 65536 65536
      have hrd := mRule_rounds o 65536 65536
      generalize (mRule o 65536 65536).1 = r at hgo hp hw hab hrd
      obtain ⟨ra, rb, rm, rk, rc, rp, rr⟩ := r
      simp only at hgo hp hw hab hrd
      obtain ⟨kind, oa, ob, okk, oc, party⟩ := o
      simp only at hcs hp
      have HCS := Lib.hid hcs
      have HW := Lib.hid hw
      have HGO := Lib.hid hgo
      have HP2 := Lib.hid hp
      have HAB := Lib.hid hab
      clear hcs hw hgo hp hab hr hcells
      obtain ⟨c0, c1, c2, c3, c4, c5⟩ := HCS.out wr HS.out.below
      have h3 : (0 : Int) ≤ (k : Int) := by omega
      have h4 : (k : Int) < (ops.length : Int) := by omega
      go_upto_region 6 with (go_at_call 72; go_must (refine (refWants_any ⟨kind, oa, ob, okk, oc, party⟩ _).mono ?_; rw [HW.out]; unfold rWv; rintro e w2 ⟨rfl, hb2⟩; have HS2 := Lib.hid (HS.out.later hb2); clear hb2 c0 c1 c2 c3 c4 c5; obtain ⟨c0, c1, c2, c3, c4, c5⟩ := HCS.out w2 HS2.out.below))
      by_cases ha : ra = 0
      · have hb : rb = 0 := Classical.byContradiction fun h => HAB.out h ha
        subst ha; subst hb
        have HE := Lib.hid (show ahead m ⟨kind, oa, ob, okk, oc, party⟩ ⟨0, 0, rm, rk, rc, rp, rr⟩ = 0 by simp [ahead])
        go_wp2_with (at_builtin; refine app_k rfl _ _ 24 rfl 3 _ 1 8 Tryz.underlying24 info_int rfl (by decide) #[_] _ _ _ _ HS2.out.own rfl rfl rfl (by intro u hu; simp at hu; subst hu; rfl) HS2.out.below.size (by have := HMK.out; omega) (by have := HMK.out; unfold maxLen; omega) ?_; intro y9 w9 hown9 hg9 _; go_must (have HS9 := Lib.hid (HS2.out.add hg9 hown9); clear hown9 hg9))
        go_roundg (ops.length - (k + 1))
        case measure => omega
        case rel => exact ⟨k + 1, m ++ [0 + rr], by omega, rfl, by go_num, by rw [List.length_append, HMK.out]; rfl, Lib.hid (HU.out.snoc (by omega) (by omega) (by omega)), (by first | exact HS9 | (simpa using HS9)), Lib.hid (by have := HGO.out; rw [HE.out] at this; exact this)⟩
      · have ha1 : (ra == 0) = false := by simpa using ha
        have ha2 : (ra != 0) = true := by simp [ha]
        obtain ⟨hp1, hp2⟩ := HP2.out.1 ha
        obtain ⟨ja, rfl⟩ := Int.eq_ofNat_of_zero_le hp1
        have hown := HS2.out.own
        rw [HMK.out] at hown
        obtain ⟨g1, cp1, rfl, hg1, hg2⟩ := hown.form (by omega)
        have hUa := HU.out.getD (by omega) ja
        have hcell := ints_getD hown ja (by omega)
        obtain ⟨A, hA⟩ : ∃ A, m.getD ja 0 = A := ⟨_, rfl⟩
        rw [hA] at hcell hUa
        have HA := Lib.hid hA
        have HOW := Lib.hid hown
        clear hA hown
        have ja0 : (0 : Int) ≤ (ja : Int) := by omega
        have jak : (ja : Int) < (k : Int) := by omega
        by_cases hb : rb = 0
        · subst hb
          have HE := Lib.hid (show ahead m ⟨kind, ja, ob, okk, oc, party⟩ ⟨ra, 0, rm, rk, rc, rp, rr⟩ = A by simp only [ahead, if_true, if_neg ha]; exact HA.out)
          clear ha
          go_wp2_with (at_builtin; refine app_k rfl _ _ 24 rfl 3 _ 1 8 Tryz.underlying24 info_int rfl (by decide) #[_] _ _ _ _ HS2.out.own rfl rfl rfl (by intro u hu; simp at hu; subst hu; rfl) HS2.out.below.size (by have := HMK.out; omega) (by have := HMK.out; unfold maxLen; omega) ?_; intro y9 w9 hown9 hg9 _; go_must (have HS9 := Lib.hid (HS2.out.add hg9 hown9); clear hown9 hg9))
          go_roundg (ops.length - (k + 1))
          case measure => omega
          case rel => exact ⟨k + 1, m ++ [A + rr], by omega, rfl, by go_num, by rw [List.length_append, HMK.out]; rfl, Lib.hid (HU.out.snoc (by omega) (by omega) (by omega)), HS9, Lib.hid (by have := HGO.out; rw [HE.out] at this; exact this)⟩
        · have hb1 : (rb == 0) = false := by simpa using hb
          have hb2 : (rb != 0) = true := by simp [hb]
          obtain ⟨hq1, hq2⟩ := HP2.out.2 hb
          obtain ⟨jb, rfl⟩ := Int.eq_ofNat_of_zero_le hq1
          have hUb := HU.out.getD (by omega) jb
          have hcellb := ints_getD HOW.out jb (by omega)
          obtain ⟨B, hB⟩ : ∃ B, m.getD jb 0 = B := ⟨_, rfl⟩
          rw [hB] at hcellb hUb
          have HB := Lib.hid hB
          clear hB
          have jb0 : (0 : Int) ≤ (jb : Int) := by omega
          have jbk : (jb : Int) < (k : Int) := by omega
          have HE := Lib.hid (show ahead m ⟨kind, ja, jb, okk, oc, party⟩ ⟨ra, rb, rm, rk, rc, rp, rr⟩ = max A B by
            simp only [ahead, if_neg ha, if_neg hb]
            rw [← HA.out, ← HB.out]; rfl)
          clear ha hb
          by_cases hlt : A < B
          · have hd : decide (A < B) = true := by simpa using hlt
            have HM := Lib.hid (show max A B = B by omega)
            go_wp2_with (at_builtin; refine app_k rfl _ _ 24 rfl 3 _ 1 8 Tryz.underlying24 info_int rfl (by decide) #[_] _ _ _ _ HS2.out.own rfl rfl rfl (by intro u hu; simp at hu; subst hu; rfl) HS2.out.below.size (by have := HMK.out; omega) (by have := HMK.out; unfold maxLen; omega) ?_; intro y9 w9 hown9 hg9 _; go_must (have HS9 := Lib.hid (HS2.out.add hg9 hown9); clear hown9 hg9))
            go_roundg (ops.length - (k + 1))
            case measure => omega
            case rel => exact ⟨k + 1, m ++ [B + rr], by omega, rfl, by go_num, by rw [List.length_append, HMK.out]; rfl, Lib.hid (HU.out.snoc (by omega) (by omega) (by omega)), HS9, Lib.hid (by have := HGO.out; rw [HE.out, HM.out] at this; exact this)⟩
          · have hd : decide (A < B) = false := by simpa using hlt
            have HM := Lib.hid (show max A B = A by omega)
            go_wp2_with (at_builtin; refine app_k rfl _ _ 24 rfl 3 _ 1 8 Tryz.underlying24 info_int rfl (by decide) #[_] _ _ _ _ HS2.out.own rfl rfl rfl (by intro u hu; simp at hu; subst hu; rfl) HS2.out.below.size (by have := HMK.out; omega) (by have := HMK.out; unfold maxLen; omega) ?_; intro y9 w9 hown9 hg9 _; go_must (have HS9 := Lib.hid (HS2.out.add hg9 hown9); clear hown9 hg9))
            go_roundg (ops.length - (k + 1))
            case measure => omega
            case rel => exact ⟨k + 1, m ++ [A + rr], by omega, rfl, by go_num, by rw [List.length_append, HMK.out]; rfl, Lib.hid (HU.out.snoc (by omega) (by omega) (by omega)), HS9, Lib.hid (by have := HGO.out; rw [HE.out, HM.out] at this; exact this)⟩
    · obtain rfl : k = ops.length := by omega
      have hgo := HG.out
      rw [List.drop_length, roundsGo] at hgo
      have HF := Lib.hid hgo
      clear hgo
      go_wp2_with fail
      go_ret
      exact ⟨_, rfl, by rw [← HF.out]; exact HS.out.own, HS.out.below⟩
end Go.Proofs.YtjbhgimhcjcpmaaGreatDoor
