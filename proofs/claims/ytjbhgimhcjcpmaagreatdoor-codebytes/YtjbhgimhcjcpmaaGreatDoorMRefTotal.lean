/-
  THE CONTRACTS of twainref14.Elems and twainref18.Total: they are mElems and mTotal.
-/
import Derived.Test.YtjbhgimhcjcpmaaGreatDoorMRefWire
import Derived.Test.YtjbhgimhcjcpmaaGreatDoorMPlanCheck
import Derived.Test.YtjbhgimhcjcpmaaGreatDoorMRefWanted2
import Derived.Test.YtjbhgimhcjcpmaaGreatDoorMEqual
import Derived.Test.YtjbhgimhcjcpmaaGreatDoorMRefWants
set_option linter.unusedSimpArgs false
set_option linter.unusedVariables false
namespace Go.Proofs.YtjbhgimhcjcpmaaGreatDoor
open Go.RowKit

/-- The product of dimensions that are all in bounds. -/
def rProd : List Int → Int → Option Int
  | [], n => some n
  | d :: l, n => if d < 1 ∨ 16 < d then none else rProd l (n * d)
def rElems (s : List Int) : Int := if 2 < s.length then 0 else match rProd s 1 with | none => 0 | some n => if 32 < n then 0 else n
theorem rProd_ge : ∀ (s : List Int) (n m : Int), 0 ≤ n → rProd s n = some m → n ≤ m
  | [], n, m, _, h => by simp [rProd] at h; omega
  | d :: l, n, m, h0, h => by
    rw [rProd] at h
    split at h
    · cases h
    · rename_i hd
      have h1 : n * 1 ≤ n * d := Int.mul_le_mul_of_nonneg_left (by omega) h0
      have := rProd_ge l (n * d) m (by omega) h
      omega
theorem rProd_elems : ∀ (s : List Int) (n : Int), 1 ≤ n → n ≤ 32 → elemsGo s n = match rProd s n with | none => 0 | some m => if 32 < m then 0 else m
  | [], n, _, h => by simp [elemsGo, rProd]; omega
  | d :: l, n, h1, h2 => by
    rw [elemsGo, rProd]
    by_cases ha : d < 1
    · simp [ha]
    · by_cases hb : 16 < d
      · simp [ha, hb]
      · rw [if_neg ha, if_neg hb, if_neg (show ¬ (d < 1 ∨ 16 < d) by omega)]
        have hm : n * 1 ≤ n * d := Int.mul_le_mul_of_nonneg_left (by omega) (by omega)
        by_cases hc : 32 < n * d
        · rw [if_pos hc]
          cases hr : rProd l (n * d) with
          | none => rfl
          | some m =>
            have := rProd_ge l _ m (by omega) hr
            simp only; rw [if_pos (by omega)]
        · rw [if_neg hc]
          exact rProd_elems l (n * d) (by omega) (by omega)
theorem rElems_eq (s : List Int) : rElems s = mElems s := by
  unfold rElems mElems
  rw [← rProd_elems s 1 (by omega) (by omega)]
  by_cases h : 2 < s.length
  · simp [h]
  · simp only [if_neg h]
    by_cases h0 : elemsGo s 1 = 0
    · simp [h0]
    · simp [h0]
theorem rProd_snoc : ∀ (s : List Int) (n d : Int), rProd (s ++ [d]) n = (rProd s n).bind fun m => if d < 1 ∨ 16 < d then none else some (m * d)
  | [], n, d => by simp [rProd]
  | e :: l, n, d => by
    rw [List.cons_append, rProd, rProd]
    by_cases h : e < 1 ∨ 16 < e
    · rw [if_pos h, if_pos h]; rfl
    · rw [if_neg h, if_neg h, rProd_snoc l (n * e) d]
theorem rProd_none (a b : List Int) (n : Int) (h : rProd a n = none) : rProd (a ++ b) n = none := by
  induction a generalizing n with
  | nil => simp [rProd] at h
  | cons d l ih =>
    rw [rProd] at h
    rw [List.cons_append, rProd]
    split
    · rfl
    · rename_i hd
      rw [if_neg hd] at h
      exact ih _ h

set_option maxHeartbeats 1000000 in
set_option maxRecDepth 100000 in
theorem refElems_any (v : Value) (s : List Int) (w : World) (h1 : Arr w.heap.size w 1 v s.length (ints s)) :
    Calls Tryz.prog 83 #[v] w fun e w' => e = .returned (.int .i64 (mElems s)) ∧ w' = w := by
  rw [← rElems_eq]
  obtain ⟨ao, cc, rfl, hcc, hm, hx, hy⟩ := h1.open
  have HY := Lib.hid hy
  unfold maxLen at hm
  clear h1 hx hy
  go_enter Tryz.func83, Tryz.ntmps83
  by_cases h2 : 2 < s.length
  · have hd : decide ((2 : Int) < (s.length : Int)) = true := by simp; omega
    have hE : rElems s = 0 := by unfold rElems; rw [if_pos h2]
    go_wp2_with fail
    go_ret
    exact ⟨(by first | rfl | (rw [hE]; rfl)), rfl⟩
  · have hd : decide ((2 : Int) < (s.length : Int)) = false := by simp; omega
    have hE : rElems s = match rProd s 1 with | none => 0 | some n => if 32 < n then 0 else n := by unfold rElems; rw [if_neg h2]
    have HEL := Lib.hid hE
    clear hE
    go_wp2_with fail
    go_loopg [3, 10] s.length (fun g x i wr => ∃ (k : Nat) (m : Int), k ≤ s.length ∧ g = s.length - k ∧ i = .int .i64 k ∧ x = .int .i64 m ∧ Hid (rProd (s.take k) 1 = some m) ∧ 1 ≤ m ∧ m ≤ 16 ^ k ∧ wr = w)
    case atStart => exact ⟨0, 1, Nat.zero_le _, rfl, rfl, rfl, rfl, by omega, by simp, rfl⟩
    case round =>
      obtain ⟨k, m, hk, hg, rfl, rfl, HT, hm1, hm2, rfl⟩ := hrel
      by_cases hkl : k < s.length
      · obtain ⟨p, off, rfl, hp, hc⟩ := HY.out (by omega)
        have hcx : wr.cell? ⟨p, off + k, none⟩ = some (.int .i64 s[k]) := by rw [hc k (by omega)]; simp [ints, hkl]
        have h3 : (0 : Int) ≤ (k : Int) := by omega
        have h4 : (k : Int) < (s.length : Int) := by omega
        have HT2 := Lib.hid (show rProd (s.take (k + 1)) 1 = (if s[k] < 1 ∨ 16 < s[k] then none else some (m * s[k])) by
          rw [List.take_succ_eq_append_getElem hkl, rProd_snoc, HT.out]; rfl)
        have HN := Lib.hid (show (s[k] < 1 ∨ 16 < s[k]) → rElems s = 0 by
          intro hbad
          rw [HEL.out]
          have : rProd s 1 = none := by
            rw [← List.take_append_drop (k + 1) s]
            have hn := HT2.out
            rw [if_pos hbad] at hn
            exact rProd_none _ _ _ hn
          rw [this])
        clear hc
        generalize s[k] = d at hcx HT2 HN
        have hk2 : k < 2 := by omega
        have hm3 : m ≤ 16 := by
          rcases (show k = 0 ∨ k = 1 by omega) with rfl | rfl
          · simpa using Int.le_trans hm2 (by decide)
          · simpa using hm2
        by_cases hb1 : d < 1
        · have hd1 : decide (d < 1) = true := by simpa using hb1
          have hz := HN.out (.inl hb1)
          go_wp2_with fail
          first | (go_quiet (fail)) | skip
          go_wp2_with fail
          go_ret
          exact ⟨(by first | rfl | (rw [hz]; rfl)), rfl⟩
        · have hd1 : decide (d < 1) = false := by simpa using hb1
          by_cases hb2 : 16 < d
          · have hd2 : decide (16 < d) = true := by simpa using hb2
            have hz := HN.out (.inr hb2)
            go_wp2_with fail
            first | (go_quiet (fail)) | skip
            go_wp2_with fail
            go_ret
            exact ⟨(by first | rfl | (rw [hz]; rfl)), rfl⟩
          · have hd2 : decide (16 < d) = false := by simpa using hb2
            have hp1 : 1 ≤ m * d := by have := Int.mul_le_mul_of_nonneg_left (show 1 ≤ d by omega) (show 0 ≤ m by omega); omega
            have hp2 : m * d ≤ 16 ^ (k + 1) := by rw [Int.pow_succ]; exact Int.mul_le_mul hm2 (by omega) (by omega) (by omega)
            have hp3 : m * d ≤ 256 := by have := Int.mul_le_mul hm3 (show d ≤ 16 by omega) (by omega) (show (0 : Int) ≤ 16 by omega); omega
            have hT3 := HT2.out
            rw [if_neg (by omega)] at hT3
            have HT3 := Lib.hid hT3
            have hw1 : IntKind.i64.wrap (m * d) = m * d := by rw [IntKind.wrap_i64]; omega
            clear hm2 hT3
            go_wp2_with fail
            first | (go_quiet (fail)) | skip
            go_wp2_with fail
            go_roundg (s.length - (k + 1))
            case measure => omega
            case rel => exact ⟨k + 1, m * d, by omega, rfl, by go_num, rfl, HT3.out, hp1, hp2, rfl⟩
      · obtain rfl : k = s.length := by omega
        have hT := HT.out
        rw [List.take_length] at hT
        have hE := HEL.out
        rw [hT] at hE
        clear hm2
        by_cases h32 : 32 < m
        · have hz : rElems s = 0 := by rw [hE]; simp [h32]
          clear hE
          have hd3 : decide (32 < m) = true := by simpa using h32
          go_wp2_with fail
          go_ret
          exact ⟨(by first | rfl | (rw [hz]; rfl)), rfl⟩
        · have hz : rElems s = m := by rw [hE]; simp [h32]
          clear hE
          have hd3 : decide (32 < m) = false := by simpa using h32
          go_wp2_with fail
          go_ret
          exact ⟨(by first | rfl | (rw [hz]; rfl)), rfl⟩

set_option maxHeartbeats 1000000 in
set_option maxRecDepth 100000 in
theorem refTotal_vs (v : Value) (vs : List Value) (l : List (List Int)) (w : World) (hv : Arr w.heap.size w 1 v vs.length vs) (hvs : Nest w.heap.size w vs (l.map ints)) (hl : l.length ≤ 1099511627776) :
    Calls Tryz.prog 46 #[v] w fun e w' => e = .returned (.int .i64 (mTotal l)) ∧ w = w' := by
  have hle := hvs.length
  simp only [List.length_map] at hle
  obtain ⟨ao, cc, rfl, hcc, hm, hx, hy⟩ := hv.open
  have HY := Lib.hid hy
  have HV := Lib.hid hvs
  have HLE := Lib.hid hle
  have hvl : vs.length ≤ 1099511627776 := by omega
  clear hv hx hy hm hvs hle
  go_enter Tryz.func46, Tryz.ntmps46
  go_wp2_with fail
  go_loopg [3, 8] vs.length (fun g x i wr => ∃ (k : Nat) (n : Int), k ≤ vs.length ∧ g = vs.length - k ∧ i = .int .i64 k ∧ x = .int .i64 n ∧ 0 ≤ n ∧ n ≤ 32 * k ∧ Hid (totalGo (l.drop k) n = mTotal l) ∧ w = wr)
  case atStart => exact ⟨0, 0, Nat.zero_le _, rfl, rfl, rfl, by omega, by omega, rfl, rfl⟩
  case round =>
    obtain ⟨k, n, hk, hg, rfl, rfl, h0, h32, HG, rfl⟩ := hrel
    by_cases hkl : k < vs.length
    · obtain ⟨b, off, rfl, hbl, hcells⟩ := HY.out (by omega)
      have hkb : k < l.length := by have := HLE.out; omega
      have ha := HV.out.get k hkl (by simpa using hkb)
      simp only [List.getElem_map] at ha
      rw [ints_length] at ha
      have hcx : w.cell? ⟨b, off + k, none⟩ = some vs[k] := by rw [hcells k (by omega)]; simp [hkl]
      have hgo := HG.out
      rw [List.drop_eq_getElem_cons hkb, totalGo] at hgo
      generalize l[k] = s at ha hgo
      generalize vs[k] = sv at ha hcx
      obtain ⟨ao2, c2, rfl, hc2, hm2, hx2, hy2⟩ := Arr.open ha
      have hbd := mElems_bd s
      have HA := Lib.hid ha
      obtain ⟨E, hE⟩ : ∃ E, mElems s = E := ⟨_, rfl⟩
      rw [hE] at hgo hbd
      have HE := Lib.hid hE
      clear hcells ha hx2 hy2 hm2 hE
      by_cases hE0 : E = 0
      · rw [if_pos hE0] at hgo
        have HGO := Lib.hid hgo
        have hE1 : (E == 0) = true := by simpa using hE0
        clear hgo hE0
        go_wp2_with (go_at_call 83; go_must (refine (refElems_any _ s _ HA.out).mono ?_; rw [HE.out]; rintro e w' ⟨rfl, rfl⟩))
        go_ret
        exact ⟨ret_int HGO.out, rfl⟩
      · rw [if_neg hE0] at hgo
        have HGO := Lib.hid hgo
        have hE1 : (E == 0) = false := by simpa using hE0
        clear hgo hE0
        go_wp2_with (go_at_call 83; go_must (refine (refElems_any _ s _ HA.out).mono ?_; rw [HE.out]; rintro e w' ⟨rfl, rfl⟩))
        go_roundg (vs.length - (k + 1))
        case measure => omega
        case rel => exact ⟨k + 1, n + E, by omega, rfl, by go_num, rfl, by omega, by omega, HGO.out, rfl⟩
    · obtain rfl : k = vs.length := by omega
      have hgo := HG.out
      rw [List.drop_of_length_le (by have := HLE.out; omega), totalGo] at hgo
      have HGO := Lib.hid hgo
      clear hgo
      go_wp2_with fail
      go_ret
      exact ⟨ret_int HGO.out, rfl⟩
theorem refTotal_any (v : Value) (l : List (List Int)) (w : World) (h : ShAt w.heap.size w v l) (hl : l.length ≤ 1000000000) :
    Calls Tryz.prog 46 #[v] w fun e w' => e = .returned (.int .i64 (mTotal l)) ∧ w' = w := by
  obtain ⟨vs, h0, h1, h2⟩ := h
  exact (refTotal_vs v vs l w h1 h2 (by omega)).mono fun e w' ⟨he, hw⟩ => ⟨he, hw.symm⟩
end Go.Proofs.YtjbhgimhcjcpmaaGreatDoor

/-
  THE PLAIN LAW: how many words a party says at most (rMost is mMost, where the rounds don't fall).
-/
namespace Go.Proofs.YtjbhgimhcjcpmaaGreatDoor

theorem madeGo_steps (e0 e1 : Int) : ∀ (l : List MOp) (m : List Int), rMadeGo e0 e1 l m = true → ∀ (j : Nat) (h : j < l.length), ∃ m', rStep e0 e1 m' l[j] = true
  | [], _, _, j, h => by simp at h
  | o :: l, m, hg, j, h => by
    rw [rMadeGo] at hg
    split at hg
    · rename_i hs
      cases j with
      | zero => exact ⟨m, hs⟩
      | succ j => exact madeGo_steps e0 e1 l _ hg j (by simpa using h)
    · cases hg
theorem check_steps {ops : List MOp} (h : mCheck ops 65536 65536 = true) (j : Nat) (hj : j < ops.length) : ∃ m, rStep 65536 65536 m ops[j] = true := by
  rw [← rMade_eq] at h
  simp only [rMade, Bool.and_eq_true] at h
  exact madeGo_steps _ _ _ _ h.2 j hj
theorem told_0 (l : List MOp) (h : mOuts l = 0) : rTold l = true := by unfold rTold; rw [h]; rfl
/-- What an operation by itself is: a program. -/
theorem alone_check {o : MOp} {m : List Int} (hs : rStep 65536 65536 m o = true) (hw : mWantsW o = true) : mCheck (mAlone o) 65536 65536 = true := by
  rw [← rMade_eq]
  have hc0 : rStep 65536 65536 [] opC = true := by decide
  have hc1 : rStep 65536 65536 [3] opC = true := by decide
  have h3 : ∀ f : Int, f = 1 ∨ f = 2 → mWants [3, 3] 0 f = true ∧ mWants [3, 3] 1 f = true := by rintro f (rfl | rfl) <;> decide
  obtain ⟨kind, a, b, k, c, party⟩ := o
  have hk : kind = 1 ∨ kind = 6 ∨ kind = 9 ∨ kind = 17 ∨ kind = 18 ∨ kind = 19 := by
    simp only [mWantsW, Bool.or_eq_true, beq_iff_eq] at hw; omega
  simp only [rStep, Bool.and_eq_true, decide_eq_true_eq] at hs
  obtain ⟨⟨⟨h0, ha⟩, hb⟩, hn⟩ := hs
  rcases hk with rfl | rfl | rfl | rfl | rfl | rfl
  · have e : mAlone ⟨1, a, b, k, c, party⟩ = [⟨1, a, b, k, c, party⟩] := rfl
    have w : rWants ⟨1, a, b, k, c, party⟩ = (0, 0, 1, 1) := rfl
    rw [e]
    rw [w] at ha hb
    simp only [mWants, if_true] at ha hb
    simp [rMade, rMadeGo, rStep, w, mWants, ha, hb, hn, told_0, mOuts, mTold]
  · have e : mAlone ⟨6, a, b, k, c, party⟩ = [opC, opC, ⟨6, 0, 1, k, c, party⟩] := rfl
    have w : rWants ⟨6, 0, 1, k, c, party⟩ = (1, 1, 1, 1) := rfl
    have hn' : rNumbers ⟨6, 0, 1, k, c, party⟩ 65536 65536 = true := hn
    rw [e]
    have hst : rStep 65536 65536 [3, 3] ⟨6, 0, 1, k, c, party⟩ = true := by simp only [rStep, w, (h3 1 (.inl rfl)).1, (h3 1 (.inl rfl)).2, hn']; rfl
    have hto : rTold [opC, opC, ⟨6, 0, 1, k, c, party⟩] = true := told_0 _ rfl
    have hg : rMadeGo 65536 65536 [opC, opC, ⟨6, 0, 1, k, c, party⟩] [] = true := by
      rw [rMadeGo, if_pos hc0, rMadeGo, if_pos (show rStep 65536 65536 ([] ++ [(rWants opC).2.2.1]) opC = true from hc1), rMadeGo, if_pos (show rStep 65536 65536 (([] ++ [(rWants opC).2.2.1]) ++ [(rWants opC).2.2.1]) _ = true from hst)]; rfl
    simp [rMade, hto, hg]
  · have e : mAlone ⟨9, a, b, k, c, party⟩ = [opC, opC, ⟨9, 0, 1, k, c, party⟩] := rfl
    have w : rWants ⟨9, 0, 1, k, c, party⟩ = (2, 2, 2, 1) := rfl
    have hn' : rNumbers ⟨9, 0, 1, k, c, party⟩ 65536 65536 = true := hn
    rw [e]
    have hst : rStep 65536 65536 [3, 3] ⟨9, 0, 1, k, c, party⟩ = true := by simp only [rStep, w, (h3 2 (.inr rfl)).1, (h3 2 (.inr rfl)).2, hn']; rfl
    have hto : rTold [opC, opC, ⟨9, 0, 1, k, c, party⟩] = true := told_0 _ rfl
    have hg : rMadeGo 65536 65536 [opC, opC, ⟨9, 0, 1, k, c, party⟩] [] = true := by
      rw [rMadeGo, if_pos hc0, rMadeGo, if_pos (show rStep 65536 65536 ([] ++ [(rWants opC).2.2.1]) opC = true from hc1), rMadeGo, if_pos (show rStep 65536 65536 (([] ++ [(rWants opC).2.2.1]) ++ [(rWants opC).2.2.1]) _ = true from hst)]; rfl
    simp [rMade, hto, hg]
  · by_cases hok : circOk k c = true
    · have f1 : (1 + (c : Int) % 2) = 1 ∨ (1 + (c : Int) % 2) = 2 := by omega
      have f2 : (1 + (c : Int) / 2 % 2) = 1 ∨ (1 + (c : Int) / 2 % 2) = 2 := by omega
      have w0 : ∀ x y, rWants ⟨17, x, y, k, c, party⟩ = rW17 k c := fun x y => by simp [rWants, hok]
      rw [w0] at hb
      by_cases hk1 : k = 1
      · subst hk1
        have hb0 : b = 0 := by simpa [rW17, mWants] using hb
        subst hb0
        have e : mAlone ⟨17, a, 0, 1, c, party⟩ = [opC, opC, ⟨17, 0, 0, 1, c, party⟩] := rfl
        have hn' : rNumbers ⟨17, 0, 0, 1, c, party⟩ 65536 65536 = true := hn
        rw [e]
        have hst : rStep 65536 65536 [3, 3] ⟨17, 0, 0, 1, c, party⟩ = true := by
          simp only [rStep, w0, rW17, if_true, (h3 _ f1).1, hn']; rfl
        have hto : rTold [opC, opC, ⟨17, 0, 0, 1, c, party⟩] = true := told_0 _ rfl
        have hg : rMadeGo 65536 65536 [opC, opC, ⟨17, 0, 0, 1, c, party⟩] [] = true := by
          rw [rMadeGo, if_pos hc0, rMadeGo, if_pos (show rStep 65536 65536 ([] ++ [(rWants opC).2.2.1]) opC = true from hc1), rMadeGo, if_pos (show rStep 65536 65536 (([] ++ [(rWants opC).2.2.1]) ++ [(rWants opC).2.2.1]) _ = true from hst)]; rfl
        simp [rMade, hto, hg]
      · have e : mAlone ⟨17, a, b, k, c, party⟩ = [opC, opC, ⟨17, 0, 1, k, c, party⟩] := by simp [mAlone, mWantsW, aloneOp, hk1]
        have hn' : rNumbers ⟨17, 0, 1, k, c, party⟩ 65536 65536 = true := hn
        rw [e]
        have hst : rStep 65536 65536 [3, 3] ⟨17, 0, 1, k, c, party⟩ = true := by
          simp only [rStep, w0, rW17, if_neg hk1, (h3 _ f1).1, (h3 _ f2).2, hn']; rfl
        have hto : rTold [opC, opC, ⟨17, 0, 1, k, c, party⟩] = true := told_0 _ rfl
        have hg : rMadeGo 65536 65536 [opC, opC, ⟨17, 0, 1, k, c, party⟩] [] = true := by
          rw [rMadeGo, if_pos hc0, rMadeGo, if_pos (show rStep 65536 65536 ([] ++ [(rWants opC).2.2.1]) opC = true from hc1), rMadeGo, if_pos (show rStep 65536 65536 (([] ++ [(rWants opC).2.2.1]) ++ [(rWants opC).2.2.1]) _ = true from hst)]; rfl
        simp [rMade, hto, hg]
    · exfalso
      have w : rWants ⟨17, a, b, k, c, party⟩ = (0, 0, 0, -1) := by simp [rWants, hok]
      rw [w] at h0; simp at h0
  · have hb0 : b = 0 := by
      have w : rWants ⟨18, a, b, k, c, party⟩ = (1, 0, 0, 1) := rfl
      rw [w] at hb; simpa [mWants] using hb
    subst hb0
    have e : mAlone ⟨18, a, 0, k, c, party⟩ = [opC, opC, ⟨18, 0, 0, 0, c, party⟩] := rfl
    have w : rWants ⟨18, 0, 0, 0, c, party⟩ = (1, 0, 0, 1) := rfl
    have hn' : rNumbers ⟨18, 0, 0, 0, c, party⟩ 65536 65536 = true := by simp [rNumbers] at hn ⊢; exact hn
    rw [e]
    have hst : rStep 65536 65536 [3, 3] ⟨18, 0, 0, 0, c, party⟩ = true := by simp only [rStep, w, (h3 1 (.inl rfl)).1, hn']; rfl
    have hto : rTold [opC, opC, ⟨18, 0, 0, 0, c, party⟩] = true := rfl
    have hg : rMadeGo 65536 65536 [opC, opC, ⟨18, 0, 0, 0, c, party⟩] [] = true := by
      rw [rMadeGo, if_pos hc0, rMadeGo, if_pos (show rStep 65536 65536 ([] ++ [(rWants opC).2.2.1]) opC = true from hc1), rMadeGo, if_pos (show rStep 65536 65536 (([] ++ [(rWants opC).2.2.1]) ++ [(rWants opC).2.2.1]) _ = true from hst)]; rfl
    simp [rMade, hto, hg]
  · have hb0 : b = 0 := by
      have w : rWants ⟨19, a, b, k, c, party⟩ = (2, 0, 0, 1) := rfl
      rw [w] at hb; simpa [mWants] using hb
    subst hb0
    have e : mAlone ⟨19, a, 0, k, c, party⟩ = [opC, opC, ⟨19, 0, 0, 0, c, party⟩] := rfl
    have w : rWants ⟨19, 0, 0, 0, c, party⟩ = (2, 0, 0, 1) := rfl
    have hn' : rNumbers ⟨19, 0, 0, 0, c, party⟩ 65536 65536 = true := by simp [rNumbers] at hn ⊢; exact hn
    rw [e]
    have hst : rStep 65536 65536 [3, 3] ⟨19, 0, 0, 0, c, party⟩ = true := by simp only [rStep, w, (h3 2 (.inr rfl)).1, hn']; rfl
    have hto : rTold [opC, opC, ⟨19, 0, 0, 0, c, party⟩] = true := rfl
    have hg : rMadeGo 65536 65536 [opC, opC, ⟨19, 0, 0, 0, c, party⟩] [] = true := by
      rw [rMadeGo, if_pos hc0, rMadeGo, if_pos (show rStep 65536 65536 ([] ++ [(rWants opC).2.2.1]) opC = true from hc1), rMadeGo, if_pos (show rStep 65536 65536 (([] ++ [(rWants opC).2.2.1]) ++ [(rWants opC).2.2.1]) _ = true from hst)]; rfl
    simp [rMade, hto, hg]

/-- The words that an operation makes the first, the second party say. -/
def wd0 (o : MOp) : Int := if o.kind = 17 then 2 * (192 * mOperands o.k + 2 * (rAnds o.k o.c : Nat)) else if o.kind = 1 then (if o.party = 0 then 1 else 0) else if o.kind = 6 ∨ o.kind = 9 then 2 else if o.kind = 18 ∨ o.kind = 19 then 1 else 0
def wd1 (o : MOp) : Int := if o.kind = 17 then mOperands o.k else if o.kind = 1 then (if o.party = 0 then 0 else 1) else if o.kind = 6 ∨ o.kind = 9 then 2 else if o.kind = 18 ∨ o.kind = 19 then 1 else 0
theorem say_words (o : MOp) (y r : Int) (s : Int × Int) : sayStep o y r s = (s.1 + (if y = r then wd0 o else 0), s.2 + (if mostRound1 o y = r then wd1 o else 0)) := by
  obtain ⟨s0, s1⟩ := s
  unfold sayStep wd0 wd1 mostRound1
  by_cases h17 : o.kind = 17
  · simp only [if_pos h17]
    by_cases h1 : y = r + 1
    · rw [if_pos h1, if_neg (by omega), if_pos (by omega)]; simp
    · rw [if_neg h1]
      by_cases h2 : y = r
      · rw [if_pos h2, if_pos h2, if_neg (by omega)]; simp
      · rw [if_neg h2, if_neg h2, if_neg (by omega)]; simp
  · simp only [if_neg h17]
    by_cases h2 : y = r
    · rw [if_neg (fun h => h h2), if_pos h2, if_pos h2]
      repeat' split
      all_goals simp
    · rw [if_pos h2, if_neg h2, if_neg h2]; simp
theorem aloneOp_kind (o : MOp) : (aloneOp o).kind = o.kind := by
  unfold aloneOp
  repeat' split
  all_goals rfl
theorem go_three (x y z : MOp) (n : MNeed) : needGo [x, y, z] n = needStep (needStep (needStep n x) y) z := rfl
theorem step_opC (n : MNeed) : needStep n opC = n := by unfold needStep opC; simp
theorem garb_w (b : Prop) [Decidable b] (n : MNeed) (z : Int) : (if b then { n with t0 := z } else n).w0 = n.w0 ∧ (if b then { n with t0 := z } else n).w1 = n.w1 := by split <;> exact ⟨rfl, rfl⟩
theorem alone_words_eq {o : MOp} {m : List Int} (hs : rStep 65536 65536 m o = true) : (mNeed (mAlone o)).w0 = wd0 o ∧ (mNeed (mAlone o)).w1 = wd1 o := by
  by_cases hw : mWantsW o = true
  · have hc := alone_check hs hw
    have hk : o.kind = 1 ∨ o.kind = 6 ∨ o.kind = 9 ∨ o.kind = 17 ∨ o.kind = 18 ∨ o.kind = 19 := by
      simp only [mWantsW, Bool.or_eq_true, beq_iff_eq] at hw; omega
    have hn : ∀ l, mCheck l 65536 65536 = true → (mNeed l).w0 = (needGo l { need0 with rounds := maxOf (mRounds l) }).w0 ∧ (mNeed l).w1 = (needGo l { need0 with rounds := maxOf (mRounds l) }).w1 := by
      intro l hl
      unfold mNeed
      rw [if_pos hl]
      exact garb_w _ _ _
    obtain ⟨e0, e1⟩ := hn _ hc
    rw [e0, e1]
    generalize maxOf (mRounds (mAlone o)) = M
    by_cases h1 : o.kind = 1
    · have e : mAlone o = [o] := by unfold mAlone; rw [if_neg (by simp [hw]), if_pos h1]
      rw [e]
      have hp : o.party = 0 ∨ o.party = 1 := by
        simp only [rStep, Bool.and_eq_true] at hs
        have hn := hs.2
        unfold rNumbers at hn
        split at hn
        · cases hn
        · omega
      rcases hp with hp | hp <;> simp [needGo, needStep, h1, hp, wd0, wd1, need0]
    · have e : mAlone o = [opC, opC, aloneOp o] := by unfold mAlone; rw [if_neg (by simp [hw]), if_neg h1]
      rw [e, go_three, step_opC, step_opC]
      have hkd := aloneOp_kind o
      by_cases h17 : o.kind = 17
      · have hkk : (aloneOp o).k = o.k ∧ (aloneOp o).c = o.c := by
          unfold aloneOp
          rw [if_neg (by omega)]
          split <;> exact ⟨rfl, rfl⟩
        have hok : circOk (aloneOp o).k (aloneOp o).c = true := by
          rw [hkk.1, hkk.2]
          refine Classical.byContradiction fun hno => ?_
          have w : rWants o = (0, 0, 0, -1) := by simp [rWants, h17, hno]
          simp only [rStep, Bool.and_eq_true, decide_eq_true_eq] at hs
          have := hs.1.1.1
          rw [w] at this; simp at this
        rw [needStep_17 _ _ (by rw [hkd, h17]), garbAnds_eq _ hok, hkk.1, hkk.2]
        simp [wd0, wd1, h17, need0]
      · rcases hk with h | h | h | h | h | h
        · exact absurd h h1
        · rw [needStep_6 _ _ (by rw [hkd, h])]; simp [wd0, wd1, h, need0]
        · rw [needStep_9 _ _ (by rw [hkd, h])]; simp [wd0, wd1, h, need0]
        · exact absurd h h17
        · rw [needStep_out _ _ (by rw [hkd]; exact .inl h)]; simp [wd0, wd1, h, need0]
        · rw [needStep_out _ _ (by rw [hkd]; exact .inr h)]; simp [wd0, wd1, h, need0]
  · have hwf : mWantsW o = false := by simpa using hw
    have e : mAlone o = [] := by unfold mAlone; rw [if_pos hwf]
    have hk : o.kind ≠ 1 ∧ o.kind ≠ 6 ∧ o.kind ≠ 9 ∧ o.kind ≠ 17 ∧ o.kind ≠ 18 ∧ o.kind ≠ 19 := by
      simp only [mWantsW, Bool.or_eq_false_iff, beq_eq_false_iff_ne] at hwf; omega
    rw [e]
    have : mNeed [] = need0 := by rfl
    rw [this]
    simp [wd0, wd1, hk, need0]
theorem wd_pos (o : MOp) : 0 ≤ wd0 o ∧ 0 ≤ wd1 o := by
  have := operands_bd o.k
  unfold wd0 wd1
  constructor
  · repeat' split
    all_goals omega
  · repeat' split
    all_goals omega
theorem wd_not {o : MOp} (h : mWantsW o = false) : wd0 o = 0 ∧ wd1 o = 0 := by
  have hk : o.kind ≠ 1 ∧ o.kind ≠ 6 ∧ o.kind ≠ 9 ∧ o.kind ≠ 17 ∧ o.kind ≠ 18 ∧ o.kind ≠ 19 := by
    simp only [mWantsW, Bool.or_eq_false_iff, beq_eq_false_iff_ne] at h; omega
  simp [wd0, wd1, hk]
/-- The state of mMost, against what is said in each round. -/
structure OInv (M : Nat) (s : MostSt) : Prop where
  le : ∀ r, 0 ≤ s.s0 r ∧ s.s0 r ≤ s.out ∧ 0 ≤ s.s1 r ∧ s.s1 r ≤ s.out
  got : s.out = 0 ∨ ∃ r : Nat, r ≤ M ∧ (s.out ≤ s.s0 r ∨ s.out ≤ s.s1 r)
theorem upd_inv (M : Nat) (f g : Int → Int) (out w z O : Int) (hw : 0 ≤ w) (hz : 0 ≤ z ∧ z ≤ M) (hle : ∀ r, 0 ≤ f r ∧ f r ≤ out ∧ 0 ≤ g r ∧ g r ≤ out) (hgot : out = 0 ∨ ∃ r : Nat, r ≤ M ∧ (out ≤ f r ∨ out ≤ g r)) (hO : O = max out (f z + w)) :
    (∀ r, 0 ≤ upd f z (f z + w) r ∧ upd f z (f z + w) r ≤ O ∧ 0 ≤ g r ∧ g r ≤ O) ∧ (O = 0 ∨ ∃ r : Nat, r ≤ M ∧ (O ≤ upd f z (f z + w) r ∨ O ≤ g r)) := by
  have hO2 : out ≤ O ∧ f z + w ≤ O ∧ (O = out ∨ O = f z + w) := by omega
  clear hO
  have hfz := hle z
  obtain ⟨zn, rfl⟩ := Int.eq_ofNat_of_zero_le hz.1
  refine ⟨fun r => ?_, ?_⟩
  · have := hle r
    unfold upd
    split <;> omega
  · rcases hO2.2.2 with hO | hO
    · rcases hgot with hg | ⟨r, hr, hg⟩
      · exact .inl (by omega)
      · refine .inr ⟨r, hr, ?_⟩
        unfold upd
        split
        · rename_i he; rw [he] at hg ⊢; omega
        · omega
    · refine .inr ⟨zn, by omega, .inl ?_⟩
      unfold upd; rw [if_pos rfl]; omega
theorem upd_zero (f : Int → Int) (z : Int) : upd f z (f z + 0) = f := by
  funext k
  unfold upd
  split
  · rename_i he; rw [he]; omega
  · rfl
theorem mostStep_inv {M : Nat} {s : MostSt} (h : OInv M s) {o : MOp} {y : Int} {m : List Int} (hs : rStep 65536 65536 m o = true) (hy : 0 ≤ y ∧ y ≤ M) (h17 : o.kind = 17 → 1 ≤ y) : OInv M (mostStep o y s) := by
  obtain ⟨e0, e1⟩ := alone_words_eq hs
  obtain ⟨p0, p1⟩ := wd_pos o
  have hr1 : 0 ≤ mostRound1 o y ∧ mostRound1 o y ≤ M := by
    unfold mostRound1
    split
    · rename_i hk; have := h17 hk; omega
    · omega
  have k0 : OInv M (mostStep0 o y s) := by
    obtain ⟨hle, hgot⟩ := h
    unfold mostStep0
    rw [e0]
    by_cases hw : mWantsW o = true
    · simp only [hw, if_true]
      obtain ⟨a, b⟩ := upd_inv M s.s0 s.s1 s.out (wd0 o) y _ p0 hy hle hgot rfl
      exact ⟨a, b⟩
    · have hwf : mWantsW o = false := by simpa using hw
      rw [(wd_not hwf).1, upd_zero]
      simp only [hwf, Bool.false_eq_true, if_false]
      exact ⟨hle, hgot⟩
  unfold mostStep
  generalize mostStep0 o y s = t at k0 ⊢
  generalize mostRound1 o y = z at hr1 ⊢
  obtain ⟨hle, hgot⟩ := k0
  unfold mostStep1
  rw [e1]
  by_cases hw : mWantsW o = true
  · simp only [hw, if_true]
    obtain ⟨a, b⟩ := upd_inv M t.s1 t.s0 t.out (wd1 o) z _ p1 hr1 (fun r => by have := hle r; omega) (by
      rcases hgot with hg | ⟨r, hr, hg⟩
      · exact .inl hg
      · exact .inr ⟨r, hr, hg.symm⟩) rfl
    refine ⟨fun r => by have := a r; dsimp only; omega, ?_⟩
    rcases b with hg | ⟨r, hr, hg⟩
    · exact .inl hg
    · exact .inr ⟨r, hr, hg.symm⟩
  · have hwf : mWantsW o = false := by simpa using hw
    rw [(wd_not hwf).2, upd_zero]
    simp only [hwf, Bool.false_eq_true, if_false]
    exact ⟨hle, hgot⟩
theorem mostStep_say {s : MostSt} {o : MOp} {y : Int} {m : List Int} (hs : rStep 65536 65536 m o = true) (r : Int) : sayStep o y r (s.s0 r, s.s1 r) = ((mostStep o y s).s0 r, (mostStep o y s).s1 r) := by
  obtain ⟨e0, e1⟩ := alone_words_eq hs
  rw [say_words]
  simp only [mostStep, mostStep1, mostStep0, e0, e1, upd]
  congr 1
  · by_cases h : y = r
    · rw [if_pos h, if_pos h.symm, h]
    · rw [if_neg h, if_neg (Ne.symm h)]; omega
  · by_cases h : mostRound1 o y = r
    · rw [if_pos h, if_pos h.symm, h]
    · rw [if_neg h, if_neg (Ne.symm h)]; omega
theorem mostGo_law (M : Nat) : ∀ (l : List MOp) (ys : List Int) (s : MostSt), (∀ (j : Nat) (h : j < l.length), ∃ m, rStep 65536 65536 m l[j] = true) → (∀ y ∈ ys, 0 ≤ y ∧ y ≤ M) → (∀ (j : Nat) (h : j < l.length), l[j].kind = 17 → 1 ≤ ys.getD j 1) → OInv M s →
    OInv M (mostGo l ys s) ∧ ∀ r, sayGo l ys r (s.s0 r, s.s1 r) = ((mostGo l ys s).s0 r, (mostGo l ys s).s1 r)
  | [], ys, s, _, _, _, h => by
    have e : mostGo [] ys s = s := by cases ys <;> rfl
    rw [e]; exact ⟨h, fun r => sayGo_nil _ _ _⟩
  | o :: l, [], s, _, _, _, h => ⟨h, fun r => rfl⟩
  | o :: l, y :: ys, s, hs, hy, h17, h => by
    obtain ⟨m, hm⟩ := hs 0 (by simp)
    have h1 := mostStep_inv h hm (hy y (by simp)) (fun hk => h17 0 (by simp) hk)
    obtain ⟨a, b⟩ := mostGo_law M l ys (mostStep o y s) (fun j hj => hs (j + 1) (by simpa using hj)) (fun z hz => hy z (by simp [hz])) (fun j hj hk => by simpa using h17 (j + 1) (by simpa using hj) hk) h1
    refine ⟨a, fun r => ?_⟩
    rw [sayGo]
    have e : sayStep o y r (s.s0 r, s.s1 r) = ((mostStep o y s).s0 r, (mostStep o y s).s1 r) := mostStep_say hm r
    rw [e]
    exact b r
/-- A round is not less than what the operation itself takes. -/
theorem roundsGo_ge : ∀ (l : List MOp) (out : List Int) (n : Nat), Upto (n : Int) out → ∀ (j : Nat) (h : j < l.length), (mRule l[j] 65536 65536).1.rounds ≤ (roundsGo l out).getD (out.length + j) 0
  | [], _, _, _, j, h => by simp at h
  | o :: l, out, n, hu, j, h => by
    rw [roundsGo]
    have ha := ahead_bound hu (by omega) o (mRule o 65536 65536).1
    have hr := mRule_rounds o 65536 65536
    have hs : Upto ((n + 2 : Nat) : Int) (out ++ [ahead out o (mRule o 65536 65536).1 + (mRule o 65536 65536).1.rounds]) := hu.snoc (by omega) (by omega) (by omega)
    cases j with
    | zero =>
      have hkeep : ∀ (l : List MOp) (out : List Int) (q : Nat), q < out.length → (roundsGo l out).getD q 0 = out.getD q 0 := by
        intro l
        induction l with
        | nil => intro out q _; rfl
        | cons p l ih =>
          intro out q hq
          rw [roundsGo, ih _ _ (by simp; omega)]
          simp only [List.getD]; rw [List.getElem?_append_left hq]
      rw [Nat.add_zero, hkeep _ _ _ (by simp)]
      simp only [List.getElem_cons_zero]
      have : (out ++ [ahead out o (mRule o 65536 65536).1 + (mRule o 65536 65536).1.rounds]).getD out.length 0 = ahead out o (mRule o 65536 65536).1 + (mRule o 65536 65536).1.rounds := by
        simp only [List.getD]; rw [List.getElem?_append_right (Nat.le_refl _), Nat.sub_self]; rfl
      rw [this]; omega
    | succ j =>
      have := roundsGo_ge l _ (n + 2) hs j (by simpa using h)
      simp only [List.length_append, List.length_cons, List.length_nil, List.getElem_cons_succ] at this ⊢
      rw [show out.length + (j + 1) = out.length + (0 + 1) + j by omega]
      exact this
theorem sorted_last {l : List Int} (h : mSorted l = true) (j : Nat) (hj : j < l.length) : l.getD j 0 ≤ l.getD (l.length - 1) 0 := by
  have hs := (mSorted_iff l).1 h
  obtain ⟨d, hd⟩ : ∃ d, l.length - 1 - j = d := ⟨_, rfl⟩
  induction d generalizing j with
  | zero => rw [show j = l.length - 1 by omega]; exact Int.le_refl _
  | succ d ih => exact Int.le_trans (hs j (by omega)) (ih (j + 1) (by omega) (by omega))
theorem mostTo_ge (ops : List MOp) (rl : List Int) : ∀ (n r : Nat), r < n → (rSaid ops rl r).1 ≤ mostTo ops rl n ∧ (rSaid ops rl r).2 ≤ mostTo ops rl n
  | 0, r, h => by omega
  | n + 1, r, h => by
    simp only [mostTo]
    by_cases hr : r = n
    · subst hr; omega
    · have := mostTo_ge ops rl n r (by omega); omega
theorem mostTo_le (ops : List MOp) (rl : List Int) (B : Int) (hB : 0 ≤ B) (h : ∀ r : Nat, (rSaid ops rl r).1 ≤ B ∧ (rSaid ops rl r).2 ≤ B) : ∀ n, mostTo ops rl n ≤ B
  | 0 => hB
  | n + 1 => by simp only [mostTo]; have := mostTo_le ops rl B hB h n; have := h n; omega
theorem most_law {ops : List MOp} (hc : mCheck ops 65536 65536 = true) (hs : mSorted (mRounds ops) = true) : rMost ops (mRounds ops) = mMost ops := by
  have hup := mRounds_upto ops
  have hlen := mRounds_len ops
  rw [if_pos hc] at hlen
  have hlast := hup.getD (by omega) ((mRounds ops).length - 1)
  have hM : ((lastR (mRounds ops) : Nat) : Int) = (mRounds ops).getD ((mRounds ops).length - 1) 0 := by unfold lastR; omega
  have hy : ∀ y ∈ mRounds ops, 0 ≤ y ∧ y ≤ (lastR (mRounds ops) : Nat) := by
    intro y hy
    refine ⟨(hup y hy).1, ?_⟩
    obtain ⟨j, hj, rfl⟩ := List.mem_iff_getElem.1 hy
    have := sorted_last hs j hj
    rw [hM]
    simpa [List.getD, hj] using this
  have h17 : ∀ (j : Nat) (h : j < ops.length), ops[j].kind = 17 → 1 ≤ (mRounds ops).getD j 1 := by
    intro j hj hk
    have hr := check_rules hc j hj
    have hg := roundsGo_ge ops [] 0 (by intro x hx; cases hx) j hj
    have he : mRounds ops = roundsGo ops [] := by unfold mRounds; rw [if_pos hc]
    have hok := rule_garb hr hk
    have hrr : (mRule ops[j] 65536 65536).1.rounds = 2 := by
      have h1 : ¬ ((17 : Int) = 1) := by decide
      simp only [mRule, hk, if_true, if_neg h1, mGarbRule, if_pos hok]
    rw [hrr] at hg
    simp only [List.length_nil, Nat.zero_add] at hg
    rw [← he] at hg
    have hjl : j < (mRounds ops).length := by omega
    simp only [List.getD, List.getElem?_eq_getElem hjl, Option.getD_some] at hg ⊢
    omega
  obtain ⟨ho, hsay⟩ := mostGo_law (lastR (mRounds ops)) ops (mRounds ops) ⟨fun _ => 0, fun _ => 0, 0⟩ (fun j hj => check_steps hc j hj) hy h17 ⟨fun r => ⟨Int.le_refl _, Int.le_refl _, Int.le_refl _, Int.le_refl _⟩, .inl rfl⟩
  have hS : ∀ r : Int, rSaid ops (mRounds ops) r = ((mostGo ops (mRounds ops) ⟨fun _ => 0, fun _ => 0, 0⟩).s0 r, (mostGo ops (mRounds ops) ⟨fun _ => 0, fun _ => 0, 0⟩).s1 r) := fun r => hsay r
  unfold mMost rMost
  generalize mostGo ops (mRounds ops) ⟨fun _ => 0, fun _ => 0, 0⟩ = st at ho hS
  have h0 := mostTo_small ops (mRounds ops) (lastR (mRounds ops) + 1)
  have hout0 : 0 ≤ st.out := by
    have := rSaid_small ops (mRounds ops) 0
    unfold pairSmall at this
    rw [hS] at this
    have := (ho.le 0).2.1
    omega
  have h1 := mostTo_le ops (mRounds ops) st.out hout0 (fun r => by rw [hS]; have := ho.le r; exact ⟨this.2.1, this.2.2.2⟩) (lastR (mRounds ops) + 1)
  rcases ho.got with hg | ⟨r, hr, hg⟩
  · omega
  · have := mostTo_ge ops (mRounds ops) (lastR (mRounds ops) + 1) r (by omega)
    rw [hS] at this
    simp only at this
    omega
end Go.Proofs.YtjbhgimhcjcpmaaGreatDoor

/-
  THE CONTRACT of twainref18.Wanted.
-/
namespace Go.Proofs.YtjbhgimhcjcpmaaGreatDoor
open Go.RowKit

set_option maxHeartbeats 1000000 in
set_option maxRecDepth 100000 in
theorem refWanted_any (o : MOp) (w : World) : Calls Tryz.prog 104 #[.agg o.arr] w (RetInts (rWanted o) w) := by
  have HO0 := Lib.hid (WSt.start w o)
  obtain ⟨⟨a, b, m, r⟩, hR⟩ : ∃ x, rWants o = x := ⟨_, rfl⟩
  have hW : rWanted o = (if a = 0 then [] else [o.a]) ++ (if b ≠ 0 ∧ (a = 0 ∨ o.a ≠ o.b) then [o.b] else []) := by unfold rWanted; rw [hR]
  obtain ⟨L, hL⟩ : ∃ L, rWanted o = L := ⟨_, rfl⟩
  rw [hL]
  rw [hL] at hW
  have HL := Lib.hid hW
  clear hL
  have HR := Lib.hid hR
  clear hW hR
  go_enter Tryz.func104, Tryz.ntmps104
  go_upto_region 1 with fail
  generalize w.alloc _ = W0 at HO0 ⊢
  obtain ⟨c0, c1, c2, c3, c4, c5⟩ := op_cells6 HO0.out.box
  go_upto_region 3 with (go_at_call 72; go_must (refine (refWants_any o _).mono ?_; rw [HR.out]; unfold rWv; rintro e w1 ⟨rfl, hb1⟩; have HO1 := Lib.hid (HO0.out.later hb1); clear hb1 c0 c1 c2 c3 c4 c5))
  obtain ⟨c0, c1, c2, c3, c4, c5⟩ := op_cells6 HO1.out.box
  by_cases ha : a = 0
  · subst ha
    have ha2 : ((0 : Int) != 0) = false := rfl
    go_upto_region 5 with fail
    by_cases hb : b = 0
    · have hb1 : (b == 0) = true := by simpa using hb
      have hb2 : (b != 0) = false := by simp [hb]
      have hE : L = [] ++ [] := by rw [HL.out]; simp [hb]
      have HE := Lib.hid hE
      clear hb hE
      go_wp2_with fail
      first | (go_quiet (fail)) | skip
      go_wp2_with fail
      go_ret
      rw [HE.out]
      exact WSt.ret (l := [] ++ []) (by first | exact HO1.out | exact (HO1.out.later ((Below.refl _ _).drew)))
    · have hb1 : (b == 0) = false := by simpa using hb
      have hb2 : (b != 0) = true := by simp [hb]
      have hE : L = [] ++ [o.b] := by rw [HL.out]; simp [hb]
      have HE := Lib.hid hE
      clear hb hE
      go_wp2_with (at_builtin; refine app_k rfl _ _ 24 rfl 3 _ 1 8 Tryz.underlying24 info_int rfl (by decide) #[_] _ _ _ _ HO1.out.own rfl rfl rfl (by intro u hu; simp at hu; subst hu; rfl) (by have := lt_of_block HO1.out.box; omega) (by simp) (by unfold maxLen; simp) ?_; intro y2 w2 hown9 hg9 _; go_must (have HO2 := Lib.hid (HO1.out.add hg9 hown9); clear hown9 hg9 c0 c1 c2 c3 c4 c5; obtain ⟨c0, c1, c2, c3, c4, c5⟩ := op_cells6 HO2.out.box))
      go_ret
      rw [HE.out]
      exact WSt.ret (l := [] ++ [o.b]) HO2.out
  · have ha1 : (a == 0) = false := by simpa using ha
    have ha2 : (a != 0) = true := by simp [ha]
    go_upto_region 5 with (at_builtin; refine app_k rfl _ _ 24 rfl 3 _ 1 8 Tryz.underlying24 info_int rfl (by decide) #[_] _ _ _ _ HO1.out.own rfl rfl rfl (by intro u hu; simp at hu; subst hu; rfl) (by have := lt_of_block HO1.out.box; omega) (by simp) (by unfold maxLen; simp) ?_; intro y2 w2 hown9 hg9 _; go_must (have HO2 := Lib.hid (HO1.out.add hg9 hown9); clear hown9 hg9 c0 c1 c2 c3 c4 c5; obtain ⟨c0, c1, c2, c3, c4, c5⟩ := op_cells6 HO2.out.box))
    by_cases hb : b = 0
    · have hb1 : (b == 0) = true := by simpa using hb
      have hb2 : (b != 0) = false := by simp [hb]
      have hE : L = [o.a] ++ [] := by rw [HL.out]; simp [hb, ha]
      have HE := Lib.hid hE
      clear hb ha hE
      go_wp2_with fail
      first | (go_quiet (fail)) | skip
      go_wp2_with fail
      go_ret
      rw [HE.out]
      exact WSt.ret (l := [o.a] ++ []) (by first | exact HO2.out | exact (HO2.out.later ((Below.refl _ _).drew)))
    · have hb1 : (b == 0) = false := by simpa using hb
      have hb2 : (b != 0) = true := by simp [hb]
      by_cases hab : o.a = o.b
      · have h3 : (o.a == o.b) = true := by simpa using hab
        have h4 : (o.a != o.b) = false := by simp [hab]
        have hE : L = [o.a] ++ [] := by rw [HL.out]; simp [hb, ha, hab]
        have HE := Lib.hid hE
        clear hb hab ha hE
        go_wp2_with fail
        go_ret
        rw [HE.out]
        exact WSt.ret (l := [o.a] ++ []) HO2.out
      · have h3 : (o.a == o.b) = false := by simpa using hab
        have h4 : (o.a != o.b) = true := by simp [hab]
        have hE : L = [o.a] ++ [o.b] := by rw [HL.out]; simp [hb, ha, hab]
        have HE := Lib.hid hE
        clear hb hab ha hE
        go_wp2_with (at_builtin; refine app_k rfl _ _ 24 rfl 3 _ 1 8 Tryz.underlying24 info_int rfl (by decide) #[_] _ _ _ _ HO2.out.own rfl rfl rfl (by intro u hu; simp at hu; subst hu; rfl) (by have := lt_of_block HO2.out.box; omega) (by simp) (by unfold maxLen; simp) ?_; intro y3 w3 hown9 hg9 _; go_must (have HO3 := Lib.hid (HO2.out.add hg9 hown9); clear hown9 hg9 c0 c1 c2 c3 c4 c5; obtain ⟨c0, c1, c2, c3, c4, c5⟩ := op_cells6 HO3.out.box))
        go_ret
        rw [HE.out]
        exact WSt.ret (l := [o.a] ++ [o.b]) HO3.out
end Go.Proofs.YtjbhgimhcjcpmaaGreatDoor
