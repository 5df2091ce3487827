/-
  PLAIN LAW: the number at the front of bytes, by the reference's definition: the shortest beginning that ends with a byte below 128, if it is written so.
-/
import Derived.Test.YtjbhgimhcjcpmaaGreatDoorMStepApp
import Derived.Test.YtjbhgimhcjcpmaaGreatDoorMRefWire
import Derived.Deep.RegionHeld
set_option linter.unusedSimpArgs false
set_option linter.unusedVariables false
namespace Go.Proofs.YtjbhgimhcjcpmaaGreatDoor

def val7 : List Nat → Nat
  | [] => 0
  | c :: l => c % 128 + 128 * val7 l
theorem val7_snoc : ∀ (l : List Nat) (c : Nat), val7 (l ++ [c]) = val7 l + c % 128 * 128 ^ l.length
  | [], c => by simp [val7]
  | d :: l, c => by
    rw [List.cons_append, val7, val7, val7_snoc l c, List.length_cons, Nat.pow_succ, Nat.mul_add]
    have : c % 128 * (128 ^ l.length * 128) = 128 * (c % 128 * 128 ^ l.length) := by rw [← Nat.mul_assoc, Nat.mul_comm]
    omega
theorem val7_lt : ∀ l : List Nat, val7 l < 128 ^ l.length
  | [] => by simp [val7]
  | d :: l => by
    have := val7_lt l
    rw [val7, List.length_cons, Nat.pow_succ]; omega
theorem takeGo_run (rest : List Nat) : ∀ (pre : List Nat) (i n : Nat), (∀ x ∈ pre, 128 ≤ x) → i + pre.length ≤ 5 → takeGo (pre ++ rest) i n = takeGo rest (i + pre.length) (n + val7 pre * 128 ^ i)
  | [], i, n, _, _ => by simp [val7]
  | d :: pre, i, n, h, hi => by
    simp only [List.length_cons] at hi
    rw [List.cons_append, takeGo, if_neg (by omega), if_pos (h d (by simp)), takeGo_run rest pre (i + 1) _ (fun x hx => h x (by simp [hx])) (by omega)]
    have e : val7 (d :: pre) * 128 ^ i = d % 128 * 128 ^ i + val7 pre * 128 ^ (i + 1) := by
      rw [val7, Nat.add_mul, Nat.pow_succ]
      congr 1
      rw [Nat.mul_comm 128 (val7 pre), Nat.mul_assoc, Nat.mul_comm 128]
    rw [e, List.length_cons]
    congr 1
    · omega
    · omega
theorem num7_last (n : Nat) : (num7 n).getLast? = some 0 → n = 0 := by
  induction n using Nat.strongRecOn with
  | ind n ih =>
    by_cases h : n < 128
    · rw [num7_small h]; simp
    · rw [num7_big h]
      have := (num7_len (n / 128)).1
      intro h1
      rw [List.getLast?_cons] at h1
      have h2 : (num7 (n / 128)).getLast? = some 0 := by
        cases e : (num7 (n / 128)).getLast? with
        | none => rw [List.getLast?_eq_none_iff] at e; rw [e] at this; simp at this
        | some y => rw [e] at h1; simpa using h1
      have := ih (n / 128) (by omega) h2
      omega
theorem num7_val : ∀ (ds : List Nat) (c : Nat), (∀ x ∈ ds, 128 ≤ x ∧ x < 256) → c < 128 → (c = 0 → ds = []) → num7 (val7 (ds ++ [c])) = ds ++ [c]
  | [], c, _, hc, _ => by
    have : val7 ([] ++ [c]) = c := by simp [val7]; omega
    rw [this, num7_small hc]; rfl
  | d :: ds, c, h, hc, h0 => by
    have hc0 : c ≠ 0 := fun e => by simpa using h0 e
    have hd := h d (by simp)
    have ih := num7_val ds c (fun x hx => h x (by simp [hx])) hc (fun e => absurd e hc0)
    have hV : 1 ≤ val7 (ds ++ [c]) := by
      refine Classical.byContradiction fun hn => ?_
      rw [show val7 (ds ++ [c]) = 0 by omega, num7_small (by decide)] at ih
      cases ds with
      | nil => simp at ih; omega
      | cons x l => simp at ih
    rw [List.cons_append, val7, num7_big (by omega)]
    rw [show (d % 128 + 128 * val7 (ds ++ [c])) % 128 + 128 = d by omega, show (d % 128 + 128 * val7 (ds ++ [c])) / 128 = val7 (ds ++ [c]) by omega, ih]
theorem num7_val_iff {ds : List Nat} {c : Nat} (h : ∀ x ∈ ds, 128 ≤ x ∧ x < 256) (hc : c < 128) : num7 (val7 (ds ++ [c])) = ds ++ [c] ↔ ¬ (c = 0 ∧ 0 < ds.length) := by
  constructor
  · rintro e ⟨rfl, hl⟩
    have h1 : (num7 (val7 (ds ++ [0]))).getLast? = some 0 := by rw [e]; simp
    rw [num7_last _ h1, num7_small (by decide)] at e
    cases ds with
    | nil => simp at hl
    | cons x l => simp at e
  · intro hn
    exact num7_val ds c h hc fun e => by
      cases ds with
      | nil => rfl
      | cons x l => exact absurd ⟨e, by simp⟩ hn

/-- The law: of bytes whose first 'size' are 128 or more, no more than five. -/
theorem takeNum_end {bs : List Nat} {size : Nat} (hs : size ≤ bs.length) (h5 : size ≤ 5) (h : ∀ x ∈ bs.take size, 128 ≤ x) (he : size = bs.length ∨ size = 5) : takeNum bs = (0, 0) := by
  have e := takeGo_run (bs.drop size) (bs.take size) 0 0 h (by rw [List.length_take]; omega)
  rw [List.take_append_drop] at e
  rw [takeNum, e, List.length_take, Nat.min_eq_left hs]
  cases hd : bs.drop size with
  | nil => rfl
  | cons c l =>
    have : size < bs.length := by
      refine Classical.byContradiction fun hn => ?_
      rw [List.drop_eq_nil_of_le (by omega)] at hd; cases hd
    rw [takeGo, if_pos (by omega)]
theorem takeNum_some {bs : List Nat} {size : Nat} (hs : size < bs.length) (h5 : size < 5) (h : ∀ x ∈ bs.take size, 128 ≤ x) (h8 : ∀ x ∈ bs, x < 256) (hc : bs[size] < 128) :
    takeNum bs = if val7 (bs.take (size + 1)) ≤ 4294967295 ∧ num7 (val7 (bs.take (size + 1))) = bs.take (size + 1) then (val7 (bs.take (size + 1)), size + 1) else (0, 0) := by
  have e := takeGo_run (bs.drop size) (bs.take size) 0 0 h (by rw [List.length_take]; omega)
  rw [List.take_append_drop] at e
  have ht : bs.take (size + 1) = bs.take size ++ [bs[size]] := List.take_succ_eq_append_getElem hs
  have hl : (bs.take size).length = size := by rw [List.length_take]; omega
  have hi := num7_val_iff (ds := bs.take size) (c := bs[size]) (fun x hx => ⟨h x hx, h8 x (List.mem_of_mem_take hx)⟩) hc
  have hv := val7_snoc (bs.take size) bs[size]
  rw [hl, Nat.mod_eq_of_lt hc] at hv
  rw [takeNum, e, hl, List.drop_eq_getElem_cons hs, takeGo, if_neg (by omega), if_neg (by omega), Nat.mod_eq_of_lt hc, ht]
  rw [hl, hv] at hi
  simp only [hv, hi, Nat.zero_add, Nat.pow_zero, Nat.mul_one]
  by_cases ha : 4294967295 < val7 (bs.take size) + bs[size] * 128 ^ size
  · rw [if_pos (.inl ha), if_neg (by omega)]
  · by_cases hb : bs[size] = 0 ∧ 0 < size
    · rw [if_pos (.inr hb), if_neg (fun hh => hh.2 hb)]
    · rw [if_neg (by rintro (hh | hh); exact ha hh; exact hb hh), if_pos ⟨by omega, hb⟩]
end Go.Proofs.YtjbhgimhcjcpmaaGreatDoor

/-
  THE CONTRACT of twainref05.TakeNumber: it takes what wire.TakeNumber takes.
-/
namespace Go.Proofs.YtjbhgimhcjcpmaaGreatDoor
open Go.RowKit

theorem strB_inj {a b : List Nat} (ha : ∀ x ∈ a, x < 256) (hb : ∀ x ∈ b, x < 256) (h : strB a = strB b) : a = b := by
  have h1 := congrArg (fun x : ByteArray => x.data.toList) h
  simp only [strB, strOfNums_data, List.map_map] at h1
  have h2 := congrArg (List.map UInt8.toNat) h1
  simp only [List.map_map] at h2
  have e : ∀ l : List Nat, (∀ x ∈ l, x < 256) → l.map (UInt8.toNat ∘ (fun n : Int => UInt8.ofNat n.toNat) ∘ Int.ofNat) = l := by
    intro l hl
    refine (List.map_congr_left fun x hx => ?_).trans (List.map_id l)
    have := hl x hx
    simp
    omega
  rwa [e a ha, e b hb] at h2

theorem strB_ne {a b : ByteArray} (h : ¬ a = b) : (a.toList == b.toList) = false := by
  rw [ByteArray.toList_eq, ByteArray.toList_eq]
  simp only [beq_eq_false_iff_ne, ne_eq]
  exact fun e => h (Go.WideShapes.bytes_inj e)

set_option maxHeartbeats 1000000 in
set_option maxRecDepth 100000 in
theorem refTake_any (v : Value) (bs : List Nat) (w : World) (hv : Arr w.heap.size w 1 v bs.length (bts bs)) (h8 : ∀ x ∈ bs, x < 256) :
    Calls Tryz.prog 70 #[v] w fun e w' => e = .returned (.tuple #[.int .i64 ((takeNum bs).1 : Nat), .int .i64 ((takeNum bs).2 : Nat)]) ∧ Below w.heap.size w w' := by
  obtain ⟨ao, c, rfl, hc, hm, hl, hcell⟩ := hv.open
  unfold maxLen at hm
  have HV := Lib.hid hv
  have HC := Lib.hid hcell
  clear hv hcell
  go_enter Tryz.func70, Tryz.ntmps70
  go_wp2
  go_loop [4] (fun i => ∃ (k : Nat), k ≤ bs.length ∧ k ≤ 5 ∧ i = .int .i64 k ∧ Hid (∀ x ∈ bs.take k, 128 ≤ x)) (fun i => 5 - (intOf i).toNat)
  case atStart => exact ⟨0, Nat.zero_le _, by omega, rfl, by simp [Hid]⟩
  case round =>
    obtain ⟨k, hk, hk5, rfl, H⟩ := hrel
    by_cases hkl : k < bs.length
    · obtain ⟨b, off, rfl, hb, hcells⟩ := HC.out (by omega)
      by_cases h5 : k < 5
      · have hcx : w.cell? ⟨b, off + k, none⟩ = some (.int .u8 (bs[k] : Nat)) := by rw [hcells k (by omega)]; simp [bts, hkl]
        have ht : bs.take (k + 1) = bs.take k ++ [bs[k]] := List.take_succ_eq_append_getElem hkl
        by_cases hx : 128 ≤ bs[k]
        · have H2 := Lib.hid (show ∀ x ∈ bs.take (k + 1), 128 ≤ x by
            rw [ht]; intro x hx2
            rcases List.mem_append.1 hx2 with h | h
            · exact H.out x h
            · obtain rfl := List.mem_singleton.1 h; exact hx)
          generalize bs[k] = c0 at hcx hx
          clear hcells ht
          go_wp2
          go_round
          case rel => exact ⟨k + 1, by omega, by omega, by go_num, H2.out⟩
          case measure => simp [intOf]; omega
        · have HT := Lib.hid (takeNum_some hkl h5 H.out h8 (by omega))
          have e1 : ((k : Int) = (bs.length : Int)) = False := eq_false (by omega)
          have e2 : ((k : Int) = 5) = False := eq_false (by omega)
          have e3 : ((k : Int) == (bs.length : Int)) = false := by simp; omega
          have e4 : ((k : Int) == 5) = false := by simp; omega
          have hx' := h8 _ (List.getElem_mem hkl)
          generalize bs[k] = c0 at hcx hx hx'
          have HB := Lib.hid hcells
          clear hcells ht
          go_wp2
          have hvl : val7 (bs.take (k + 1)) < 128 ^ (k + 1) := by have h := val7_lt (bs.take (k + 1)); rwa [List.length_take, Nat.min_eq_left (by omega)] at h
          go_loop [5, 6] (fun x i => ∃ (j : Nat), j ≤ k + 1 ∧ x = .int .i64 (val7 ((bs.take (k + 1)).drop j) : Nat) ∧ i = .int .i64 ((j : Int) - 1)) (fun _ i => (intOf i + 1).toNat)
          case atStart => exact ⟨k + 1, by omega, by rw [List.drop_eq_nil_of_le (by rw [List.length_take]; omega)]; rfl, by go_num⟩
          case round =>
            obtain ⟨j, hj, rfl, rfl⟩ := hrel
            by_cases hj0 : j = 0
            · subst hj0
              rw [List.drop_zero]
              generalize hV : val7 (bs.take (k + 1)) = V at HT hvl
              have HAt := Lib.hid (show Arr w.heap.size w 1 (.slice (some ⟨b, off, none⟩) (k + 1) c) (bts (bs.take (k + 1))).length (bts (bs.take (k + 1))) from by
                have h := HV.out.front (k + 1) (by omega)
                rwa [bts_length])
              have hlt : (bs.take (k + 1)).length = k + 1 := by rw [List.length_take]; omega
              generalize htt : bs.take (k + 1) = t at HT HAt hlt hV
              have ht8 := Lib.hid (show ∀ x ∈ t, x < 256 from by rw [← htt]; exact fun x hx => h8 x (List.mem_of_mem_take hx))
              clear hvl hV e1 e2 e3 e4 HB HC hcx H h8 hj hl htt
              go_wp2
              by_cases hM : V ≤ 4294967295
              · have hd : decide ((4294967295 : Int) < (V : Int)) = false := by simp; omega
                have hk1 : (k : Int) + 1 ≤ (c : Int) := by omega
                have hk2 : ((k : Int) + 1).toNat = k + 1 := by omega
                have hkw : IntKind.i64.wrap ((k : Int) + 1) = (k : Int) + 1 := by rw [IntKind.wrap_i64]; omega
                have hk3 : ((0 : Int) ≤ (k : Int) + 1) = True := eq_true (by omega)
                have hk4 : ((k : Int) + 1 ≤ (c : Int)) = True := eq_true (by omega)
                have hk0 : (0 : Int) ≤ (k : Int) + 1 := by omega
                have hcw : (convert 33 9 (.slice (some ⟨b, off, none⟩) (k + 1) c)).run Tryz.prog w.drew = .ok (.string (strB t)) w.drew := by
                  have h := HAt.out
                  rw [bts_length, hlt] at h
                  exact conv_arr (show Arr w.heap.size w.drew 1 _ _ _ from h) hlt
                have hcl := (num7_len V).1
                by_cases he : num7 V = t
                · have hse : ((strB (num7 V)).toList == (strB t).toList) = true := by rw [he]; simp
                  have hl2 : (num7 V).length = k + 1 := by rw [he]; exact hlt
                  go_region_held (fun W => (convert 33 9 (.slice (some ⟨b, off, none⟩) (k + 1) c)).run Tryz.prog W = .ok (.string (strB t)) W) (first | with_reducible exact hcw | with_reducible exact hc2) (first | (go_at_call 42; refine (refNumber_any V _ hM).mono ?_; rintro e w1 ⟨u1, rfl, ho1, hb1⟩; (try replace hb1 := Below.undrew hb1); have HB1 := Lib.hid hb1; obtain ⟨ao1, c1, rfl, -, hg1⟩ := own_open ho1; obtain ⟨g1, rfl, -, -, -⟩ := hg1 hcl; have HO1 := Lib.hid (Arr.of_owns ho1); have hc1 : (convert 33 9 (.slice (some ⟨g1, 0, none⟩) (num7 V).length c1)).run Tryz.prog w1 = .ok (.string (strB (num7 V))) w1 := conv_arr HO1.out rfl; have hc2 : (convert 33 9 (.slice (some ⟨b, off, none⟩) (k + 1) c)).run Tryz.prog w1 = .ok (.string (strB t)) w1 := (conv_arr (by have h := HAt.out.later HB1.out (Nat.le_refl _); rw [bts_length, hlt] at h; exact h) hlt); have hc3 : (convert 33 9 (.slice (some ⟨g1, 0, none⟩) (k + 1) c1)).run Tryz.prog w1 = .ok (.string (strB t)) w1 := (by rw [← he, ← hl2]; exact hc1); clear ho1 hb1 hg1))
                  go_wp2
                  go_ret2
                  refine ⟨?_, HB1.out⟩
                  rw [HT.out, if_pos ⟨hM, he⟩]
                  rfl
                · have hse : ((strB (num7 V)).toList == (strB t).toList) = false := strB_ne (fun h => he (strB_inj (num7_bytes V) ht8.out h))
                  go_region_held (fun W => (convert 33 9 (.slice (some ⟨b, off, none⟩) (k + 1) c)).run Tryz.prog W = .ok (.string (strB t)) W) (first | with_reducible exact hcw | with_reducible exact hc2) (first | (go_at_call 42; refine (refNumber_any V _ hM).mono ?_; rintro e w1 ⟨u1, rfl, ho1, hb1⟩; (try replace hb1 := Below.undrew hb1); have HB1 := Lib.hid hb1; obtain ⟨ao1, c1, rfl, -, hg1⟩ := own_open ho1; obtain ⟨g1, rfl, -, -, -⟩ := hg1 hcl; have HO1 := Lib.hid (Arr.of_owns ho1); have hc1 : (convert 33 9 (.slice (some ⟨g1, 0, none⟩) (num7 V).length c1)).run Tryz.prog w1 = .ok (.string (strB (num7 V))) w1 := conv_arr HO1.out rfl; have hc2 : (convert 33 9 (.slice (some ⟨b, off, none⟩) (k + 1) c)).run Tryz.prog w1 = .ok (.string (strB t)) w1 := (conv_arr (by have h := HAt.out.later HB1.out (Nat.le_refl _); rw [bts_length, hlt] at h; exact h) hlt); clear ho1 hb1 hg1))
                  go_wp2
                  go_ret2
                  refine ⟨?_, HB1.out⟩
                  rw [HT.out, if_neg (fun h => he h.2)]
                  rfl
              · have hd : decide ((4294967295 : Int) < (V : Int)) = true := by simp; omega
                first | (go_quiet (fail)) | (fail "quiet")
                go_wp2
                go_ret2
                refine ⟨?_, ⟨rfl, rfl, rfl, Nat.le_refl _, fun _ _ => rfl⟩⟩
                rw [HT.out, if_neg (fun h => hM h.1)]
                rfl
            · obtain ⟨m, rfl⟩ : ∃ m, j = m + 1 := ⟨j - 1, by omega⟩
              have hm : m < bs.length := by omega
              have hm2 : m < (bs.take (k + 1)).length := by rw [List.length_take]; omega
              have hcx : w.cell? ⟨b, off + m, none⟩ = some (.int .u8 (bs[m] : Nat)) := by rw [HB.out m (by omega)]; simp [bts, hm]
              have hd : val7 ((bs.take (k + 1)).drop m) = bs[m] % 128 + 128 * val7 ((bs.take (k + 1)).drop (m + 1)) := by rw [List.drop_eq_getElem_cons hm2, val7, List.getElem_take]
              have hx : bs[m] < 256 := h8 _ (List.getElem_mem _)
              have hlt := val7_lt ((bs.take (k + 1)).drop (m + 1))
              have hlt2 : val7 ((bs.take (k + 1)).drop (m + 1)) < 128 ^ 5 := Nat.lt_of_lt_of_le hlt (Nat.pow_le_pow_right (by decide) (by rw [List.length_drop, List.length_take]; omega))
              have h7 : (128 : Nat) ^ 5 = 34359738368 := by decide
              rw [h7] at hlt2
              generalize bs[m] = x at hcx hd hx
              generalize val7 ((bs.take (k + 1)).drop (m + 1)) = y at hd hlt2
              clear hlt h7 hvl
              rw [show (((m + 1 : Nat) : Int) - 1) = (m : Int) by omega]
              go_wp2
              go_round
              case rel => exact ⟨m, by omega, by rw [hd]; go_num, by go_num⟩
              case measure => simp [intOf]
      · obtain rfl : k = 5 := by omega
        go_wp2
        all_goals go_ret2
        all_goals (rw [takeNum_end hk hk5 H.out (.inr rfl)]; exact ⟨rfl, Below.refl _ _⟩)
    · obtain rfl : k = bs.length := by omega
      go_wp2
      all_goals go_ret2
      all_goals (rw [takeNum_end hk hk5 H.out (.inl rfl)]; exact ⟨rfl, Below.refl _ _⟩)
end Go.Proofs.YtjbhgimhcjcpmaaGreatDoor
