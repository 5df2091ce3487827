/-
  THE CONTRACT of twainref19.take: a number at the front, what is behind it.
-/
import Derived.Test.YtjbhgimhcjcpmaaGreatDoorMRefTakeP
import Derived.Test.YtjbhgimhcjcpmaaGreatDoorMCut
import Derived.OwnWalk
import Derived.Test.YtjbhgimhcjcpmaaGreatDoorMDecSt
set_option linter.unusedSimpArgs false
set_option linter.unusedVariables false
namespace Go.Proofs.YtjbhgimhcjcpmaaGreatDoor
open Go.RowKit

theorem below_dn {B : Nat} {w w' : World} (h : Below B w w') (n : Nat) : Below B w (w'.drewN n) := ⟨h.os, h.tape, h.output, h.size, h.block⟩

set_option maxHeartbeats 1000000 in
set_option maxRecDepth 100000 in
theorem refTk_yes (w : World) (v : Value) (bs r : List Nat) (n : Nat) (W : World) (hb : Below w.heap.size w W) (ha : Arr w.heap.size w 1 v bs.length (bts bs)) (h8 : ∀ x ∈ bs, x < 256) (hp : pNum bs = some (n, r)) :
    Calls Tryz.prog 35 #[v] W fun e W' => ∃ ao c, e = .returned (.tuple #[.int .i64 n, .slice ao r.length c, .bool true]) ∧ Arr w.heap.size w 1 (.slice ao r.length c) r.length (bts r) ∧ Below W.heap.size W W' := by
  obtain ⟨s, ht, hs0, hsl, hr, hn, hrl⟩ := pNum_some hp
  obtain ⟨ao, cc, rfl, hcc, hm, hx, hy⟩ := ha.open
  obtain ⟨b, off, rfl, hbl, _⟩ := hy (by omega)
  have HT := Lib.hid ht
  have HA := Lib.hid ha
  have HR := Lib.hid hr
  have HB := Lib.hid hb
  have H8 := Lib.hid h8
  have hrl2 : r.length = bs.length - s := by rw [hr, List.length_drop]
  have HRL := Lib.hid hrl2
  unfold maxLen at hm
  clear hx hy ha hb h8 ht hp
  have s0 : (0 : Int) < s := by omega
  have hs0' : 0 < s := by omega
  have hz : bs.length ≤ cc := hcc
  clear hs0 hr hrl hrl2
  go_enter Tryz.func35, Tryz.ntmps35
  go_upto_region 2 with (go_at_call 70; go_must (refine (refTake_any _ bs _ (HA.out.later HB.out HB.out.size) H8.out).mono ?_; rw [HT.out]; rintro e w' ⟨rfl, hb'⟩))
  have s0w : ((0 : Int) < (s : Int)) = True := eq_true s0
  go_quiet (fail)
  go_wp2_with fail
  all_goals
    go_ret3
    rw [HRL.out]
    refine ⟨_, _, rfl, ?_, below_dn hb' _⟩
    have hd := fun (a : Addr) (c' : Nat) h1 h2 => Arr.drop HA.out s hsl a c' h1 h2
    simp only [List.length_drop] at hd
    rw [HR.out]
    exact hd _ _ (by omega) (by first | exact .inl rfl | (right; omega))

set_option maxHeartbeats 1000000 in
set_option maxRecDepth 100000 in
theorem refTk_no (w : World) (v : Value) (bs : List Nat) (W : World) (hb : Below w.heap.size w W) (ha : Arr w.heap.size w 1 v bs.length (bts bs)) (h8 : ∀ x ∈ bs, x < 256) (hp : pNum bs = none) :
    Calls Tryz.prog 35 #[v] W fun e W' => ∃ ao c, e = .returned (.tuple #[.int .i64 0, .slice ao bs.length c, .bool false]) ∧ Arr w.heap.size w 1 (.slice ao bs.length c) bs.length (bts bs) ∧ Below W.heap.size W W' := by
  have hnone : ∃ ao c, v = .slice ao bs.length c ∧ (ao = none → c = 0) := by
    obtain ⟨ao, c, hv, _, _, hn, _⟩ := ha
    exact ⟨ao, c, hv, hn⟩
  obtain ⟨ao, cc, rfl, hcc, hm, hx, hy⟩ := ha.open
  have hnc : ao = none → cc = 0 := by
    obtain ⟨ao', c', hv, hn⟩ := hnone
    obtain ⟨rfl, rfl⟩ : ao = ao' ∧ cc = c' := by simpa using hv
    exact hn
  have HT := Lib.hid (pNum_none' hp)
  have HA := Lib.hid ha
  have HB := Lib.hid hb
  have H8 := Lib.hid h8
  unfold maxLen at hm
  have hz : bs.length ≤ cc := hcc
  clear hy ha hb h8 hp hx hnone
  rcases ao with _ | ⟨b, off, z⟩
  · obtain rfl : cc = 0 := hnc rfl
    obtain rfl : bs = [] := List.eq_nil_of_length_eq_zero (by omega)
    have HT2 := HT
    clear hcc hz hm hnc
    simp only [List.length_nil] at HA ⊢
    go_enter Tryz.func35, Tryz.ntmps35
    go_upto_region 2 with (go_at_call 70; go_must (refine (refTake_any _ [] _ (HA.out.later HB.out HB.out.size) H8.out).mono ?_; rw [HT2.out]; rintro e w' ⟨rfl, hb'⟩))
    go_quiet (fail)
    go_wp2_with fail
    all_goals
      go_ret3
      exact ⟨_, _, rfl, HA.out, below_dn hb' _⟩
  · go_enter Tryz.func35, Tryz.ntmps35
    go_upto_region 2 with (go_at_call 70; go_must (refine (refTake_any _ bs _ (HA.out.later HB.out HB.out.size) H8.out).mono ?_; rw [HT.out]; rintro e w' ⟨rfl, hb'⟩))
    go_quiet (fail)
    go_wp2_with fail
    all_goals
      go_ret3
      exact ⟨_, _, rfl, HA.out, below_dn hb' _⟩
end Go.Proofs.YtjbhgimhcjcpmaaGreatDoor

/-
  THE PLAIN LAW: the bytes that are read as a plan are that plan's; and the reference's way of reading, without counts, comes to the same.
-/
namespace Go.Proofs.YtjbhgimhcjcpmaaGreatDoor

theorem pNum_canon {bs r : List Nat} {n : Nat} (h : pNum bs = some (n, r)) (h8 : ∀ x ∈ bs, x < 256) : bs = num7 n ++ r := by
  obtain ⟨s, ht, hs, hsl, rfl, _, _⟩ := pNum_some h
  have hw : bs.takeWhile (fun x => decide (128 ≤ x)) ++ bs.dropWhile (fun x => decide (128 ≤ x)) = bs := List.takeWhile_append_dropWhile
  have hall : ∀ x ∈ bs.takeWhile (fun x => decide (128 ≤ x)), 128 ≤ x := fun x hx => by
    have := List.all_takeWhile (l := bs) (p := fun x => decide (128 ≤ x))
    have := List.all_eq_true.1 this x hx
    simpa using this
  have hd : ∀ c l, bs.dropWhile (fun x => decide (128 ≤ x)) = c :: l → c < 128 := fun c l e => by
    have := List.head?_dropWhile_not (fun x => decide (128 ≤ x)) bs
    rw [e] at this
    simpa using this
  generalize bs.takeWhile (fun x => decide (128 ≤ x)) = pre at hw hall
  generalize bs.dropWhile (fun x => decide (128 ≤ x)) = post at hw hd
  subst hw
  have hz : takeNum (pre ++ post) = (0, 0) → False := fun e => by rw [e] at ht; simp at ht; omega
  by_cases h5 : 5 ≤ pre.length
  · exfalso
    refine hz (takeNum_end (size := 5) (by rw [List.length_append]; omega) (Nat.le_refl _) (fun x hx => ?_) (.inr rfl))
    rw [List.take_append_of_le_length h5] at hx
    exact hall x (List.mem_of_mem_take hx)
  cases post with
  | nil =>
    exfalso
    refine hz (takeNum_end (size := pre.length) (by simp) (by omega) (fun x hx => ?_) (.inl (by simp)))
    simp at hx
    exact hall x hx
  | cons c l =>
    have hc := hd c l rfl
    have h1 := takeNum_some (bs := pre ++ c :: l) (size := pre.length) (by simp) (by omega) (fun x hx => by simp at hx; exact hall x hx) h8 (by simpa using hc)
    rw [ht] at h1
    split at h1
    · rename_i h2
      obtain ⟨rfl, rfl⟩ : n = _ ∧ s = pre.length + 1 := by simpa using h1
      rw [h2.2, List.take_append_drop]
    · exfalso; simp at h1; omega
theorem pNum_rest8 {l r : List Nat} {n : Nat} (h : pNum l = some (n, r)) (hl : ∀ x ∈ l, x < 256) : ∀ x ∈ r, x < 256 := fun x hx => by
  obtain ⟨s, _, _, _, rfl, _⟩ := pNum_some h; exact hl x (List.mem_of_mem_drop hx)
theorem rest8 {l a r : List Nat} (e : l = a ++ r) (hl : ∀ x ∈ l, x < 256) : ∀ x ∈ r, x < 256 := fun x hx => hl x (by rw [e]; simp [hx])

/-- So many numbers, by their bytes. -/
theorem pNums_canon : ∀ {n : Nat} {bs r : List Nat} {s : List Int}, pNums n bs = some (s, r) → (∀ x ∈ bs, x < 256) → bs = dimBytes s ++ r ∧ s.length = n
  | 0, bs, r, s, h, _ => by
    simp only [pNums, Option.some.injEq, Prod.mk.injEq] at h
    obtain ⟨rfl, rfl⟩ := h; exact ⟨by simp [dimBytes], rfl⟩
  | n + 1, bs, r, s, h, h8 => by
    rw [pNums] at h
    rcases h1 : pNum bs with _ | ⟨m, r1⟩
    · rw [h1] at h; cases h
    rw [h1, Option.bind_some] at h
    simp only at h
    rcases h2 : pNums n r1 with _ | ⟨s2, r2⟩
    · rw [h2] at h; cases h
    rw [h2, Option.bind_some] at h
    simp only [Option.some.injEq, Prod.mk.injEq] at h
    obtain ⟨rfl, rfl⟩ := h
    have e1 := pNum_canon h1 h8
    have e2 := pNums_canon h2 (pNum_rest8 h1 h8)
    refine ⟨?_, by rw [List.length_cons, e2.2]⟩
    rw [e1, e2.1]; simp [dimBytes]
/-- Without counts. -/
def rShape (bs : List Nat) : Option (List Int × List Nat) := (pNum bs).bind fun x => pNums x.1 x.2
def rShapeN : Nat → List Nat → Option (List (List Int) × List Nat)
  | 0, bs => some ([], bs)
  | n + 1, bs => (rShape bs).bind fun x => (rShapeN n x.2).bind fun y => some (x.1 :: y.1, y.2)
def rShapes (bs : List Nat) : Option (List (List Int) × List Nat) := (pNum bs).bind fun x => rShapeN x.1 x.2

theorem pNums_many : ∀ {n : Nat} {bs : List Nat}, bs.length < n → pNums n bs = none
  | 0, _, h => by omega
  | n + 1, bs, h => by
    rw [pNums]
    rcases h1 : pNum bs with _ | ⟨m, r1⟩
    · rfl
    obtain ⟨_, _, _, _, _, _, h2⟩ := pNum_some h1
    rw [Option.bind_some]
    simp only
    rw [pNums_many (by omega)]; rfl
theorem rShape_eq (bs : List Nat) : rShape bs = pShape bs := by
  rw [rShape, pShape, pCount]
  rcases pNum bs with _ | ⟨m, r1⟩
  · rfl
  rw [Option.bind_some, Option.bind_some]
  by_cases h : r1.length < m
  · rw [if_pos h, pNums_many h]; rfl
  · rw [if_neg h]; rfl
theorem pShape_less {bs r : List Nat} {s : List Int} (h : pShape bs = some (s, r)) (h8 : ∀ x ∈ bs, x < 256) : bs = oneShape s ++ r := by
  rw [← rShape_eq, rShape] at h
  rcases h1 : pNum bs with _ | ⟨m, r1⟩
  · rw [h1] at h; cases h
  rw [h1, Option.bind_some] at h
  have e1 := pNum_canon h1 h8
  have e2 := pNums_canon h (pNum_rest8 h1 h8)
  simp only at e2
  rw [e1, e2.1, oneShape, e2.2, List.append_assoc]
theorem pNums_le : ∀ {n : Nat} {bs r : List Nat} {s : List Int}, pNums n bs = some (s, r) → r.length ≤ bs.length
  | 0, bs, r, s, h => by
    simp only [pNums, Option.some.injEq, Prod.mk.injEq] at h
    rw [h.2]; exact Nat.le_refl _
  | n + 1, bs, r, s, h => by
    rw [pNums] at h
    rcases h1 : pNum bs with _ | ⟨m, r1⟩
    · rw [h1] at h; cases h
    rw [h1, Option.bind_some] at h
    simp only at h
    rcases h2 : pNums n r1 with _ | ⟨s2, r2⟩
    · rw [h2] at h; cases h
    rw [h2, Option.bind_some] at h
    simp only [Option.some.injEq, Prod.mk.injEq] at h
    obtain ⟨_, _, _, _, _, _, h3⟩ := pNum_some h1
    have := pNums_le h2
    rw [← h.2]; omega
theorem rShape_lt {bs r : List Nat} {s : List Int} (h : rShape bs = some (s, r)) : r.length < bs.length := by
  rw [rShape] at h
  rcases h1 : pNum bs with _ | ⟨m, r1⟩
  · rw [h1] at h; cases h
  rw [h1, Option.bind_some] at h
  obtain ⟨_, _, _, _, _, _, h3⟩ := pNum_some h1
  have := pNums_le h
  simp only at this; omega
theorem rShapeN_many : ∀ {n : Nat} {bs : List Nat}, bs.length < n → rShapeN n bs = none
  | 0, _, h => by omega
  | n + 1, bs, h => by
    rw [rShapeN]
    rcases h1 : rShape bs with _ | ⟨m, r1⟩
    · rfl
    have h2 := rShape_lt h1
    rw [Option.bind_some]
    simp only
    rw [rShapeN_many (by omega)]; rfl
theorem rShapeN_eq : ∀ (n : Nat) (bs : List Nat), rShapeN n bs = pShapeN n bs
  | 0, _ => rfl
  | n + 1, bs => by
    rw [rShapeN, pShapeN, rShape_eq]
    congr 1
    funext x
    rw [rShapeN_eq n x.2]
theorem rShapes_eq (bs : List Nat) : rShapes bs = pShapes bs := by
  rw [rShapes, pShapes, pCount]
  rcases pNum bs with _ | ⟨m, r1⟩
  · rfl
  rw [Option.bind_some, Option.bind_some]
  by_cases h : r1.length < m
  · rw [if_pos h, rShapeN_many h]; rfl
  · rw [if_neg h, Option.bind_some, rShapeN_eq]
theorem pShapeN_canon : ∀ {n : Nat} {bs r : List Nat} {l : List (List Int)}, pShapeN n bs = some (l, r) → (∀ x ∈ bs, x < 256) → bs = l.flatMap oneShape ++ r
  | 0, bs, r, l, h, _ => by
    simp only [pShapeN, Option.some.injEq, Prod.mk.injEq] at h
    obtain ⟨rfl, rfl⟩ := h; simp
  | n + 1, bs, r, l, h, h8 => by
    rw [pShapeN] at h
    rcases h1 : pShape bs with _ | ⟨s, r1⟩
    · rw [h1] at h; cases h
    rw [h1, Option.bind_some] at h
    simp only at h
    rcases h2 : pShapeN n r1 with _ | ⟨l2, r2⟩
    · rw [h2] at h; cases h
    rw [h2, Option.bind_some] at h
    simp only [Option.some.injEq, Prod.mk.injEq] at h
    obtain ⟨rfl, rfl⟩ := h
    have e1 := pShape_less h1 h8
    have e2 := pShapeN_canon h2 (rest8 e1 h8)
    rw [e1, e2]; simp
theorem pShapes_canon {bs r : List Nat} {l : List (List Int)} (h : pShapes bs = some (l, r)) (h8 : ∀ x ∈ bs, x < 256) : bs = shBytes l ++ r := by
  rw [pShapes] at h
  rcases h1 : pCount bs with _ | ⟨m, r1⟩
  · rw [h1] at h; cases h
  rw [h1, Option.bind_some] at h
  simp only at h
  have hn := (pCount_some h1).1
  have e1 := pNum_canon hn h8
  have e2 := pShapeN_canon h (pNum_rest8 hn h8)
  rw [e1, e2, shBytes, pShapeN_len h, List.append_assoc]
theorem le8_wh8 (l : List Nat) (h : l.length = 8) (h8 : ∀ x ∈ l, x < 256) : le8 (wh8 l) = l := by
  match l, h with
  | [a, b, c, d, e, f, g, i], _ =>
    have ha := h8 a (by simp)
    have hb := h8 b (by simp)
    have hc := h8 c (by simp)
    have hd := h8 d (by simp)
    have he := h8 e (by simp)
    have hf := h8 f (by simp)
    have hg := h8 g (by simp)
    have hi := h8 i (by simp)
    have e1 : ∀ c, le8 c = [c % 256, c / 256 % 256, c / 65536 % 256, c / 16777216 % 256, c / 4294967296 % 256, c / 1099511627776 % 256, c / 281474976710656 % 256, c / 72057594037927936 % 256] := by
      intro c; simp [le8, List.range, List.range.loop]
    rw [e1]
    simp only [wh8, List.cons.injEq, and_true]
    refine ⟨?_, ?_, ?_, ?_, ?_, ?_, ?_, ?_⟩ <;> omega
theorem pOp_canon {bs r : List Nat} {o : MOp} (h : pOp bs = some (o, r)) (hb : ∀ x ∈ bs, x < 256) : bs = opBytes o ++ r := by
  unfold pOp at h
  rcases h1 : pNum bs with _ | ⟨n1, r1⟩
  · rw [h1] at h; cases h
  rw [h1, Option.bind_some] at h
  simp only at h
  rcases h2 : pNum r1 with _ | ⟨n2, r2⟩
  · rw [h2] at h; cases h
  rw [h2, Option.bind_some] at h
  simp only at h
  rcases h3 : pNum r2 with _ | ⟨n3, r3⟩
  · rw [h3] at h; cases h
  rw [h3, Option.bind_some] at h
  simp only at h
  rcases h4 : pNum r3 with _ | ⟨n4, r4⟩
  · rw [h4] at h; cases h
  rw [h4, Option.bind_some] at h
  simp only at h
  rcases h5 : pNum r4 with _ | ⟨n5, r5⟩
  · rw [h5] at h; cases h
  rw [h5, Option.bind_some] at h
  simp only at h
  split at h
  · cases h
  · simp only [Option.some.injEq, Prod.mk.injEq] at h
    obtain ⟨rfl, rfl⟩ := h
    have b1 := pNum_rest8 h1 hb
    have b2 := pNum_rest8 h2 b1
    have b3 := pNum_rest8 h3 b2
    have b4 := pNum_rest8 h4 b3
    have b5 := pNum_rest8 h5 b4
    have e1 := pNum_canon h1 hb
    have e2 := pNum_canon h2 b1
    have e3 := pNum_canon h3 b2
    have e4 := pNum_canon h4 b3
    have e5 := pNum_canon h5 b4
    have e6 := le8_wh8 (r5.take 8) (by rw [List.length_take]; omega) fun x hx => b5 x (List.mem_of_mem_take hx)
    simp only [opBytes, opNums, Int.toNat_natCast, e6, List.append_assoc, List.take_append_drop]
    rw [e1, e2, e3, e4, e5]
theorem pOp_lt {bs r : List Nat} {o : MOp} (h : pOp bs = some (o, r)) : r.length < bs.length := by
  unfold pOp at h
  rcases h1 : pNum bs with _ | ⟨n1, r1⟩
  · rw [h1] at h; cases h
  rw [h1, Option.bind_some] at h
  simp only at h
  rcases h2 : pNum r1 with _ | ⟨n2, r2⟩
  · rw [h2] at h; cases h
  rw [h2, Option.bind_some] at h
  simp only at h
  rcases h3 : pNum r2 with _ | ⟨n3, r3⟩
  · rw [h3] at h; cases h
  rw [h3, Option.bind_some] at h
  simp only at h
  rcases h4 : pNum r3 with _ | ⟨n4, r4⟩
  · rw [h4] at h; cases h
  rw [h4, Option.bind_some] at h
  simp only at h
  rcases h5 : pNum r4 with _ | ⟨n5, r5⟩
  · rw [h5] at h; cases h
  rw [h5, Option.bind_some] at h
  simp only at h
  split at h
  · cases h
  · simp only [Option.some.injEq, Prod.mk.injEq] at h
    obtain ⟨rfl, rfl⟩ := h
    obtain ⟨_, _, _, _, _, _, q1⟩ := pNum_some h1
    obtain ⟨_, _, _, _, _, _, q2⟩ := pNum_some h2
    obtain ⟨_, _, _, _, _, _, q3⟩ := pNum_some h3
    obtain ⟨_, _, _, _, _, _, q4⟩ := pNum_some h4
    obtain ⟨_, _, _, _, _, _, q5⟩ := pNum_some h5
    rw [List.length_drop]; omega
theorem pOps_many : ∀ {n : Nat} {bs : List Nat}, bs.length < n → pOps n bs = none
  | 0, _, h => by omega
  | n + 1, bs, h => by
    rw [pOps]
    rcases h1 : pOp bs with _ | ⟨m, r1⟩
    · rfl
    have h2 := pOp_lt h1
    rw [Option.bind_some]
    simp only
    rw [pOps_many (by omega)]; rfl
theorem pOps_canon : ∀ {n : Nat} {bs r : List Nat} {l : List MOp}, pOps n bs = some (l, r) → (∀ x ∈ bs, x < 256) → bs = l.flatMap opBytes ++ r ∧ l.length = n ∧ ∀ o ∈ l, o.c < 18446744073709551616
  | 0, bs, r, l, h, _ => by
    simp only [pOps, Option.some.injEq, Prod.mk.injEq] at h
    obtain ⟨rfl, rfl⟩ := h; simp
  | n + 1, bs, r, l, h, h8 => by
    rw [pOps] at h
    rcases h1 : pOp bs with _ | ⟨o, r1⟩
    · rw [h1] at h; cases h
    rw [h1, Option.bind_some] at h
    simp only at h
    rcases h2 : pOps n r1 with _ | ⟨l2, r2⟩
    · rw [h2] at h; cases h
    rw [h2, Option.bind_some] at h
    simp only [Option.some.injEq, Prod.mk.injEq] at h
    obtain ⟨rfl, rfl⟩ := h
    have e1 := pOp_canon h1 h8
    have e2 := pOps_canon h2 (rest8 e1 h8)
    refine ⟨by rw [e1, e2.1]; simp, by rw [List.length_cons, e2.2.1], fun q hq => ?_⟩
    rcases List.mem_cons.1 hq with rfl | hq
    · exact pOp_c h1 h8
    · exact e2.2.2 q hq
/-- The lists, the way the reference reads them. -/
def rPlan (bs : List Nat) : Option ((List MOp × Int × Int × List (List Int) × List (List Int) × List (List Int)) × List Nat) :=
  (pNum bs).bind fun a => (pNum a.2).bind fun b => (rShapes b.2).bind fun c => (rShapes c.2).bind fun d => (rShapes d.2).bind fun e => (pNum e.2).bind fun n => (pOps n.1 n.2).bind fun o =>
    some ((o.1, a.1, b.1, c.1, d.1, e.1), o.2)
theorem rPlan_eq (bs : List Nat) : pPlan bs = (rPlan bs).bind fun x => some (mkPlan x.1.1 x.1.2.1 x.1.2.2.1 x.1.2.2.2.1 x.1.2.2.2.2.1 x.1.2.2.2.2.2, x.2) := by
  rw [pPlan, rPlan]
  rcases pNum bs with _ | ⟨a, ra⟩
  · rfl
  simp only [Option.bind_some]
  rcases pNum ra with _ | ⟨b, rb⟩
  · rfl
  simp only [Option.bind_some, rShapes_eq]
  rcases pShapes rb with _ | ⟨c, rc⟩
  · rfl
  simp only [Option.bind_some]
  rcases pShapes rc with _ | ⟨d, rd⟩
  · rfl
  simp only [Option.bind_some]
  rcases pShapes rd with _ | ⟨e, re⟩
  · rfl
  simp only [Option.bind_some, pCount]
  rcases pNum re with _ | ⟨n, rn⟩
  · rfl
  simp only [Option.bind_some]
  by_cases h : rn.length < n
  · rw [if_pos h, pOps_many h]; rfl
  · rw [if_neg h]
    simp only [Option.bind_some]
    rcases pOps n rn with _ | ⟨o, ro⟩ <;> rfl
theorem pPlan_canon {bs r : List Nat} {p : MPlan} (h : pPlan bs = some (p, r)) (h8 : ∀ x ∈ bs, x < 256) : [84, 87, 78, 1] ++ bs = planBytes p ++ r ∧ ∀ o ∈ p.ops, o.c < 18446744073709551616 := by
  rw [pPlan] at h
  rcases h1 : pNum bs with _ | ⟨a, ra⟩
  · rw [h1] at h; cases h
  rw [h1, Option.bind_some] at h
  simp only at h
  rcases h2 : pNum ra with _ | ⟨b, rb⟩
  · rw [h2] at h; cases h
  rw [h2, Option.bind_some] at h
  simp only at h
  rcases h3 : pShapes rb with _ | ⟨c, rc⟩
  · rw [h3] at h; cases h
  rw [h3, Option.bind_some] at h
  simp only at h
  rcases h4 : pShapes rc with _ | ⟨d, rd⟩
  · rw [h4] at h; cases h
  rw [h4, Option.bind_some] at h
  simp only at h
  rcases h5 : pShapes rd with _ | ⟨e, re⟩
  · rw [h5] at h; cases h
  rw [h5, Option.bind_some] at h
  simp only at h
  rcases h6 : pCount re with _ | ⟨n, rn⟩
  · rw [h6] at h; cases h
  rw [h6, Option.bind_some] at h
  simp only at h
  rcases h7 : pOps n rn with _ | ⟨o, ro⟩
  · rw [h7] at h; cases h
  rw [h7, Option.bind_some] at h
  simp only [Option.some.injEq, Prod.mk.injEq] at h
  obtain ⟨rfl, rfl⟩ := h
  have h6 := (pCount_some h6).1
  have e1 := pNum_canon h1 h8
  have b1 := rest8 e1 h8
  have e2 := pNum_canon h2 b1
  have b2 := rest8 e2 b1
  have e3 := pShapes_canon h3 b2
  have b3 := rest8 e3 b2
  have e4 := pShapes_canon h4 b3
  have b4 := rest8 e4 b3
  have e5 := pShapes_canon h5 b4
  have b5 := rest8 e5 b4
  have e6 := pNum_canon h6 b5
  have b6 := rest8 e6 b5
  have e7 := pOps_canon h7 b6
  refine ⟨?_, e7.2.2⟩
  rw [e1, e2, e3, e4, e5, e6, e7.1]
  simp [planBytes, headBytes, flat, mkPlan, e7.2.1]
/-- What is read is good, and was written so. -/
theorem mDecode_some {bs : List Nat} {p : MPlan} (h : mDecode bs = some p) (h8 : ∀ x ∈ bs, x < 256) : mGood p = true ∧ planBytes p = bs ∧ ∀ o ∈ p.ops, o.c < 18446744073709551616 := by
  unfold mDecode at h
  split at h
  · rename_i h4
    rcases h1 : pPlan (bs.drop 4) with _ | ⟨q, r⟩
    · rw [h1] at h; cases h
    rw [h1, Option.bind_some] at h
    simp only at h
    split at h
    · rename_i hg
      obtain rfl := Option.some.inj h
      obtain ⟨hg, rfl⟩ := hg
      have e := pPlan_canon h1 fun x hx => h8 x (List.mem_of_mem_drop hx)
      refine ⟨hg, ?_, e.2⟩
      rw [← h4, List.take_append_drop, List.append_nil] at e
      exact e.1.symm
    · cases h
  · cases h
end Go.Proofs.YtjbhgimhcjcpmaaGreatDoor

/-
  THE CONTRACT of twainref19.list: shapes at the front, what is behind them.
-/
namespace Go.Proofs.YtjbhgimhcjcpmaaGreatDoor
open Go.RowKit

/-- What a list's reading comes to. -/
def ListPost (w W : World) (bs : List Nat) (e : Ending) (W' : World) : Prop :=
  Below W.heap.size W W' ∧ match pShapes bs with
    | some (l, r) => ∃ xo xc ao c, e = .returned (.tuple #[.slice xo l.length xc, .slice ao r.length c, .bool true]) ∧ OwnSh W.heap.size W' (.slice xo l.length xc) l ∧ Arr w.heap.size w 1 (.slice ao r.length c) r.length (bts r) ∧ (∀ x ∈ r, x < 256) ∧ r.length ≤ bs.length
    | none => ∃ xo n xc ao m c, e = .returned (.tuple #[.slice xo n xc, .slice ao m c, .bool false])

theorem below_grown {W0 W W' : World} {B : Nat} {t : TypeId} {k : Nat} {v : Value} {n : Nat} {xs : List Value} (h : Below W0.heap.size W0 W) (ho : W.ownsRow B t k v n xs) (hB : W0.heap.size ≤ B) (hg : W.grownBy W' v.ownBlock) : Below W0.heap.size W0 W' :=
  h.grown hg h.size fun k hk => Nat.le_trans hB (ho.lt k hk).1

set_option maxHeartbeats 8000000 in
set_option maxRecDepth 100000 in
theorem refList_any (w : World) (v : Value) (bs : List Nat) (W : World) (hb : Below w.heap.size w W) (ha : Arr w.heap.size w 1 v bs.length (bts bs)) (h8 : ∀ x ∈ bs, x < 256) (hl : bs.length ≤ 1000000) :
    Calls Tryz.prog 36 #[v] W (ListPost w W bs) := by
  obtain ⟨ao0, cc0, rfl, _⟩ := ha.open
  have HB := Lib.hid hb
  have HA := Lib.hid ha
  have H8 := Lib.hid h8
  obtain ⟨R, hR⟩ : ∃ R, pShapes bs = R := ⟨_, rfl⟩
  have HR := Lib.hid hR
  have HR2 := Lib.hid (show rShapes bs = R by rw [rShapes_eq, hR])
  unfold ListPost
  rw [hR]
  rcases hp : pNum bs with _ | ⟨n, r0⟩
  · have HN := Lib.hid hp
    obtain rfl : R = none := by rw [← HR2.out, rShapes, hp]; rfl
    clear hb ha h8 hp hR
    go_enter Tryz.func36, Tryz.ntmps36
    go_wp2_with (go_at_call 35; go_must (refine (refTk_no w _ bs _ HB.out HA.out H8.out HN.out).mono ?_; rintro e w1 ⟨ao1, c1, rfl, ha1, hb1⟩; have HB1 := Lib.hid hb1; clear ha1 hb1))
    refine wp_loop_rounds 1 ?_
    rw [rounds_succ]
    go_wp2_with fail
    go_ret3
    exact ⟨HB1.out, _, _, _, _, _, _, rfl⟩
  · have HN := Lib.hid hp
    have hn4 := (pNum_some hp).choose_spec.2.2.2.2.1
    have hrl := (pNum_some hp).choose_spec.2.2.2.2.2
    have H80 := Lib.hid (pNum_rest8 hp h8)
    have HS := Lib.hid (show R = rShapeN n r0 by rw [← HR2.out, rShapes, hp]; rfl)
    clear hb ha h8 hp hR
    go_enter Tryz.func36, Tryz.ntmps36
    go_wp2_with (go_at_call 35; go_must (refine (refTk_yes w _ bs r0 n _ HB.out HA.out H8.out HN.out).mono ?_; rintro e w1 ⟨ao1, c1, rfl, ha1, hb1⟩; have HB1 := Lib.hid hb1; have HA1 := Lib.hid ha1; clear ha1 hb1))
    go_loopg [0, 6, 7, 8] n (fun g bv okv x i wr => ∃ k : Nat, k ≤ n ∧ g = n - k ∧ i = .int .i64 k ∧ Hid (Below W.heap.size W wr) ∧
      ((∃ (pre : List (List Int)) (rest : List Nat) (ao : Option Addr) (c xc : Nat) (xo : Option Addr), okv = .bool true ∧ bv = .slice ao rest.length c ∧ x = .slice xo pre.length xc ∧ Hid (R = (rShapeN (n - k) rest).map fun y => (pre ++ y.1, y.2)) ∧ Hid (pre.length = k) ∧ Hid (OwnSh W.heap.size wr x pre) ∧ Hid (Arr w.heap.size w 1 bv rest.length (bts rest)) ∧ Hid (∀ x ∈ rest, x < 256) ∧ k + rest.length ≤ bs.length) ∨
       (∃ (ao xo : Option Addr) (m c xn xc : Nat), okv = .bool false ∧ bv = .slice ao m c ∧ x = .slice xo xn xc ∧ Hid (R = none))))
    case atStart => exact ⟨0, Nat.zero_le _, rfl, rfl, HB1.out, .inl ⟨[], r0, ao1, c1, 0, none, rfl, rfl, rfl, (by unfold Hid; rw [HS.out, Nat.sub_zero]; rcases rShapeN n r0 with _ | y <;> simp), rfl, OwnSh.nil _ _, HA1.out, H80.out, by omega⟩⟩
    case round =>
      obtain ⟨k, hk, hg, rfl, HBr, hcase⟩ := hrel
      clear HA1 HB1
      rcases hcase with ⟨pre, rest, ao, c, xc, xo, rfl, rfl, rfl, HP, HL, HO, HAr, H8r, hkr⟩ | ⟨ao, xo, m, c, xn, xc, rfl, rfl, rfl, hRn⟩
      rotate_left
      · have HRn := Lib.hid hRn.out
        obtain rfl : R = none := HRn.out
        by_cases hkn : k < n
        all_goals
          go_wp2_with fail
          go_ret3
          exact ⟨HBr.out, _, _, _, _, _, _, rfl⟩
      by_cases hkn : k < n
      · obtain ⟨q, hq⟩ : ∃ q, n - k = q + 1 := ⟨n - k - 1, by omega⟩
        have HQ := Lib.hid hq
        clear hq
        have HBw := Lib.hid (HB.out.trans (HBr.out.mono HB.out.size))
        rcases hp2 : pNum rest with _ | ⟨m, r1⟩
        · have HN2 := Lib.hid hp2
          have HRn := Lib.hid (show R = none by
            have h1 := HP.out
            rw [HQ.out, rShapeN, rShape, hp2] at h1
            exact h1)
          clear hp2
          go_wp2_with (go_at_call 35; go_must (refine (refTk_no w _ rest _ HBw.out HAr.out H8r.out HN2.out).mono ?_; rintro e w2 ⟨ao2, c2, rfl, ha2, hb2⟩; have HB2 := Lib.hid (HBr.out.trans (hb2.mono HBr.out.size)); obtain ⟨vs, hvo, hvn⟩ := HO.out.kept (below_off hb2) (Off.none _ _ _) (Off.none _ _ _); clear ha2 hb2))
          refine wp_loop_rounds 1 ?_
          rw [rounds_succ]
          have hvl : vs.length ≤ 1000000 := by have := hvn.length; have := HL.out; omega
          have hvl2 : vs.length = pre.length := hvn.length
          rw [← hvl2]
          rw [← hvl2] at hvo
          have hsz2 := HB2.out.size
          clear hvn hvl2
          go_wp2_with (at_builtin; refine app_k rfl _ _ 27 rfl 24 (.slice none 0 0) 1 24 Tryz.underlying27 info_ints rfl (by decide) #[_] _ _ _ _ hvo rfl rfl rfl (by intro u hu; simp at hu; subst hu; rfl) hsz2 (by omega) (by unfold maxLen; omega) ?_; intro v5 w5 ho5 hg5 _; obtain ⟨a5, c5, rfl, _⟩ := own_open ho5)
          go_roundg (n - (k + 1))
          case measure => omega
          case rel => exact ⟨k + 1, by omega, rfl, by go_num, below_grown HB2.out hvo (Nat.le_refl _) hg5, .inr ⟨_, _, _, _, _, _, rfl, rfl, rfl, HRn.out⟩⟩
        · have HN2 := Lib.hid hp2
          have hr1l := (pNum_some hp2).choose_spec.2.2.2.2.2
          have H81 := Lib.hid (pNum_rest8 hp2 H8r.out)
          have HSh := Lib.hid (show rShape rest = pNums m r1 by rw [rShape, hp2]; rfl)
          clear hp2
          go_wp2_with (go_at_call 35; go_must (refine (refTk_yes w _ rest r1 m _ HBw.out HAr.out H8r.out HN2.out).mono ?_; rintro e w2 ⟨ao2, c2, rfl, ha2, hb2⟩; have HB2 := Lib.hid (HBr.out.trans (hb2.mono HBr.out.size)); have HBw2 := Lib.hid (HBw.out.trans (hb2.mono HBw.out.size)); have HO2 := Lib.hid (HO.out.kept (below_off hb2) (Off.none _ _ _) (Off.none _ _ _)); have HA2 := Lib.hid ha2; clear ha2 hb2))
          have hsz2 := HB2.out.size
          go_loopg [0, 6, 10, 11] m (fun g bv okv x i wq => ∃ j : Nat, j ≤ m ∧ g = m - j ∧ i = .int .i64 j ∧ Hid (Below w2.heap.size w2 wq) ∧
            ((∃ (pr2 : List Int) (rest2 : List Nat) (ao : Option Addr) (c : Nat), okv = .bool true ∧ bv = .slice ao rest2.length c ∧ Hid (pNums m r1 = (pNums (m - j) rest2).map fun y => (pr2 ++ y.1, y.2)) ∧ Hid (pr2.length = j) ∧ Hid (wq.ownsRow w2.heap.size 3 1 x j (ints pr2)) ∧ Hid (Arr w.heap.size w 1 bv rest2.length (bts rest2)) ∧ Hid (∀ x ∈ rest2, x < 256) ∧ j + rest2.length ≤ rest.length ∧ rest2.length < rest.length) ∨
             (∃ (ao xo : Option Addr) (p c xn xc : Nat), okv = .bool false ∧ bv = .slice ao p c ∧ x = .slice xo xn xc ∧ Hid (R = none))))
          case atStart => exact ⟨0, Nat.zero_le _, rfl, rfl, Below.refl _ _, .inl ⟨[], r1, ao2, c2, rfl, rfl, (by unfold Hid; rw [Nat.sub_zero]; rcases pNums m r1 with _ | y <;> simp), rfl, World.ownsRow_nil _ _ _ _, HA2.out, H81.out, by omega, by omega⟩⟩
          case round =>
            obtain ⟨j, hj, hg2, rfl, HBq, hcase⟩ := hrel
            have hszq := HBq.out.size
            rcases hcase with ⟨pr2, rest2, ao3, c3, rfl, rfl, HP2, HL2, HOq, HAq, H8q, hjr, hjr2⟩ | ⟨ao3, xo3, p3, c3, xn3, xc3, rfl, rfl, rfl, hRn⟩
            rotate_left
            · obtain ⟨vs, hvo, hvn⟩ := HO2.out.kept (below_off HBq.out) (Off.none _ _ _) (Off.none _ _ _)
              have hvl : vs.length ≤ 1000000 := by have := hvn.length; have := HL.out; omega
              have hvl2 : vs.length = pre.length := hvn.length
              rw [← hvl2]
              rw [← hvl2] at hvo
              have HBz := Lib.hid (HB2.out.trans (HBq.out.mono HB2.out.size))
              have hsz4 := HBz.out.size
              clear hvn hvl2
              by_cases hjm : j < m
              all_goals
                go_wp2_with (at_builtin; refine app_k rfl _ _ 27 rfl 24 (.slice none 0 0) 1 24 Tryz.underlying27 info_ints rfl (by decide) #[_] _ _ _ _ hvo rfl rfl rfl (by intro u hu; simp at hu; subst hu; rfl) hsz4 (by omega) (by unfold maxLen; omega) ?_; intro v5 w5 ho5 hg5 _; obtain ⟨a5, c5, rfl, _⟩ := own_open ho5)
                go_roundg (n - (k + 1))
                case measure => omega
                case rel => exact ⟨k + 1, by omega, rfl, by go_num, below_grown HBz.out hvo (Nat.le_refl _) hg5, .inr ⟨_, _, _, _, _, _, rfl, rfl, rfl, hRn.out⟩⟩
            have HBv := Lib.hid (HBw2.out.trans (HBq.out.mono HBw2.out.size))
            by_cases hjm : j < m
            · obtain ⟨q2, hq2⟩ : ∃ q2, m - j = q2 + 1 := ⟨m - j - 1, by omega⟩
              have HQ2 := Lib.hid hq2
              clear hq2
              rcases hp3 : pNum rest2 with _ | ⟨d, r2⟩
              · have HN3 := Lib.hid hp3
                have HRn := Lib.hid (show R = none by
                  have h1 := HP.out
                  rw [HQ.out, rShapeN] at h1
                  have h2 := HP2.out
                  rw [HQ2.out] at h2
                  rw [HSh.out, pNums_none h2 hp3] at h1
                  exact h1)
                clear hp3
                go_wp2_with (first | (go_at_call 35; go_must (refine (refTk_no w _ rest2 _ HBv.out HAq.out H8q.out HN3.out).mono ?_; rintro e w3 ⟨ao4, c4, rfl, ha4, hb4⟩; have HB4 := Lib.hid (HBq.out.trans (hb4.mono HBq.out.size)); have ho3 := Below.owns HOq.out hb4; have hs3 := HB4.out.size; clear ha4 hb4)) | (at_builtin; refine app_k rfl _ _ 24 rfl 3 (.int .i64 0) 1 8 Tryz.underlying24 info_int rfl (by decide) #[_] _ _ _ _ ho3 rfl rfl rfl (by intro u hu; simp at hu; subst hu; rfl) hs3 (by omega) (by unfold maxLen; omega) ?_; intro v4 w4 ho4 hg4 _; obtain ⟨a4, c4, rfl, _⟩ := own_open ho4))
                go_roundg (m - (j + 1))
                case measure => omega
                case rel => exact ⟨j + 1, by omega, rfl, by go_num, below_grown HB4.out ho3 (Nat.le_refl _) hg4, .inr ⟨_, _, _, _, _, _, rfl, rfl, rfl, HRn.out⟩⟩
              · have HN3 := Lib.hid hp3
                have hr2l := (pNum_some hp3).choose_spec.2.2.2.2.2
                have H82 := Lib.hid (pNum_rest8 hp3 H8q.out)
                have HP3 := Lib.hid (show pNums m r1 = (pNums (m - (j + 1)) r2).map fun y => (pr2 ++ [(d : Int)] ++ y.1, y.2) by
                  have h2 := HP2.out
                  rw [HQ2.out] at h2
                  have := pNums_some h2 hp3
                  rw [show m - (j + 1) = q2 by have := HQ2.out; omega]; exact this)
                clear hp3
                go_wp2_with (first | (go_at_call 35; go_must (refine (refTk_yes w _ rest2 r2 d _ HBv.out HAq.out H8q.out HN3.out).mono ?_; rintro e w3 ⟨ao4, c4, rfl, ha4, hb4⟩; have HB4 := Lib.hid (HBq.out.trans (hb4.mono HBq.out.size)); have ho3 := Below.owns HOq.out hb4; have hs3 := HB4.out.size; have HA4 := Lib.hid ha4; clear ha4 hb4)) | (at_builtin; refine app_k rfl _ _ 24 rfl 3 (.int .i64 0) 1 8 Tryz.underlying24 info_int rfl (by decide) #[_] _ _ _ _ ho3 rfl rfl rfl (by intro u hu; simp at hu; subst hu; rfl) hs3 (by omega) (by unfold maxLen; omega) ?_; intro v4 w4 ho4 hg4 _))
                go_roundg (m - (j + 1))
                case measure => omega
                case rel =>
                  refine ⟨j + 1, by omega, rfl, by go_num, below_grown HB4.out ho3 (Nat.le_refl _) hg4, .inl ⟨pr2 ++ [(d : Int)], r2, _, _, rfl, rfl, HP3.out, (by unfold Hid; simp [HL2.out]), ?_, HA4.out, H82.out, by omega, by omega⟩⟩
                  rw [ints_append]; exact ho4
            · obtain rfl : j = m := by omega
              have HSh2 := Lib.hid (show rShape rest = some (pr2, rest2) by
                have h2 := HP2.out
                rw [Nat.sub_self] at h2
                rw [HSh.out, h2]; simp [pNums])
              have HP3 := Lib.hid (show R = (rShapeN (n - (k + 1)) rest2).map fun y => (pre ++ [pr2] ++ y.1, y.2) by
                have h1 := HP.out
                rw [HQ.out, rShapeN, HSh2.out, Option.bind_some] at h1
                rw [show n - (k + 1) = q by have := HQ.out; omega, h1]
                simp only
                rcases rShapeN q rest2 with _ | y
                · rfl
                · simp)
              obtain ⟨vs, hvo, hvn⟩ := HO2.out.kept (below_off HBq.out) (Off.none _ _ _) (Off.none _ _ _)
              have hvl : vs.length ≤ 1000000 := by have := hvn.length; have := HL.out; omega
              have hvl2 : vs.length = pre.length := hvn.length
              rw [← hvl2]
              rw [← hvl2] at hvo
              obtain ⟨sa, sc, rfl, _⟩ := own_open HOq.out
              have HBz := Lib.hid (HB2.out.trans (HBq.out.mono HB2.out.size))
              have hsz4 := HBz.out.size
              have HVN := Lib.hid hvn
              have HVL := Lib.hid hvl2
              clear hvn hvl2
              go_wp2_with (at_builtin; refine app_k rfl _ _ 27 rfl 24 (.slice none 0 0) 1 24 Tryz.underlying27 info_ints rfl (by decide) #[_] _ _ _ _ hvo rfl rfl rfl (by intro u hu; simp at hu; subst hu; rfl) hsz4 (by omega) (by unfold maxLen; omega) ?_; intro v5 w5 ho5 hg5 _; obtain ⟨a5, c5, rfl, _⟩ := own_open ho5)
              go_roundg (n - (k + 1))
              case measure => omega
              case rel =>
                have h1 := own_off HOq.out hg5 (Off.owned hvo (by decide))
                refine ⟨k + 1, by omega, rfl, by go_num, below_grown HBz.out hvo (Nat.le_refl _) hg5, .inl ⟨pre ++ [pr2], rest2, _, _, c5, a5, rfl, rfl, ?_, HP3.out, (by unfold Hid; simp [HL.out]), ?_, HAq.out, H8q.out, by omega⟩⟩
                · simp [HVL.out]
                · refine ⟨vs ++ [.slice sa j sc], by simpa using ho5, (HVN.out.kept hg5 (Off.owned hvo (by decide))).append ⟨?_, trivial⟩⟩
                  rw [HL2.out]
                  exact owns_base h1 (by omega)
      · obtain rfl : k = n := by omega
        obtain rfl : R = some (pre, rest) := by
          have h1 := HP.out
          rw [Nat.sub_self] at h1
          rw [h1]; simp [rShapeN]
        go_wp2_with fail
        go_ret3
        exact ⟨HBr.out, _, _, _, _, rfl, HO.out, HAr.out, H8r.out, by omega⟩
end Go.Proofs.YtjbhgimhcjcpmaaGreatDoor
