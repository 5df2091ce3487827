/-
  THE CONTRACT of twainref11.Wants, but for garbled operations: the forms and rounds of the rules.
-/
import Derived.Test.YtjbhgimhcjcpmaaGreatDoorMRefWire
import Derived.Test.YtjbhgimhcjcpmaaGreatDoorMGarb
import Derived.Test.YtjbhgimhcjcpmaaGreatDoorMPlanWants
import Derived.Test.YtjbhgimhcjcpmaaGreatDoorMRefPut
set_option linter.unusedSimpArgs false
set_option linter.unusedVariables false
namespace Go.Proofs.YtjbhgimhcjcpmaaGreatDoor
open Go.RowKit

/-- What the reference says of a kind that isn't 17. -/
def rW (kind : Int) : Int × Int × Int × Int := if kind = 1 then (0, 0, 1, 1) else if (tabRule kind).2 then ((tabRule kind).1.a, (tabRule kind).1.b, (tabRule kind).1.makes, (tabRule kind).1.rounds) else (0, 0, 0, -1)
def rWv (x : Int × Int × Int × Int) : Value := .tuple #[.int .i64 x.1, .int .i64 x.2.1, .int .i64 x.2.2.1, .int .i64 x.2.2.2]
set_option maxHeartbeats 4000000 in
set_option maxRecDepth 100000 in
theorem refWants_lit (kind a b k party : Int) (c : Nat) (w : World) (h : kind = 1 ∨ kind = 2 ∨ kind = 3 ∨ kind = 4 ∨ kind = 5 ∨ kind = 6 ∨ kind = 7 ∨ kind = 8 ∨ kind = 9 ∨ kind = 10 ∨ kind = 11 ∨ kind = 12 ∨ kind = 13 ∨ kind = 14 ∨ kind = 15 ∨ kind = 16 ∨ kind = 18 ∨ kind = 19) :
    Calls Tryz.prog 72 #[.agg #[.int .i64 kind, .int .i64 a, .int .i64 b, .int .i64 k, .int .u64 c, .int .i64 party]] w (RetB (rWv (rW kind)) w) := by
  rcases h with rfl | rfl | rfl | rfl | rfl | rfl | rfl | rfl | rfl | rfl | rfl | rfl | rfl | rfl | rfl | rfl | rfl | rfl
  all_goals
    go_enter Tryz.func72, Tryz.ntmps72
    go_wp2_with fail
    exact bodyPost_ret (by simp [results, go_sem]; rfl) rfl ⟨rfl, (Below.refl _ _).alloc (Nat.le_refl _) _⟩
set_option maxHeartbeats 4000000 in
set_option maxRecDepth 100000 in
theorem refWants_none (kind a b k party : Int) (c : Nat) (w : World) (h : kind < 1 ∨ 19 < kind) :
    Calls Tryz.prog 72 #[.agg #[.int .i64 kind, .int .i64 a, .int .i64 b, .int .i64 k, .int .u64 c, .int .i64 party]] w (RetB (rWv (0, 0, 0, -1)) w) := by
    have e1 : (kind == 1) = false := by simp; omega
    have e2 : (kind == 2) = false := by simp; omega
    have e3 : (kind == 3) = false := by simp; omega
    have e4 : (kind == 4) = false := by simp; omega
    have e5 : (kind == 5) = false := by simp; omega
    have e6 : (kind == 6) = false := by simp; omega
    have e7 : (kind == 7) = false := by simp; omega
    have e8 : (kind == 8) = false := by simp; omega
    have e9 : (kind == 9) = false := by simp; omega
    have e10 : (kind == 10) = false := by simp; omega
    have e11 : (kind == 11) = false := by simp; omega
    have e12 : (kind == 12) = false := by simp; omega
    have e13 : (kind == 13) = false := by simp; omega
    have e14 : (kind == 14) = false := by simp; omega
    have e15 : (kind == 15) = false := by simp; omega
    have e16 : (kind == 16) = false := by simp; omega
    have e17 : (kind == 17) = false := by simp; omega
    have e18 : (kind == 18) = false := by simp; omega
    have e19 : (kind == 19) = false := by simp; omega
    go_enter Tryz.func72, Tryz.ntmps72
    go_wp2_with fail
    exact bodyPost_ret (by simp [results, go_sem]; rfl) rfl ⟨rfl, (Below.refl _ _).alloc (Nat.le_refl _) _⟩

def rW17 (k : Int) (c : Nat) : Int × Int × Int × Int := (1 + (c : Int) % 2, (if k = 1 then 0 else 1 + (c : Int) / 2 % 2), 2, 2)
set_option maxHeartbeats 4000000 in
set_option maxRecDepth 100000 in
theorem refWants_17 (a b k party : Int) (c : Nat) (w : World) (h : (k = 1 ∧ (c = 0 ∨ c = 1)) ∨ ((k = 2 ∨ k = 3) ∧ (c = 0 ∨ c = 1 ∨ c = 2 ∨ c = 3))) :
    Calls Tryz.prog 72 #[.agg #[.int .i64 17, .int .i64 a, .int .i64 b, .int .i64 k, .int .u64 c, .int .i64 party]] w (RetB (rWv (rW17 k c)) w) := by
  rcases h with ⟨rfl, rfl | rfl⟩ | ⟨rfl | rfl, rfl | rfl | rfl | rfl⟩
  all_goals
    go_enter Tryz.func72, Tryz.ntmps72
    go_wp2_with go_in
    exact bodyPost_ret (by simp [results, go_sem]; rfl) rfl ⟨rfl, (Below.refl _ _).alloc (Nat.le_refl _) _⟩
end Go.Proofs.YtjbhgimhcjcpmaaGreatDoor

/-
  THE CONTRACT of twainref11.Wants, at any operation; and twainref18.Wanted.
-/
namespace Go.Proofs.YtjbhgimhcjcpmaaGreatDoor
open Go.RowKit

set_option maxHeartbeats 4000000 in
set_option maxRecDepth 100000 in
theorem refWants_17no (a b k party : Int) (c : Nat) (w : World) (h : circOk k c = false) :
    Calls Tryz.prog 72 #[.agg #[.int .i64 17, .int .i64 a, .int .i64 b, .int .i64 k, .int .u64 c, .int .i64 party]] w (RetB (rWv (0, 0, 0, -1)) w) := by
  have hR : rOperands k c = 0 := by unfold rOperands; rw [h]; rfl
  have HR := Lib.hid hR
  clear hR h
  go_enter Tryz.func72, Tryz.ntmps72
  go_wp2_with (go_at_call 77; go_must (refine (refOperands_any _ _ _).mono ?_; rw [HR.out]; rintro e w' ⟨rfl, rfl⟩))
  exact bodyPost_ret (by simp [results, go_sem]; rfl) rfl ⟨rfl, (Below.refl _ _).alloc (Nat.le_refl _) _⟩
/-- What the reference says of an operation: the forms that are wanted, the one that is made, the rounds; below 0: it is none. -/
def rWants (o : MOp) : Int × Int × Int × Int := if o.kind = 17 then (if circOk o.k o.c then rW17 o.k o.c else (0, 0, 0, -1)) else rW o.kind
theorem refWants_any (o : MOp) (w : World) : Calls Tryz.prog 72 #[.agg o.arr] w (RetB (rWv (rWants o)) w) := by
  obtain ⟨kind, a, b, k, c, party⟩ := o
  simp only [MOp.arr, rWants]
  by_cases h17 : kind = 17
  · subst h17
    rw [if_pos rfl]
    by_cases hc : circOk k c = true
    · rw [if_pos hc]
      exact refWants_17 a b k party c w (circOk_cases hc)
    · rw [if_neg hc]
      exact refWants_17no a b k party c w (by simpa using hc)
  · rw [if_neg h17]
    by_cases ho : kind < 1 ∨ 19 < kind
    · have : rW kind = (0, 0, 0, -1) := by
        unfold rW
        rw [if_neg (by omega)]
        have hn : (tabRule kind).2 = false := by
          cases h : (tabRule kind).2 with
          | false => rfl
          | true => rcases tabRule_known _ h with h | h | h | h | h | h | h | h | h | h | h | h | h | h | h | h | h <;> omega
        rw [hn]; rfl
      rw [this]
      exact refWants_none kind a b k party c w ho
    · exact refWants_lit kind a b k party c w (by omega)

theorem ints_1 (x : Int) : [Value.int .i64 x] = ints [x] := rfl
/-- The places that an operation is made of, as the reference lists them. -/
def rWanted (o : MOp) : List Int := (if (rWants o).1 = 0 then [] else [o.a]) ++ (if (rWants o).2.1 ≠ 0 ∧ ((rWants o).1 = 0 ∨ o.a ≠ o.b) then [o.b] else [])
theorem op_cells6 {w : World} {b : Nat} {o : MOp} (h : w.heap[b]? = some (.cells o.arr 44 (0, 0))) :
    w.cell? ⟨b, 0, none⟩ = some (.int .i64 o.kind) ∧ w.cell? ⟨b, 1, none⟩ = some (.int .i64 o.a) ∧ w.cell? ⟨b, 2, none⟩ = some (.int .i64 o.b) ∧ w.cell? ⟨b, 3, none⟩ = some (.int .i64 o.k) ∧ w.cell? ⟨b, 4, none⟩ = some (.int .u64 o.c) ∧ w.cell? ⟨b, 5, none⟩ = some (.int .i64 o.party) := by
  refine ⟨?_, ?_, ?_, ?_, ?_, ?_⟩ <;> simp [World.cell?, h, MOp.arr]
/-- A list of numbers in the making, an operation in its block. -/
structure WSt (w : World) (o : MOp) (x : Value) (l : List Int) (W : World) : Prop where
  box : W.heap[w.heap.size]? = some (.cells o.arr 44 (0, 0))
  own : W.ownsRow (w.heap.size + 1) 3 1 x l.length (ints l)
  below : Below w.heap.size w W
theorem WSt.add {w : World} {o : MOp} {x y : Value} {l : List Int} {W W1 : World} {z : Int} (h : WSt w o x l W) (hg : W.grownBy W1 x.ownBlock) (ho : W1.ownsRow (w.heap.size + 1) 3 1 y (l.length + 1) (ints l ++ [.int .i64 z])) : WSt w o y (l ++ [z]) W1 :=
  ⟨(hg.block _ (lt_of_block h.box) fun e => ints_ne h.own h.box (by decide) e.symm).trans h.box, by rw [List.length_append]; simpa [ints] using ho, h.below.grown hg h.below.size fun j hj => by have := (h.own.lt j hj).1; omega⟩
theorem WSt.later {w : World} {o : MOp} {x : Value} {l : List Int} {W W1 : World} (h : WSt w o x l W) (hb : Below W.heap.size W W1) : WSt w o x l W1 :=
  ⟨(hb.block _ (lt_of_block h.box)).trans h.box, Below.owns h.own hb, h.below.trans (hb.mono h.below.size)⟩
theorem WSt.start (w : World) (o : MOp) : WSt w o (.slice none 0 0) [] (w.alloc (.cells o.arr 44)) := ⟨heap_alloc_new _ _, World.ownsRow_nil _ _ _ _, (Below.refl _ _).alloc (Nat.le_refl _) _⟩
theorem WSt.ret {w : World} {o : MOp} {x : Value} {l : List Int} {W : World} (h : WSt w o x l W) : RetInts l w (.returned x) W := ⟨_, rfl, owns_base h.own (by omega), h.below⟩
end Go.Proofs.YtjbhgimhcjcpmaaGreatDoor

/-
  THE CONTRACT of twainref11.told.
-/
namespace Go.Proofs.YtjbhgimhcjcpmaaGreatDoor
open Go.RowKit

/-- How many operations tell the word k. -/
def cntK (l : List MOp) (k : Int) : Nat := (l.filter fun o => mTold o && o.k == k).length
theorem cntK_le (l : List MOp) (k : Int) : cntK l k ≤ l.length := List.length_filter_le _ _
theorem cntK_take (l : List MOp) (j : Nat) (h : j < l.length) (k : Int) : cntK (l.take (j + 1)) k = cntK (l.take j) k + if mTold l[j] && l[j].k == k then 1 else 0 := by
  unfold cntK
  rw [List.take_succ_eq_append_getElem h, List.filter_append]
  by_cases hk : (mTold l[j] && l[j].k == k) = true <;> simp [hk]
/-- Are the numbers 0, 1, .. told, each once? -/
def rTold (l : List MOp) : Bool := (List.range (mOuts l)).all fun j => cntK l (j : Int) == 1
theorem rTold_no {l : List MOp} {k : Nat} (hk : k < mOuts l) (h : cntK l (k : Int) ≠ 1) : rTold l = false := by
  cases ht : rTold l with
  | false => rfl
  | true =>
    have := List.all_eq_true.1 ht k (List.mem_range.2 hk)
    simp at this; exact absurd this h
theorem rTold_yes {l : List MOp} (h : ∀ k, k < mOuts l → cntK l (k : Int) = 1) : rTold l = true :=
  List.all_eq_true.2 fun k hk => by simpa using h k (List.mem_range.1 hk)

set_option maxHeartbeats 2000000 in
set_option maxRecDepth 100000 in
theorem refTold_any (v : Value) (ops : List MOp) (w : World) (hv : Arr w.heap.size w 6 v ops.length (ocells ops)) (hl : ops.length ≤ 1000000) :
    Calls Tryz.prog 71 #[v] w fun e w' => e = .returned (.bool (rTold ops)) ∧ w' = w := by
  obtain ⟨ao, cc, rfl, hcc, hm, hx, hy⟩ := hv.open
  have HY := Lib.hid hy
  clear hv hx hy hm
  obtain ⟨T, hT⟩ : ∃ T, rTold ops = T := ⟨_, rfl⟩
  rw [hT]
  have HTT := Lib.hid hT
  clear hT
  go_enter Tryz.func71, Tryz.ntmps71
  go_wp2_with fail
  go_loopg [3, 10] ops.length (fun g x i wr => ∃ k : Nat, k ≤ ops.length ∧ g = ops.length - k ∧ i = .int .i64 k ∧ x = .int .i64 (mOuts (ops.take k) : Nat) ∧ wr = w)
  case atStart => exact ⟨0, Nat.zero_le _, rfl, rfl, rfl, rfl⟩
  case round =>
    obtain ⟨k, hk, hg, rfl, rfl, rfl⟩ := hrel
    have hle := mOuts_le (ops.take k)
    rw [List.length_take] at hle
    by_cases hkl : k < ops.length
    · obtain ⟨b, off, rfl, hbl, hcells⟩ := HY.out (by omega)
      obtain ⟨c0, c1, c2, c3, c4, c5⟩ := op_cells hcells (Below.refl _ _) hbl rfl k hkl
      have HT := Lib.hid (mOuts_take ops k hkl)
      generalize ops[k] = o at c0 c1 c2 c3 c4 c5 HT
      clear hcells
      have h3 : (0 : Int) ≤ (k : Int) := by omega
      have h4 : (k : Int) < (ops.length : Int) := by omega
      by_cases h18 : o.kind < 18
      · have HT2 := Lib.hid (show ¬ mTold o = true by simp [mTold]; omega)
        have d1 : decide ((18 : Int) ≤ o.kind) = false := by simp; omega
        clear h18
        go_wp2_with fail
        go_roundg (ops.length - (k + 1))
        case measure => omega
        case rel => exact ⟨k + 1, by omega, rfl, by go_num, by rw [HT.out, if_neg HT2.out]; rfl, rfl⟩
      · by_cases h19 : 19 < o.kind
        · have HT2 := Lib.hid (show ¬ mTold o = true by simp [mTold]; omega)
          have d1 : decide ((18 : Int) ≤ o.kind) = true := by simp; omega
          have d2 : decide (o.kind ≤ (19 : Int)) = false := by simp; omega
          clear h18 h19
          go_wp2_with fail
          go_roundg (ops.length - (k + 1))
          case measure => omega
          case rel => exact ⟨k + 1, by omega, rfl, by go_num, by rw [HT.out, if_neg HT2.out]; rfl, rfl⟩
        · have HT2 := Lib.hid (show mTold o = true by simp [mTold]; omega)
          have d1 : decide ((18 : Int) ≤ o.kind) = true := by simp; omega
          have d2 : decide (o.kind ≤ (19 : Int)) = true := by simp; omega
          clear h18 h19
          go_wp2_with fail
          go_roundg (ops.length - (k + 1))
          case measure => omega
          case rel => exact ⟨k + 1, by omega, rfl, by go_num, by rw [HT.out, if_pos HT2.out]; go_num, rfl⟩
    · obtain rfl : k = ops.length := by omega
      rw [List.take_length] at hle ⊢
      obtain ⟨N, hN⟩ : ∃ N, mOuts ops = N := ⟨_, rfl⟩
      rw [hN] at hle ⊢
      have HN := Lib.hid hN
      clear hN
      go_wp2_with fail
      go_loopg [5, 6] N (fun g x y w2 => ∃ (k : Nat) (yv : Value), k ≤ N ∧ g = N - k ∧ x = .int .i64 k ∧ y = yv ∧ Hid (∀ j, j < k → cntK ops (j : Int) = 1) ∧ w2 = wr)
      case atStart => exact ⟨0, _, Nat.zero_le _, rfl, rfl, rfl, Lib.hid (fun j hj => absurd hj (Nat.not_lt_zero _)), rfl⟩
      case round =>
        obtain ⟨q, yv, hq, hg2, rfl, rfl, HQ, rfl⟩ := hrel
        by_cases hqn : q < N
        · go_wp2_with fail
          obtain ⟨wo, hwo⟩ : ∃ wo : World, wo = wr := ⟨_, rfl⟩
          go_loopg [6, 37] ops.length (fun g x i w3 => ∃ k : Nat, k ≤ ops.length ∧ g = ops.length - k ∧ i = .int .i64 k ∧ x = .int .i64 (cntK (ops.take k) (q : Int) : Nat) ∧ w3 = wo)
          case atStart => exact ⟨0, Nat.zero_le _, rfl, rfl, rfl, hwo.symm⟩
          case round =>
            obtain ⟨k, hk, hg3, rfl, rfl, rfl⟩ := hrel
            have hle := cntK_le (ops.take k) (q : Int)
            rw [List.length_take] at hle
            by_cases hkl : k < ops.length
            · obtain ⟨b, off, rfl, hbl, hcells⟩ := HY.out (by omega)
              obtain ⟨c0, c1, c2, c3, c4, c5⟩ := op_cells hcells (Below.refl _ _) hbl rfl k hkl
              have HT := Lib.hid (cntK_take ops k hkl (q : Int))
              generalize ops[k] = o at c0 c1 c2 c3 c4 c5 HT
              clear hcells
              have h3 : (0 : Int) ≤ (k : Int) := by omega
              have h4 : (k : Int) < (ops.length : Int) := by omega
              by_cases h18 : o.kind < 18
              · have HT2 := Lib.hid (show ¬ (mTold o && o.k == (q : Int)) = true by simp [mTold]; omega)
                have d1 : decide ((18 : Int) ≤ o.kind) = false := by simp; omega
                clear h18
                go_wp2_with fail
                go_roundg (ops.length - (k + 1))
                case measure => omega
                case rel => exact ⟨k + 1, by omega, rfl, by go_num, by rw [HT.out, if_neg HT2.out]; rfl, by first | rfl | exact hwo | exact hwo.symm⟩
              · by_cases h19 : 19 < o.kind
                · have HT2 := Lib.hid (show ¬ (mTold o && o.k == (q : Int)) = true by simp [mTold]; omega)
                  have d1 : decide ((18 : Int) ≤ o.kind) = true := by simp; omega
                  have d2 : decide (o.kind ≤ (19 : Int)) = false := by simp; omega
                  clear h18 h19
                  go_wp2_with fail
                  go_roundg (ops.length - (k + 1))
                  case measure => omega
                  case rel => exact ⟨k + 1, by omega, rfl, by go_num, by rw [HT.out, if_neg HT2.out]; rfl, by first | rfl | exact hwo | exact hwo.symm⟩
                · have HT1 : mTold o = true := by simp [mTold]; omega
                  have d1 : decide ((18 : Int) ≤ o.kind) = true := by simp; omega
                  have d2 : decide (o.kind ≤ (19 : Int)) = true := by simp; omega
                  clear h18 h19
                  by_cases hkq : o.k = (q : Int)
                  · have HT2 := Lib.hid (show (mTold o && o.k == (q : Int)) = true by simp [HT1, hkq])
                    have d3 : (o.k == (q : Int)) = true := by simpa using hkq
                    clear hkq HT1
                    go_wp2_with fail
                    go_roundg (ops.length - (k + 1))
                    case measure => omega
                    case rel => exact ⟨k + 1, by omega, rfl, by go_num, by rw [HT.out, if_pos HT2.out]; go_num, by first | rfl | exact hwo | exact hwo.symm⟩
                  · have HT2 := Lib.hid (show ¬ (mTold o && o.k == (q : Int)) = true by simp [HT1, hkq])
                    have d3 : (o.k == (q : Int)) = false := by simpa using hkq
                    clear hkq HT1
                    go_wp2_with fail
                    go_roundg (ops.length - (k + 1))
                    case measure => omega
                    case rel => exact ⟨k + 1, by omega, rfl, by go_num, by rw [HT.out, if_neg HT2.out]; rfl, by first | rfl | exact hwo | exact hwo.symm⟩
            · obtain rfl : k = ops.length := by omega
              rw [List.take_length] at hle ⊢
              obtain ⟨C, hC⟩ : ∃ C, cntK ops (q : Int) = C := ⟨_, rfl⟩
              rw [hC] at hle ⊢
              have HC := Lib.hid hC
              clear hC
              by_cases hc1 : C = 1
              · subst hc1
                go_wp2_with fail
                go_roundg (N - (q + 1))
                case measure => omega
                case rel => exact ⟨q + 1, _, by omega, rfl, by go_num, rfl, Lib.hid (fun j hj => by rcases Nat.lt_succ_iff_lt_or_eq.1 hj with h | rfl; exact HQ.out j h; exact HC.out), by first | rfl | exact hwo | exact hwo.symm⟩
              · have hc2 : ((C : Int) == 1) = false := by simp; omega
                have hc3 : ((C : Int) != 1) = true := by simp; omega
                have hTf : T = false := by rw [← HTT.out]; exact rTold_no (by rw [HN.out]; exact hqn) (by rw [HC.out]; exact hc1)
                have HTf := Lib.hid hTf
                clear hTf hc1
                go_wp2_with fail
                go_ret
                exact ⟨by rw [HTf.out]; rfl, by first | rfl | exact hwo | exact hwo.symm⟩
        · obtain rfl : q = N := by omega
          have hTt : T = true := by rw [← HTT.out]; exact rTold_yes (by rw [HN.out]; exact HQ.out)
          have HTt := Lib.hid hTt
          clear hTt
          go_wp2_with fail
          go_ret
          exact ⟨by rw [HTt.out]; rfl, rfl⟩
end Go.Proofs.YtjbhgimhcjcpmaaGreatDoor
