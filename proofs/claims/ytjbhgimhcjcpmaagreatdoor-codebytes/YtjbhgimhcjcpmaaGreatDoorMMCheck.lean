/-
  THE CONTRACT of micro.Check.
-/
import Derived.Test.YtjbhgimhcjcpmaaGreatDoorMForms
import Derived.Test.YtjbhgimhcjcpmaaGreatDoorMCircTop
set_option linter.unusedSimpArgs false
set_option linter.unusedVariables false
namespace Go.Proofs.YtjbhgimhcjcpmaaGreatDoor
open Go.RowKit

set_option maxHeartbeats 1000000 in
set_option maxRecDepth 100000 in
theorem check_e0neg (v : Value) (e0 e1 : Int) (w : World) (h : e0 < 0) (hE : ErrT w) :
    Calls Tryz.prog 52 #[v, .agg #[.int .i64 e0, .int .i64 e1]] w fun e w' => (∃ T x, e = .returned (.iface T x)) ∧ Below w.heap.size w w' := by
  have HE := Lib.hid (hE.below ((Below.refl _ _).alloc (Nat.le_refl _) (.cells #[.int .i64 e0, .int .i64 e1] 23)))
  clear hE
  have i0 : ∀ (w : World), (Instr.index 23 (.agg #[.int .i64 e0, .int .i64 e1]) (.int .i64 0)).run Tryz.prog w = .ok (.int .i64 e0) w := fun _ => by kernel_rfl
  have i1 : ∀ (w : World), (Instr.index 23 (.agg #[.int .i64 e0, .int .i64 e1]) (.int .i64 1)).run Tryz.prog w = .ok (.int .i64 e1) w := fun _ => by kernel_rfl
  go_enter Tryz.func52, Tryz.ntmps52
  go_wp2_with fail
  refine wp_loop_rounds 2 ?_
  rw [rounds_succ]
  go_wp2_with (go_at_call 27; go_must (refine (wrap_errno _ _ _ _ HE.out).mono ?_; rintro e w1 ⟨v1, rfl, hv1, hb1⟩; obtain ⟨T1, x1, rfl⟩ := hv1.form; have HB1 := Lib.hid (after1 hb1).2.1; clear hv1 hb1))
  go_ret
  exact ⟨⟨_, _, rfl⟩, HB1.out⟩

set_option maxHeartbeats 1000000 in
set_option maxRecDepth 100000 in
theorem check_e0big (v : Value) (e0 e1 : Int) (w : World) (h0 : ¬ e0 < 0) (h : 65536 < e0) (hE : ErrT w) :
    Calls Tryz.prog 52 #[v, .agg #[.int .i64 e0, .int .i64 e1]] w fun e w' => (∃ T x, e = .returned (.iface T x)) ∧ Below w.heap.size w w' := by
  have HE := Lib.hid (hE.below ((Below.refl _ _).alloc (Nat.le_refl _) (.cells #[.int .i64 e0, .int .i64 e1] 23)))
  clear hE
  have i0 : ∀ (w : World), (Instr.index 23 (.agg #[.int .i64 e0, .int .i64 e1]) (.int .i64 0)).run Tryz.prog w = .ok (.int .i64 e0) w := fun _ => by kernel_rfl
  have i1 : ∀ (w : World), (Instr.index 23 (.agg #[.int .i64 e0, .int .i64 e1]) (.int .i64 1)).run Tryz.prog w = .ok (.int .i64 e1) w := fun _ => by kernel_rfl
  go_enter Tryz.func52, Tryz.ntmps52
  go_wp2_with fail
  refine wp_loop_rounds 2 ?_
  rw [rounds_succ]
  go_wp2_with (go_at_call 27; go_must (refine (wrap_errno _ _ _ _ HE.out).mono ?_; rintro e w1 ⟨v1, rfl, hv1, hb1⟩; obtain ⟨T1, x1, rfl⟩ := hv1.form; have HB1 := Lib.hid (after1 hb1).2.1; clear hv1 hb1))
  go_ret
  exact ⟨⟨_, _, rfl⟩, HB1.out⟩

set_option maxHeartbeats 1000000 in
set_option maxRecDepth 100000 in
theorem check_e1neg (v : Value) (e0 e1 : Int) (w : World) (h0 : ¬ e0 < 0) (h1 : ¬ 65536 < e0) (h : e1 < 0) (hE : ErrT w) :
    Calls Tryz.prog 52 #[v, .agg #[.int .i64 e0, .int .i64 e1]] w fun e w' => (∃ T x, e = .returned (.iface T x)) ∧ Below w.heap.size w w' := by
  have HE := Lib.hid (hE.below ((Below.refl _ _).alloc (Nat.le_refl _) (.cells #[.int .i64 e0, .int .i64 e1] 23)))
  clear hE
  have i0 : ∀ (w : World), (Instr.index 23 (.agg #[.int .i64 e0, .int .i64 e1]) (.int .i64 0)).run Tryz.prog w = .ok (.int .i64 e0) w := fun _ => by kernel_rfl
  have i1 : ∀ (w : World), (Instr.index 23 (.agg #[.int .i64 e0, .int .i64 e1]) (.int .i64 1)).run Tryz.prog w = .ok (.int .i64 e1) w := fun _ => by kernel_rfl
  go_enter Tryz.func52, Tryz.ntmps52
  go_wp2_with fail
  refine wp_loop_rounds 2 ?_
  rw [rounds_succ]
  go_wp2_with fail
  rw [rounds_succ]
  go_wp2_with (go_at_call 27; go_must (refine (wrap_errno _ _ _ _ HE.out).mono ?_; rintro e w1 ⟨v1, rfl, hv1, hb1⟩; obtain ⟨T1, x1, rfl⟩ := hv1.form; have HB1 := Lib.hid (after1 hb1).2.1; clear hv1 hb1))
  go_ret
  exact ⟨⟨_, _, rfl⟩, HB1.out⟩

set_option maxHeartbeats 1000000 in
set_option maxRecDepth 100000 in
theorem check_e1big (v : Value) (e0 e1 : Int) (w : World) (h0 : ¬ e0 < 0) (h1 : ¬ 65536 < e0) (h2 : ¬ e1 < 0) (h : 65536 < e1) (hE : ErrT w) :
    Calls Tryz.prog 52 #[v, .agg #[.int .i64 e0, .int .i64 e1]] w fun e w' => (∃ T x, e = .returned (.iface T x)) ∧ Below w.heap.size w w' := by
  have HE := Lib.hid (hE.below ((Below.refl _ _).alloc (Nat.le_refl _) (.cells #[.int .i64 e0, .int .i64 e1] 23)))
  clear hE
  have i0 : ∀ (w : World), (Instr.index 23 (.agg #[.int .i64 e0, .int .i64 e1]) (.int .i64 0)).run Tryz.prog w = .ok (.int .i64 e0) w := fun _ => by kernel_rfl
  have i1 : ∀ (w : World), (Instr.index 23 (.agg #[.int .i64 e0, .int .i64 e1]) (.int .i64 1)).run Tryz.prog w = .ok (.int .i64 e1) w := fun _ => by kernel_rfl
  go_enter Tryz.func52, Tryz.ntmps52
  go_wp2_with fail
  refine wp_loop_rounds 2 ?_
  rw [rounds_succ]
  go_wp2_with fail
  rw [rounds_succ]
  go_wp2_with (go_at_call 27; go_must (refine (wrap_errno _ _ _ _ HE.out).mono ?_; rintro e w1 ⟨v1, rfl, hv1, hb1⟩; obtain ⟨T1, x1, rfl⟩ := hv1.form; have HB1 := Lib.hid (after1 hb1).2.1; clear hv1 hb1))
  go_ret
  exact ⟨⟨_, _, rfl⟩, HB1.out⟩

set_option maxHeartbeats 1000000 in
set_option maxRecDepth 100000 in
theorem check_len (ao : Option Addr) (n cc : Nat) (e0 e1 : Int) (w : World) (h0 : ¬ e0 < 0) (h1 : ¬ 65536 < e0) (h2 : ¬ e1 < 0) (h3 : ¬ 65536 < e1) (h : 16384 < n) (hn : n ≤ 1000000) (hE : ErrT w) :
    Calls Tryz.prog 52 #[.slice ao n cc, .agg #[.int .i64 e0, .int .i64 e1]] w fun e w' => (∃ T x, e = .returned (.iface T x)) ∧ Below w.heap.size w w' := by
  have HE := Lib.hid (hE.below ((Below.refl _ _).alloc (Nat.le_refl _) (.cells #[.int .i64 e0, .int .i64 e1] 23)))
  clear hE
  have i0 : ∀ (w : World), (Instr.index 23 (.agg #[.int .i64 e0, .int .i64 e1]) (.int .i64 0)).run Tryz.prog w = .ok (.int .i64 e0) w := fun _ => by kernel_rfl
  have i1 : ∀ (w : World), (Instr.index 23 (.agg #[.int .i64 e0, .int .i64 e1]) (.int .i64 1)).run Tryz.prog w = .ok (.int .i64 e1) w := fun _ => by kernel_rfl
  go_enter Tryz.func52, Tryz.ntmps52
  go_wp2_with fail
  refine wp_loop_rounds 3 ?_
  rw [rounds_succ]
  go_wp2_with fail
  rw [rounds_succ]
  go_wp2_with fail
  rw [rounds_succ]
  go_wp2_with (go_at_call 27; go_must (refine (wrap_errno _ _ _ _ HE.out).mono ?_; rintro e w1 ⟨v1, rfl, hv1, hb1⟩; obtain ⟨T1, x1, rfl⟩ := hv1.form; have HB1 := Lib.hid (after1 hb1).2.1; clear hv1 hb1))
  go_ret
  exact ⟨⟨_, _, rfl⟩, HB1.out⟩

/-- nil, or an error. -/
def ChkPost : Option (List Int) → Ending → Prop
  | some _, e => e = .returned .nilIface
  | none, e => ∃ T x, e = .returned (.iface T x)

theorem Arr.later' {w w' : World} {k : Nat} {v : Value} {n : Nat} {xs : List Value} (h : Arr w.heap.size w k v n xs) (hb : Below w.heap.size w w') : Arr w'.heap.size w' k v n xs := h.later hb hb.size

set_option maxHeartbeats 1000000 in
set_option maxRecDepth 100000 in
theorem check_good (v : Value) (ops : List MOp) (e0 e1 : Int) (w : World) (h0 : ¬ e0 < 0) (h1 : ¬ 65536 < e0) (h2 : ¬ e1 < 0) (h3 : ¬ 65536 < e1) (hl : ops.length ≤ 16384) (hv : Arr w.heap.size w 6 v ops.length (ocells ops)) (hc : ∀ o ∈ ops, o.c < 18446744073709551616) (hE : ErrT w) (r : Option (List Int)) (hr : mForms ops e0 e1 = r) :
    Calls Tryz.prog 52 #[v, .agg #[.int .i64 e0, .int .i64 e1]] w fun e w' => ChkPost r e ∧ Below w.heap.size w w' := by
  have HE := Lib.hid (hE.below ((Below.refl _ _).alloc (Nat.le_refl _) (.cells #[.int .i64 e0, .int .i64 e1] 23)))
  have HV := Lib.hid (hv.later' ((Below.refl _ _).alloc (Nat.le_refl _) (.cells #[.int .i64 e0, .int .i64 e1] 23)))
  obtain ⟨ao, cc, rfl, hcc, hm, hx, hy⟩ := hv.open
  have HC := Lib.hid hc
  have HR := Lib.hid hr
  clear hE hv hc hr hm hx hy
  have i0 : ∀ (w : World), (Instr.index 23 (.agg #[.int .i64 e0, .int .i64 e1]) (.int .i64 0)).run Tryz.prog w = .ok (.int .i64 e0) w := fun _ => by kernel_rfl
  have i1 : ∀ (w : World), (Instr.index 23 (.agg #[.int .i64 e0, .int .i64 e1]) (.int .i64 1)).run Tryz.prog w = .ok (.int .i64 e1) w := fun _ => by kernel_rfl
  cases r with
  | none =>
    go_enter Tryz.func52, Tryz.ntmps52
    go_wp2_with fail
    refine wp_loop_rounds 3 ?_
    rw [rounds_succ]
    go_wp2_with fail
    rw [rounds_succ]
    go_wp2_with fail
    rw [rounds_succ]
    go_wp2_with (go_at_call 88; go_must (refine (forms_any _ ops e0 e1 _ HV.out (by omega) HC.out HE.out).mono ?_; rw [HR.out]; rintro e w1 ⟨hb1, v1, rfl, l1, cd1, hv1⟩; obtain ⟨T1, x1, rfl⟩ := hv1.form; have HB1 := Lib.hid (after1 hb1).2.1; clear hv1 hb1))
    go_ret
    exact ⟨⟨_, _, rfl⟩, HB1.out⟩
  | some made =>
    go_enter Tryz.func52, Tryz.ntmps52
    go_wp2_with fail
    refine wp_loop_rounds 3 ?_
    rw [rounds_succ]
    go_wp2_with fail
    rw [rounds_succ]
    go_wp2_with fail
    rw [rounds_succ]
    go_wp2_with (go_at_call 88; go_must (refine (forms_any _ ops e0 e1 _ HV.out (by omega) HC.out HE.out).mono ?_; rw [HR.out]; rintro e w1 ⟨hb1, v1, rfl, hown⟩; have HB1 := Lib.hid (after1 hb1).2.1; clear hown hb1))
    go_ret
    exact ⟨rfl, HB1.out⟩

/-- micro.Check, where it is one. -/
theorem check_yes (v : Value) (ops : List MOp) (e0 e1 : Int) (w : World) (h : mCheck ops e0 e1 = true) (hv : Arr w.heap.size w 6 v ops.length (ocells ops)) (hc : ∀ o ∈ ops, o.c < 18446744073709551616) (hE : ErrT w) :
    Calls Tryz.prog 52 #[v, .agg #[.int .i64 e0, .int .i64 e1]] w fun e w' => e = .returned .nilIface ∧ Below w.heap.size w w' := by
  simp only [mCheck, Bool.and_eq_true, decide_eq_true_eq] at h
  obtain ⟨⟨⟨⟨⟨h0, h1⟩, h2⟩, h3⟩, h4⟩, h5⟩ := h
  obtain ⟨made, hm⟩ := Option.isSome_iff_exists.1 h5
  exact check_good v ops e0 e1 w (by omega) (by omega) (by omega) (by omega) h4 hv hc hE _ hm
/-- micro.Check, where it is none. -/
theorem check_no (v : Value) (ops : List MOp) (e0 e1 : Int) (w : World) (h : mCheck ops e0 e1 = false) (hv : Arr w.heap.size w 6 v ops.length (ocells ops)) (hl : ops.length ≤ 1000000) (hc : ∀ o ∈ ops, o.c < 18446744073709551616) (hE : ErrT w) :
    Calls Tryz.prog 52 #[v, .agg #[.int .i64 e0, .int .i64 e1]] w fun e w' => (∃ T x, e = .returned (.iface T x)) ∧ Below w.heap.size w w' := by
  by_cases h0 : e0 < 0
  · exact check_e0neg v e0 e1 w h0 hE
  by_cases h1 : 65536 < e0
  · exact check_e0big v e0 e1 w h0 h1 hE
  by_cases h2 : e1 < 0
  · exact check_e1neg v e0 e1 w h0 h1 h2 hE
  by_cases h3 : 65536 < e1
  · exact check_e1big v e0 e1 w h0 h1 h2 h3 hE
  by_cases h4 : 16384 < ops.length
  · obtain ⟨ao, cc, rfl, _⟩ := hv.open
    exact check_len ao _ cc e0 e1 w h0 h1 h2 h3 h4 hl hE
  have hm : mForms ops e0 e1 = none := by
    cases hm : mForms ops e0 e1 with
    | none => rfl
    | some made => simp [mCheck, hm] at h; omega
  exact check_good v ops e0 e1 w h0 h1 h2 h3 (by omega) hv hc hE _ hm
end Go.Proofs.YtjbhgimhcjcpmaaGreatDoor

/-
  PLAIN LAWS on programs that are ones: where their operands lie, how great their rounds are.
-/
namespace Go.Proofs.YtjbhgimhcjcpmaaGreatDoor

theorem mWants_lt {made : List Int} {at_ w : Int} (h : mWants made at_ w = true) (hw : w ≠ 0) : 0 ≤ at_ ∧ at_ < made.length := by
  simp only [mWants, if_neg hw, Bool.and_eq_true, decide_eq_true_eq] at h
  exact ⟨h.1.1, h.1.2⟩

theorem formsGo_places {e0 e1 : Int} {outs : Nat} : ∀ {l : List MOp} {seen made res : List Int}, formsGo e0 e1 outs l seen made = some res → ∀ (j : Nat) (h : j < l.length),
    ((mRule l[j] e0 e1).1.a ≠ 0 → 0 ≤ l[j].a ∧ l[j].a < (made.length + j : Nat)) ∧ ((mRule l[j] e0 e1).1.b ≠ 0 → 0 ≤ l[j].b ∧ l[j].b < (made.length + j : Nat))
  | [], _, _, _, _, j, h => by simp at h
  | o :: l, seen, made, res, hf, j, h => by
    rw [formsGo] at hf
    split at hf
    · rename_i hok
      cases j with
      | zero =>
        simp only [opOk, Bool.and_eq_true] at hok
        simp only [List.getElem_cons_zero, Nat.add_zero]
        exact ⟨fun ha => mWants_lt hok.1.2.1 ha, fun hb => mWants_lt hok.1.2.2 hb⟩
      | succ j =>
        have := formsGo_places hf j (by simpa using h)
        simp only [List.getElem_cons_succ]
        simp only [List.length_append, List.length_cons, List.length_nil] at this
        rw [show made.length + (j + 1) = made.length + (0 + 1) + j by omega]
        exact this
    · cases hf

/-- The operands of the operations of a program lie ahead. -/
theorem check_places {ops : List MOp} {e0 e1 : Int} (h : mCheck ops e0 e1 = true) (j : Nat) (hj : j < ops.length) :
    ((mRule ops[j] e0 e1).1.a ≠ 0 → 0 ≤ ops[j].a ∧ ops[j].a < j) ∧ ((mRule ops[j] e0 e1).1.b ≠ 0 → 0 ≤ ops[j].b ∧ ops[j].b < j) := by
  simp only [mCheck, Bool.and_eq_true] at h
  obtain ⟨made, hm⟩ := Option.isSome_iff_exists.1 h.2
  have := formsGo_places hm j hj
  simpa using this

theorem mRule_rounds (o : MOp) (e0 e1 : Int) : 0 ≤ (mRule o e0 e1).1.rounds ∧ (mRule o e0 e1).1.rounds ≤ 2 := by
  unfold mRule
  split
  · unfold mInRule; split
    · simp
    · split <;> simp [rule0]
  · split
    · unfold mGarbRule; split <;> simp [rule0]
    · by_cases h : (tabRule o.kind).2 = true
      · rcases tabRule_known _ h with h | h | h | h | h | h | h | h | h | h | h | h | h | h | h | h | h <;> rw [h] <;> decide
      · rw [tabRule_none _ (by simpa using h)]; simp [rule0]

/-- All between 0 and n. -/
def Upto (n : Int) (l : List Int) : Prop := ∀ x ∈ l, 0 ≤ x ∧ x ≤ n
theorem Upto.getD {n : Int} {l : List Int} (h : Upto n l) (hn : 0 ≤ n) (k : Nat) : 0 ≤ l.getD k 0 ∧ l.getD k 0 ≤ n := by
  by_cases hk : k < l.length
  · have := h l[k] (List.getElem_mem _); simpa [List.getD, hk] using this
  · simp [List.getD, hk]; exact hn
theorem Upto.snoc {n m : Int} {l : List Int} (h : Upto n l) (hnm : n ≤ m) {x : Int} (h0 : 0 ≤ x) (h1 : x ≤ m) : Upto m (l ++ [x]) := by
  intro y hy
  rcases List.mem_append.1 hy with hy | hy
  · have := h y hy; omega
  · simp at hy; omega
theorem ahead_bound {n : Int} {out : List Int} (h : Upto n out) (hn : 0 ≤ n) (o : MOp) (r : Rule) : 0 ≤ ahead out o r ∧ ahead out o r ≤ n := by
  have h1 := h.getD hn o.a.toNat
  have h2 := h.getD hn o.b.toNat
  unfold ahead
  split <;> split <;> omega

theorem roundsGo_len : ∀ (l : List MOp) (out : List Int), (roundsGo l out).length = out.length + l.length
  | [], out => by simp [roundsGo]
  | o :: l, out => by rw [roundsGo, roundsGo_len l]; simp; omega
theorem roundsGo_upto : ∀ (l : List MOp) (out : List Int) (n : Nat), Upto n out → Upto (n + 2 * l.length : Nat) (roundsGo l out)
  | [], out, n, h => by simpa [roundsGo] using h
  | o :: l, out, n, h => by
    rw [roundsGo]
    have h1 := ahead_bound h (by omega) o (mRule o 65536 65536).1
    have h2 := mRule_rounds o 65536 65536
    have := roundsGo_upto l (out ++ [ahead out o (mRule o 65536 65536).1 + (mRule o 65536 65536).1.rounds]) (n + 2) (h.snoc (m := ((n + 2 : Nat) : Int)) (by omega) (by omega) (by omega))
    simp only [List.length_cons]
    rw [show n + 2 * (l.length + 1) = n + 2 + 2 * l.length by omega]
    exact this
theorem mRounds_len (ops : List MOp) : (mRounds ops).length = if mCheck ops 65536 65536 then ops.length else 0 := by
  unfold mRounds; split <;> simp [roundsGo_len, *]
theorem mRounds_upto (ops : List MOp) : Upto (2 * ops.length : Nat) (mRounds ops) := by
  unfold mRounds; split
  · have := roundsGo_upto ops [] 0 (by intro x hx; cases hx); simpa using this
  · intro x hx; cases hx
end Go.Proofs.YtjbhgimhcjcpmaaGreatDoor

/-
  PLAIN LAW: the garbled circuits are small.
-/
namespace Go.Proofs.YtjbhgimhcjcpmaaGreatDoor

theorem circOk_cases {k : Int} {c : Nat} (h : circOk k c = true) : (k = 1 ∧ (c = 0 ∨ c = 1)) ∨ ((k = 2 ∨ k = 3) ∧ (c = 0 ∨ c = 1 ∨ c = 2 ∨ c = 3)) := by
  unfold circOk at h
  simp only [Bool.or_eq_true, Bool.and_eq_true, beq_iff_eq, decide_eq_true_eq] at h
  rcases h with ⟨h1, h2⟩ | ⟨h1, h2⟩
  · exact .inl ⟨h1, by omega⟩
  · exact .inr ⟨h1, by omega⟩
theorem mMake_small (kind f : Nat) : (mMake kind f).1 ≤ 256 ∧ (mMake kind f).2.1.length ≤ 2000 := by
  unfold mMake
  dsimp only
  split
  · refine ⟨by simp only; omega, ?_⟩
    have h := mOps_len 128 f 1
    generalize mOps 128 f 1 = s at h ⊢
    have hz := gt_len 128 1 0 0 s.2
    generalize gt 128 1 0 0 s.2 = z at hz ⊢
    have hq := gt_len 128 3 (s.1.getD 63 0) 0 z.2
    generalize gt 128 3 (s.1.getD 63 0) 0 z.2 = q at hq ⊢
    have hr := reluTo_len 128 q.1 s.1 q.2 63
    simp only; omega
  · have h := mOps_len 256 f 2
    generalize mOps 256 f 2 = s at h ⊢
    have hz := gt_len 256 1 0 0 s.2
    generalize gt 256 1 0 0 s.2 = z at hz ⊢
    have hl := mLess_len 256 (s.1.take 64) (s.1.drop 64) z.2
    generalize mLess 256 (s.1.take 64) (s.1.drop 64) z.2 = l at hl ⊢
    split
    · refine ⟨by simp only; omega, ?_⟩
      simp only; omega
    · refine ⟨by simp only; omega, ?_⟩
      have hp := pickTo_len 256 l.1 (s.1.drop 64) (s.1.take 64) l.2 64
      simp only; omega
theorem garb_small {k : Int} {c : Nat} (_h : circOk k c = true) : (mMake k.toNat c).1 ≤ 256 ∧ ands (mMake k.toNat c).2.1 ≤ 2000 ∧ (mMake k.toNat c).2.1.length ≤ 2000 := by
  have := mMake_small k.toNat c
  have h2 := ands_le (mMake k.toNat c).2.1
  exact ⟨this.1, by omega, this.2⟩
end Go.Proofs.YtjbhgimhcjcpmaaGreatDoor

/-
  PLAIN MIRRORS of micro.Need.
-/
namespace Go.Proofs.YtjbhgimhcjcpmaaGreatDoor

structure MNeed where
  tri : Int
  bits : Int
  ots : Int
  t0 : Int
  t1 : Int
  rounds : Int
  w0 : Int
  w1 : Int
def need0 : MNeed := ⟨0, 0, 0, 0, 0, 0, 0, 0⟩
def MNeed.arr (n : MNeed) : Array Value := #[.int .i64 n.tri, .int .i64 n.bits, .int .i64 n.ots, .int .i64 n.t0, .int .i64 n.t1, .int .i64 n.rounds, .int .i64 n.w0, .int .i64 n.w1]

/-- How many operands a garbled operation has. -/
def mOperands (k : Int) : Int := if k = 1 then 1 else 2
def garbIns (o : MOp) : Int := ((mMake o.k.toNat o.c).1 : Nat)
def garbAnds (o : MOp) : Int := (ands (mMake o.k.toNat o.c).2.1 : Nat)
def needStep (n : MNeed) (o : MOp) : MNeed :=
  if o.kind = 1 then (if o.party = 0 then { n with t0 := n.t0 + 1, w0 := n.w0 + 1 } else { n with t1 := n.t1 + 1, w1 := n.w1 + 1 })
  else if o.kind = 6 then { n with tri := n.tri + 1, w0 := n.w0 + 2, w1 := n.w1 + 2 }
  else if o.kind = 9 then { n with bits := n.bits + 1, w0 := n.w0 + 2, w1 := n.w1 + 2 }
  else if o.kind = 18 ∨ o.kind = 19 then { n with w0 := n.w0 + 1, w1 := n.w1 + 1 }
  else if o.kind = 17 then { n with ots := n.ots + 64 * mOperands o.k, t0 := n.t0 + 2 * garbIns o, w0 := n.w0 + 2 * (192 * mOperands o.k + 2 * garbAnds o), w1 := n.w1 + mOperands o.k }
  else n
def garbs (l : List MOp) : Int := ((l.filter fun o => o.kind == 17).length : Nat)
def needGo : List MOp → MNeed → MNeed
  | [], n => n
  | o :: l, n => needGo l (needStep n o)
def maxOf (l : List Int) : Int := l.foldl max 0
def mNeed (ops : List MOp) : MNeed :=
  if mCheck ops 65536 65536 then
    let n := needGo ops { need0 with rounds := maxOf (mRounds ops) }
    if 0 < garbs ops then { n with t0 := n.t0 + 2 } else n
  else need0

theorem formsGo_rules {e0 e1 : Int} {outs : Nat} : ∀ {l : List MOp} {seen made res : List Int}, formsGo e0 e1 outs l seen made = some res → ∀ (j : Nat) (h : j < l.length), (mRule l[j] e0 e1).2 = true
  | [], _, _, _, _, j, h => by simp at h
  | o :: l, seen, made, res, hf, j, h => by
    rw [formsGo] at hf
    split at hf
    · rename_i hok
      cases j with
      | zero =>
        simp only [opOk, opOk1, Bool.and_eq_true] at hok
        exact hok.1.1.1
      | succ j => exact formsGo_rules hf j (by simpa using h)
    · cases hf
/-- Each operation of a program has a rule. -/
theorem check_rules {ops : List MOp} {e0 e1 : Int} (h : mCheck ops e0 e1 = true) (j : Nat) (hj : j < ops.length) : (mRule ops[j] e0 e1).2 = true := by
  simp only [mCheck, Bool.and_eq_true] at h
  obtain ⟨made, hm⟩ := Option.isSome_iff_exists.1 h.2
  exact formsGo_rules hm j hj
theorem rule_in {o : MOp} {e0 e1 : Int} (h : (mRule o e0 e1).2 = true) (hk : o.kind = 1) : o.party = 0 ∨ o.party = 1 := by
  simp only [mRule, hk, if_true, mInRule] at h
  split at h
  · exact .inl ‹_›
  · split at h
    · exact .inr ‹_›
    · simp at h
theorem rule_garb {o : MOp} {e0 e1 : Int} (h : (mRule o e0 e1).2 = true) (hk : o.kind = 17) : circOk o.k o.c = true := by
  have h1 : ¬ ((17 : Int) = 1) := by decide
  simp only [mRule, hk, if_true, if_neg h1, mGarbRule] at h
  split at h
  · assumption
  · simp at h

/-- All parts of a need lie between 0 and B. -/
def MNeed.small (n : MNeed) (B : Int) : Prop := (0 ≤ n.tri ∧ n.tri ≤ B) ∧ (0 ≤ n.bits ∧ n.bits ≤ B) ∧ (0 ≤ n.ots ∧ n.ots ≤ B) ∧ (0 ≤ n.t0 ∧ n.t0 ≤ B) ∧ (0 ≤ n.t1 ∧ n.t1 ≤ B) ∧ (0 ≤ n.w0 ∧ n.w0 ≤ B) ∧ (0 ≤ n.w1 ∧ n.w1 ≤ B)
theorem needStep_small {n : MNeed} {B : Int} (h : n.small B) (o : MOp) (hr : (mRule o 65536 65536).2 = true) : (needStep n o).small (B + 10000) := by
  unfold needStep
  unfold MNeed.small at h ⊢
  split
  · split <;> (simp only; omega)
  · split
    · simp only; omega
    · split
      · simp only; omega
      · split
        · simp only; omega
        · split
          · rename_i h17
            have := garb_small (rule_garb hr h17)
            have h2 : 1 ≤ mOperands o.k ∧ mOperands o.k ≤ 2 := by unfold mOperands; split <;> omega
            have h3 : garbIns o = ((mMake o.k.toNat o.c).1 : Nat) := rfl
            have h4 : garbAnds o = (ands (mMake o.k.toNat o.c).2.1 : Nat) := rfl
            generalize ands (mMake o.k.toNat o.c).2.1 = A at this h4
            generalize (mMake o.k.toNat o.c).1 = I at this h3
            simp only; omega
          · omega
theorem needStep_rounds (n : MNeed) (o : MOp) : (needStep n o).rounds = n.rounds := by
  unfold needStep
  repeat' split
  all_goals rfl
theorem garbs_take (l : List MOp) (k : Nat) (h : k < l.length) : garbs (l.take (k + 1)) = garbs (l.take k) + if l[k].kind = 17 then 1 else 0 := by
  unfold garbs
  rw [List.take_succ_eq_append_getElem h, List.filter_append]
  by_cases hk : l[k].kind = 17 <;> simp [hk]
theorem garbs_le (l : List MOp) : 0 ≤ garbs l ∧ garbs l ≤ l.length := by
  unfold garbs; have := List.length_filter_le (fun o : MOp => o.kind == 17) l; omega
theorem maxOf_snoc (l : List Int) (x : Int) : maxOf (l ++ [x]) = max (maxOf l) x := by simp [maxOf]
theorem maxOf_upto {n : Int} {l : List Int} (h : Upto n l) (hn : 0 ≤ n) : 0 ≤ maxOf l ∧ maxOf l ≤ n := by
  have : ∀ (l : List Int) (z : Int), Upto n l → 0 ≤ z → z ≤ n → 0 ≤ l.foldl max z ∧ l.foldl max z ≤ n := by
    intro l
    induction l with
    | nil => intro z _ h0 h1; exact ⟨h0, h1⟩
    | cons x l ih =>
      intro z h h0 h1
      have hx := h x (by simp)
      exact ih (max z x) (fun y hy => h y (by simp [hy])) (by omega) (by omega)
  exact this l 0 h (Int.le_refl _) hn
end Go.Proofs.YtjbhgimhcjcpmaaGreatDoor
