/-
  THE CONTRACTS of circ.Make at every kind and forms, and of circ.Ands.
-/
import Derived.Test.YtjbhgimhcjcpmaaGreatDoorMFaultFacts
import Derived.Test.YtjbhgimhcjcpmaaGreatDoorMMake10
import Derived.Test.YtjbhgimhcjcpmaaGreatDoorMMake22
import Derived.Test.YtjbhgimhcjcpmaaGreatDoorMMake30
import Derived.Test.YtjbhgimhcjcpmaaGreatDoorMMake32
set_option linter.unusedSimpArgs false
set_option linter.unusedVariables false
namespace Go.Proofs.YtjbhgimhcjcpmaaGreatDoor
open Go.RowKit

theorem IsErr.but {B : Nat} {w W : World} {b : Nat} {cs : Array Value} {t : TypeId} {fr : Nat × Nat} (hX : w.heap[b]? = some (.cells cs t fr)) (ht : t ≠ 104) (hs : ∀ j, j ≠ b → W.heap[j]? = w.heap[j]?) {B' : Nat} (hB : B ≤ B') :
    ∀ {l : List (ByteArray × Int)} {code : Int} {v : Value}, IsErr B w l code v → IsErr B' W l code v
  | [], _, _, h => h
  | (_, _) :: _, _, _, ⟨k, e, hv, hlt, hh, hr⟩ => ⟨k, e, hv, by omega, (hs k (by intro e; subst e; rw [hX] at hh; simp at hh; exact ht hh.2.1)).trans hh, IsErr.but hX ht hs hB hr⟩

/-- Is there a circuit of this kind, with such forms? -/
def circOk (kind : Int) (f : Nat) : Bool := (kind == 1 && decide (f < 2)) || ((kind == 2 || kind == 3) && decide (f < 4))

theorem make_yes (kind : Int) (f : Nat) (w : World) (h : circOk kind f = true) : Calls Tryz.prog 67 #[.int .i64 kind, .int .u64 f] w (MadeCirc w kind.toNat f) := by
  unfold circOk at h
  simp only [Bool.or_eq_true, Bool.and_eq_true, beq_iff_eq, decide_eq_true_eq] at h
  rcases h with ⟨rfl, h⟩ | ⟨rfl | rfl, h⟩
  · match f, h with
    | 0, _ => exact make_10 w
    | 1, _ => exact make_11 w
  · match f, h with
    | 0, _ => exact make_20 w
    | 1, _ => exact make_21 w
    | 2, _ => exact make_22 w
    | 3, _ => exact make_23 w
  · match f, h with
    | 0, _ => exact make_30 w
    | 1, _ => exact make_31 w
    | 2, _ => exact make_32 w
    | 3, _ => exact make_33 w

set_option maxHeartbeats 1000000 in
set_option maxRecDepth 100000 in
theorem make_no (kind : Int) (f : Nat) (w : World) (h : circOk kind f = false) (hE : ErrT w) :
    Calls Tryz.prog 67 #[.int .i64 kind, .int .u64 f] w fun e w' => ∃ v, e = .returned (.tuple #[.agg #[.int .i64 0, .slice none 0 0, .slice none 0 0], v]) ∧ (∃ l c, IsErr w'.heap.size w' l c v) ∧ Below w.heap.size w w' := by
  have hb0 : Below w.heap.size w (w.alloc (.cells #[.int .i64 0, .slice none 0 0, .slice none 0 0] 117)) := (Below.refl _ _).alloc (Nat.le_refl _) _
  have hE0 := Lib.hid (hE.below hb0)
  have H0 := Lib.hid hb0
  clear hE hb0
  by_cases k1 : kind = 1
  · subst k1
    have hf : 2 ≤ f := by simpa [circOk] using h
    clear h
    go_enter Tryz.func67, Tryz.ntmps67
    go_wp2_with fail
    refine (wrap_errno _ _ _ _ hE0.out).mono ?_
    rintro e w1 ⟨v, rfl, hv, hb1⟩
    have hC := (hb1.block w.heap.size (by simp)).trans (heap_alloc_new w _)
    have hB := H0.out.trans (hb1.mono (by simp))
    have HC := Lib.hid hC
    have HV := Lib.hid hv
    clear hv hC hb1
    go_wp2_with ((with_reducible show wpList _ _ _ (⟨_, Op.store _ (.tmp 4) (.tmp 27), _, _, _, _⟩ :: _) _ _); refine wpList_store_row rfl 117 _ _ rfl w.heap.size _ rfl rfl 117 _ HC.out info_circuit rfl (by simp [Value.oneCell']) ?_)
    refine bodyPost_ret (results_cell_tmp rfl _ _ w.heap.size 117 #[.int .i64 0, .slice none 0 0, .slice none 0 0] _ _ rfl (setRow_heap _ _ _ _ _ _ HC.out) Tryz.underlying117 rfl info_circuit) rfl ?_
    refine ⟨v, rfl, ⟨_, _, IsErr.but HC.out (by decide) (fun j hj => setRow_other _ _ _ _ hj) (by simp) HV.out⟩, below_setRow hB (Nat.le_refl _) _⟩
  · by_cases k2 : kind = 2
    · subst k2
      have hf : 4 ≤ f := by simpa [circOk] using h
      clear h k1
      go_enter Tryz.func67, Tryz.ntmps67
      go_wp2_with fail
      refine (wrap_errno _ _ _ _ hE0.out).mono ?_
      rintro e w1 ⟨v, rfl, hv, hb1⟩
      have hC := (hb1.block w.heap.size (by simp)).trans (heap_alloc_new w _)
      have hB := H0.out.trans (hb1.mono (by simp))
      have HC := Lib.hid hC
      have HV := Lib.hid hv
      clear hv hC hb1
      go_wp2_with ((with_reducible show wpList _ _ _ (⟨_, Op.store _ (.tmp 4) (.tmp 27), _, _, _, _⟩ :: _) _ _); refine wpList_store_row rfl 117 _ _ rfl w.heap.size _ rfl rfl 117 _ HC.out info_circuit rfl (by simp [Value.oneCell']) ?_)
      refine bodyPost_ret (results_cell_tmp rfl _ _ w.heap.size 117 #[.int .i64 0, .slice none 0 0, .slice none 0 0] _ _ rfl (setRow_heap _ _ _ _ _ _ HC.out) Tryz.underlying117 rfl info_circuit) rfl ?_
      refine ⟨v, rfl, ⟨_, _, IsErr.but HC.out (by decide) (fun j hj => setRow_other _ _ _ _ hj) (by simp) HV.out⟩, below_setRow hB (Nat.le_refl _) _⟩
    · by_cases k3 : kind = 3
      · subst k3
        have hf : 4 ≤ f := by simpa [circOk] using h
        clear h k1 k2
        go_enter Tryz.func67, Tryz.ntmps67
        go_wp2_with fail
        refine (wrap_errno _ _ _ _ hE0.out).mono ?_
        rintro e w1 ⟨v, rfl, hv, hb1⟩
        have hC := (hb1.block w.heap.size (by simp)).trans (heap_alloc_new w _)
        have hB := H0.out.trans (hb1.mono (by simp))
        have HC := Lib.hid hC
        have HV := Lib.hid hv
        clear hv hC hb1
        go_wp2_with ((with_reducible show wpList _ _ _ (⟨_, Op.store _ (.tmp 4) (.tmp 27), _, _, _, _⟩ :: _) _ _); refine wpList_store_row rfl 117 _ _ rfl w.heap.size _ rfl rfl 117 _ HC.out info_circuit rfl (by simp [Value.oneCell']) ?_)
        refine bodyPost_ret (results_cell_tmp rfl _ _ w.heap.size 117 #[.int .i64 0, .slice none 0 0, .slice none 0 0] _ _ rfl (setRow_heap _ _ _ _ _ _ HC.out) Tryz.underlying117 rfl info_circuit) rfl ?_
        refine ⟨v, rfl, ⟨_, _, IsErr.but HC.out (by decide) (fun j hj => setRow_other _ _ _ _ hj) (by simp) HV.out⟩, below_setRow hB (Nat.le_refl _) _⟩
      · have b1 : (kind == 1) = false := by simpa using k1
        have b2 : (kind == 2) = false := by simpa using k2
        have b3 : (kind == 3) = false := by simpa using k3
        clear h k1 k2 k3
        go_enter Tryz.func67, Tryz.ntmps67
        go_wp2_with fail
        refine (wrap_errno _ _ _ _ hE0.out).mono ?_
        rintro e w1 ⟨v, rfl, hv, hb1⟩
        have hC := (hb1.block w.heap.size (by simp)).trans (heap_alloc_new w _)
        have hB := H0.out.trans (hb1.mono (by simp))
        have HC := Lib.hid hC
        have HV := Lib.hid hv
        clear hv hC hb1
        go_wp2_with ((with_reducible show wpList _ _ _ (⟨_, Op.store _ (.tmp 4) (.tmp 27), _, _, _, _⟩ :: _) _ _); refine wpList_store_row rfl 117 _ _ rfl w.heap.size _ rfl rfl 117 _ HC.out info_circuit rfl (by simp [Value.oneCell']) ?_)
        refine bodyPost_ret (results_cell_tmp rfl _ _ w.heap.size 117 #[.int .i64 0, .slice none 0 0, .slice none 0 0] _ _ rfl (setRow_heap _ _ _ _ _ _ HC.out) Tryz.underlying117 rfl info_circuit) rfl ?_
        refine ⟨v, rfl, ⟨_, _, IsErr.but HC.out (by decide) (fun j hj => setRow_other _ _ _ _ hj) (by simp) HV.out⟩, below_setRow hB (Nat.le_refl _) _⟩
end Go.Proofs.YtjbhgimhcjcpmaaGreatDoor

/-
  THE CONTRACT of circ.Ands.
-/
namespace Go.Proofs.YtjbhgimhcjcpmaaGreatDoor
open Go.RowKit

/-- How many And gates. -/
def ands (gs : List Gate) : Nat := (gs.filter fun g => g.k == 2).length
theorem ands_take (gs : List Gate) (k : Nat) (h : k < gs.length) : ands (gs.take (k + 1)) = ands (gs.take k) + if gs[k].k == 2 then 1 else 0 := by
  unfold ands
  rw [List.take_succ_eq_append_getElem h, List.filter_append]
  by_cases hk : gs[k].k == 2 <;> simp [hk]
theorem ands_le (gs : List Gate) : ands gs ≤ gs.length := List.length_filter_le _ _
theorem gcells_len (gs : List Gate) : (gcells gs).length = gs.length * 3 := by
  induction gs with
  | nil => rfl
  | cons g gs ih => simp only [gcells, List.flatMap_cons, List.length_append, List.length_cons] at *; rw [ih]; simp [Gate.cells]; omega
theorem gcells_get : ∀ (gs : List Gate) (k j : Nat) (h : k < gs.length), j < 3 → (gcells gs)[k * 3 + j]? = (gs[k]).cells[j]?
  | g :: gs, 0, j, _, hj => by
    simp only [gcells, List.flatMap_cons, Nat.zero_mul, Nat.zero_add, List.getElem_cons_zero]
    rw [List.getElem?_append_left (by simp [Gate.cells]; omega)]
  | g :: gs, k + 1, j, h, hj => by
    have := gcells_get gs k j (by simpa using h) hj
    simp only [gcells, List.flatMap_cons, List.getElem_cons_succ] at *
    rw [List.getElem?_append_right (by simp [Gate.cells]; omega)]
    rw [← this]; congr 1; simp [Gate.cells]; omega

set_option maxHeartbeats 1000000 in
set_option maxRecDepth 100000 in
theorem ands_any (n : Int) (gv ov : Value) (gs : List Gate) (w : World) (hg : Arr w.heap.size w 3 gv gs.length (gcells gs)) :
    Calls Tryz.prog 69 #[.agg #[.int .i64 n, gv, ov]] w fun e w' => e = .returned (.int .i64 (ands gs : Nat)) ∧ Below w.heap.size w w' := by
  obtain ⟨ao, c, rfl, hc, hm, hl, hcell⟩ := hg.open
  have HC := Lib.hid hcell
  unfold maxLen at hm
  clear hcell hl hg
  go_enter Tryz.func69, Tryz.ntmps69
  go_wp2_with fail
  go_loopw [3, 9] (fun x i wr => ∃ k : Nat, k ≤ gs.length ∧ i = .int .i64 k ∧ x = .int .i64 (ands (gs.take k) : Nat) ∧ Below w.heap.size w wr) (fun _ i _ => gs.length - (intOf i).toNat)
  case atStart => exact ⟨0, Nat.zero_le _, rfl, rfl, (Below.refl _ _).alloc (Nat.le_refl _) _⟩
  case round =>
    obtain ⟨k, hk, rfl, rfl, hb⟩ := hrel
    have hle := ands_le (gs.take k)
    rw [List.length_take] at hle
    by_cases hkl : k < gs.length
    · obtain ⟨b, off, rfl, hbl, hcells⟩ := HC.out (by omega)
      have hcx : ∀ j, j < 3 → wr.cell? ⟨b, off + (k * 3 + j), none⟩ = (gs[k]).cells[j]? := fun j hj => by rw [hb.cell hbl, hcells _ (by omega), gcells_get gs k j hkl hj]
      have c0 : wr.cell? ⟨b, off + k * 3, none⟩ = some (.int .i64 gs[k].k) := hcx 0 (by omega)
      have c1 : wr.cell? ⟨b, off + k * 3 + 1, none⟩ = some (.int .i64 gs[k].a) := hcx 1 (by omega)
      have c2 : wr.cell? ⟨b, off + k * 3 + 2, none⟩ = some (.int .i64 gs[k].b) := hcx 2 (by omega)
      have HT := Lib.hid (ands_take gs k hkl)
      generalize gs[k] = g at c0 c1 c2 HT
      clear hcx hcells
      have hsz := hb.size
      by_cases hg2 : g.k = 2
      · have hg3 : (g.k == 2) = true := by simpa using hg2
        clear hg2
        go_wp2_with fail
        go_roundw
        case rel => exact ⟨k + 1, by omega, by go_num, by rw [HT.out, hg3]; go_num, hb.alloc hsz _⟩
        case measure => simp [intOf]; omega
      · have hg3 : (g.k == 2) = false := by simpa using hg2
        clear hg2
        go_wp2_with fail
        go_roundw
        case rel => exact ⟨k + 1, by omega, by go_num, by rw [HT.out, hg3]; rfl, hb.alloc hsz _⟩
        case measure => simp [intOf]; omega
    · obtain rfl : k = gs.length := by omega
      go_wp2_with fail
      go_ret
      exact ⟨by rw [List.take_length]; rfl, hb⟩
end Go.Proofs.YtjbhgimhcjcpmaaGreatDoor

/-
  THE CONTRACTS of micro's small functions: told, fits, formOf, wants, all, operands.
-/
namespace Go.Proofs.YtjbhgimhcjcpmaaGreatDoor
open Go.RowKit

/-- A micro-operation, as data. -/
structure MOp where
  kind : Int
  a : Int
  b : Int
  k : Int
  c : Nat
  party : Int
def MOp.arr (o : MOp) : Array Value := #[.int .i64 o.kind, .int .i64 o.a, .int .i64 o.b, .int .i64 o.k, .int .u64 o.c, .int .i64 o.party]
abbrev MOp.cells (o : MOp) : List Value := [.int .i64 o.kind, .int .i64 o.a, .int .i64 o.b, .int .i64 o.k, .int .u64 o.c, .int .i64 o.party]
def ocells (l : List MOp) : List Value := l.flatMap MOp.cells

def mTold (o : MOp) : Bool := o.kind == 18 || o.kind == 19
def mFits (f w : Int) : Bool := f == w || (f == 3 && w != 0)
def mFormOf (c : Nat) : Int := if c % 2 = 1 then 2 else 1
def mWants (made : List Int) (at_ w : Int) : Bool := if w = 0 then at_ == 0 else decide (0 ≤ at_) && decide (at_ < made.length) && mFits (made.getD at_.toNat 0) w

set_option maxHeartbeats 400000 in
set_option maxRecDepth 100000 in
theorem told_any (kind a b k party : Int) (c : Nat) (w : World) :
    Calls Tryz.prog 109 #[.agg #[.int .i64 kind, .int .i64 a, .int .i64 b, .int .i64 k, .int .u64 c, .int .i64 party]] w fun e w' => e = .returned (.bool (kind == 18 || kind == 19)) ∧ Below w.heap.size w w' := by
  by_cases h1 : kind = 18
  · subst h1
    go_enter Tryz.func109, Tryz.ntmps109
    go_wp2_with fail
    go_ret
    exact ⟨rfl, (Below.refl _ _).alloc (Nat.le_refl _) _⟩
  · have h1' : (kind == 18) = false := by simpa using h1
    clear h1
    go_enter Tryz.func109, Tryz.ntmps109
    go_wp2_with fail
    go_ret
    exact ⟨by rw [h1']; rfl, (Below.refl _ _).alloc (Nat.le_refl _) _⟩

set_option maxHeartbeats 400000 in
theorem fits_any (f m : Int) (w : World) : Calls Tryz.prog 127 #[.int .i64 f, .int .i64 m] w fun e w' => e = .returned (.bool (mFits f m)) ∧ w = w' := by
  unfold mFits
  by_cases h1 : f = m
  · have h1' : (f == m) = true := by simpa using h1
    clear h1
    go_enter Tryz.func127, Tryz.ntmps127
    go_wp2_with fail
    go_ret
    exact ⟨by rw [h1']; rfl, rfl⟩
  · have h1' : (f == m) = false := by simpa using h1
    clear h1
    by_cases h2 : f = 3
    · have h2' : (f == 3) = true := by simpa using h2
      clear h2
      go_enter Tryz.func127, Tryz.ntmps127
      go_wp2_with fail
      go_ret
      exact ⟨by rw [h1', h2']; rfl, rfl⟩
    · have h2' : (f == 3) = false := by simpa using h2
      clear h2
      go_enter Tryz.func127, Tryz.ntmps127
      go_wp2_with fail
      go_ret
      exact ⟨by rw [h1', h2']; rfl, rfl⟩

theorem bit_one (c : Nat) (hc : c < 18446744073709551616) : bits .and .u64 (c : Int) 1 = ((c % 2 : Nat) : Int) := by
  have := u64_and_nat c 1 hc (by decide)
  rw [show ((1 : Int)) = ((1 : Nat) : Int) from rfl, this, nat_mask1]

set_option maxHeartbeats 400000 in
set_option maxRecDepth 100000 in
theorem formOf_any (c : Nat) (w : World) (hc : c < 18446744073709551616) : Calls Tryz.prog 128 #[.int .u64 c] w fun e w' => e = .returned (.int .i64 (mFormOf c)) ∧ w = w' := by
  have hb := bit_one c hc
  unfold mFormOf
  by_cases h : c % 2 = 1
  · rw [h] at hb
    rw [if_pos h]
    have hb1 : bits .and .u64 (c : Int) 1 = 1 := hb
    clear hb h hc
    go_enter Tryz.func128, Tryz.ntmps128
    go_wp2_with fail
    go_ret
    exact ⟨rfl, rfl⟩
  · rw [show c % 2 = 0 by omega] at hb
    rw [if_neg h]
    have hb1 : bits .and .u64 (c : Int) 1 = 0 := hb
    clear hb h hc
    go_enter Tryz.func128, Tryz.ntmps128
    go_wp2_with fail
    go_ret
    exact ⟨rfl, rfl⟩

set_option maxHeartbeats 400000 in
theorem all_any (w : World) : Calls Tryz.prog 66 #[] w fun e w' => e = .returned (.agg #[.int .i64 65536, .int .i64 65536]) ∧ Below w.heap.size w w' := by
  go_enter Tryz.func66, Tryz.ntmps66
  go_wp2_with fail
  exact bodyPost_ret (v := .agg #[.int .i64 65536, .int .i64 65536]) (by simp [results, Tryz.results66, go_sem]) rfl ⟨rfl, by first | exact (Below.refl _ _).alloc (Nat.le_refl _) _ | exact ((((Below.refl _ _).alloc (Nat.le_refl _) _).setCell (by simp) _).setCell (by simp) _)⟩

set_option maxHeartbeats 400000 in
theorem operands_any (kind a b k party : Int) (c : Nat) (w : World) :
    Calls Tryz.prog 68 #[.agg #[.int .i64 kind, .int .i64 a, .int .i64 b, .int .i64 k, .int .u64 c, .int .i64 party]] w fun e w' => e = .returned (.int .i64 (if k = 1 then 1 else 2)) ∧ Below w.heap.size w w' := by
  by_cases h1 : k = 1
  · subst h1
    go_enter Tryz.func68, Tryz.ntmps68
    go_wp2_with fail
    go_ret
    exact ⟨rfl, (Below.refl _ _).alloc (Nat.le_refl _) _⟩
  · rw [if_neg h1]
    have h1' : (k == 1) = false := by simpa using h1
    clear h1
    go_enter Tryz.func68, Tryz.ntmps68
    go_wp2_with fail
    go_ret
    exact ⟨rfl, (Below.refl _ _).alloc (Nat.le_refl _) _⟩
end Go.Proofs.YtjbhgimhcjcpmaaGreatDoor

/-
  THE CONTRACTS of micro.wants and micro.garbRule.
-/
namespace Go.Proofs.YtjbhgimhcjcpmaaGreatDoor
open Go.RowKit

set_option maxHeartbeats 1000000 in
set_option maxRecDepth 100000 in
theorem wants_any (mv : Value) (made : List Int) (at_ m : Int) (w : World) (hv : Arr w.heap.size w 1 mv made.length (ints made)) :
    Calls Tryz.prog 110 #[mv, .int .i64 at_, .int .i64 m] w fun e w' => e = .returned (.bool (mWants made at_ m)) ∧ w = w' := by
  obtain ⟨ao, c, rfl, hc, hm, hl, hcell⟩ := hv.open
  have HC := Lib.hid hcell
  unfold maxLen at hm
  clear hcell hl hv
  unfold mWants
  by_cases h0 : m = 0
  · subst h0
    rw [if_pos rfl]
    go_enter Tryz.func110, Tryz.ntmps110
    go_wp2_with fail
    go_ret
    exact ⟨rfl, rfl⟩
  · rw [if_neg h0]
    have h0' : (m == 0) = false := by simpa using h0
    clear h0
    by_cases h1 : 0 ≤ at_
    · obtain ⟨j, rfl⟩ := Int.eq_ofNat_of_zero_le h1
      by_cases h2 : j < made.length
      · obtain ⟨b, off, rfl, hb, hcells⟩ := HC.out (by omega)
        have hcx : w.cell? ⟨b, off + j, none⟩ = some (.int .i64 made[j]) := by rw [hcells j (by omega), ints_get made j h2]
        have hf : mFits (made.getD j 0) m = mFits made[j] m := by simp [List.getD, h2]
        have HF := Lib.hid hf
        have h1' : decide ((0 : Int) ≤ j) = true := by simp
        have h2' : decide ((j : Int) < made.length) = true := by simp; omega
        clear hcells hf
        go_enter Tryz.func110, Tryz.ntmps110
        go_wp2_with (go_at_call 127; refine (fits_any _ _ _).mono ?_; rintro e w' ⟨rfl, rfl⟩)
        go_ret
        exact ⟨by rw [Int.toNat_natCast, HF.out, h1', h2']; simp, rfl⟩
      · have h2' : decide ((j : Int) < made.length) = false := by simp; omega
        go_enter Tryz.func110, Tryz.ntmps110
        go_wp2_with fail
        go_ret
        exact ⟨by rw [h2']; simp, rfl⟩
    · have h1' : decide (0 ≤ at_) = false := by simpa using h1
      go_enter Tryz.func110, Tryz.ntmps110
      go_wp2_with fail
      go_ret
      exact ⟨by first | rfl | (rw [h1']; simp), rfl⟩
end Go.Proofs.YtjbhgimhcjcpmaaGreatDoor

/-
  PLAIN MIRRORS of package micro: rules, forms, rounds.
-/
namespace Go.Proofs.YtjbhgimhcjcpmaaGreatDoor
open Go.RowKit

/-- What a contract that makes memory leaves as it was, in the walk's spelling. -/
theorem bcell {W w1 : World} (hb : Below W.heap.size W w1) : (∀ b o, b < W.heap.size → w1.cell? ⟨b, o, none⟩ = W.cell? ⟨b, o, none⟩) ∧ (∀ b o, b < W.heap.size → w1.frozen? ⟨b, o, none⟩ = W.frozen? ⟨b, o, none⟩) :=
  ⟨fun b o h => hb.cell (p := ⟨b, o, none⟩) h, fun b o h => hb.frozen (p := ⟨b, o, none⟩) h⟩

theorem lt_of_block' {w : World} {g : Nat} {x : Obj} (h : w.heap[g]? = some x) : g < w.heap.size := (Array.getElem?_eq_some_iff.1 h).1
/-- A call behind one, two, three new blocks: they stand, what was there stands. -/
theorem after1 {w w1 : World} {a : Obj} (hb : Below (w.alloc a).heap.size (w.alloc a) w1) : w1.heap[w.heap.size]? = some a ∧ Below w.heap.size w w1 ∧ w.heap.size + 1 ≤ w1.heap.size :=
  ⟨(hb.block _ (by rw [World.size_alloc]; omega)).trans (heap_alloc_new _ _), ((Below.refl _ _).alloc (Nat.le_refl _) _).trans (hb.mono (by rw [World.size_alloc]; omega)), by have := hb.size; rw [World.size_alloc] at this; exact this⟩
theorem after2 {w w1 : World} {a b : Obj} (hb : Below ((w.alloc a).alloc b).heap.size ((w.alloc a).alloc b) w1) : w1.heap[w.heap.size]? = some a ∧ w1.heap[w.heap.size + 1]? = some b ∧ Below w.heap.size w w1 ∧ w.heap.size + 2 ≤ w1.heap.size :=
  ⟨(hb.block _ (by rw [World.size_alloc, World.size_alloc]; omega)).trans (heap_alloc2_old _ _ _), (hb.block _ (by rw [World.size_alloc, World.size_alloc]; omega)).trans (heap_alloc2_new _ _ _),
    (((Below.refl _ _).alloc (Nat.le_refl _) _).alloc (by rw [World.size_alloc]; omega) _).trans (hb.mono (by rw [World.size_alloc, World.size_alloc]; omega)), by have := hb.size; rw [World.size_alloc, World.size_alloc] at this; exact this⟩
theorem after3 {w w1 : World} {a b c : Obj} (hb : Below (((w.alloc a).alloc b).alloc c).heap.size (((w.alloc a).alloc b).alloc c) w1) :
    w1.heap[w.heap.size]? = some a ∧ w1.heap[w.heap.size + 1]? = some b ∧ w1.heap[w.heap.size + 2]? = some c ∧ Below w.heap.size w w1 ∧ w.heap.size + 3 ≤ w1.heap.size := by
  have h := after2 hb
  rw [World.size_alloc] at h
  obtain ⟨h1, h2, h3, h4⟩ := h
  obtain ⟨k1, k2, k3⟩ := after1 (a := a) (w := w) (w1 := w1) (by rw [World.size_alloc]; exact h3)
  refine ⟨k1, h1, h2, k2, by omega⟩
theorem below_alloc2 (w : World) (a b : Obj) : Below w.heap.size w ((w.alloc a).alloc b) := ((Below.refl _ _).alloc (Nat.le_refl _) _).alloc (by simp) _
theorem below_alloc3 (w : World) (a b c : Obj) : Below w.heap.size w (((w.alloc a).alloc b).alloc c) := (((Below.refl _ _).alloc (Nat.le_refl _) _).alloc (by simp) _).alloc (by simp; omega) _
/-- What is returned; memory that there was stays. -/
def RetB (v : Value) (w : World) (e : Ending) (w' : World) : Prop := e = .returned v ∧ Below w.heap.size w w'

theorem old1 {w : World} {g : Nat} {x : Obj} (a : Obj) (h : w.heap[g]? = some x) : (w.alloc a).heap[g]? = some x := (heap_alloc_old w a (lt_of_block' h)).trans h
theorem old2 {w : World} {g : Nat} {x : Obj} (a b : Obj) (h : w.heap[g]? = some x) : ((w.alloc a).alloc b).heap[g]? = some x := old1 b (old1 a h)
theorem old3 {w : World} {g : Nat} {x : Obj} (a b c : Obj) (h : w.heap[g]? = some x) : (((w.alloc a).alloc b).alloc c).heap[g]? = some x := old1 c (old2 a b h)

structure Rule where
  a : Int
  b : Int
  makes : Int
  k : Int
  c : Bool
  party : Bool
  rounds : Int
def rule0 : Rule := ⟨0, 0, 0, 0, false, false, 0⟩
def Rule.arr (r : Rule) : Array Value := #[.int .i64 r.a, .int .i64 r.b, .int .i64 r.makes, .int .i64 r.k, .bool r.c, .bool r.party, .int .i64 r.rounds]
def Rule.out (r : Rule × Bool) : Value := .tuple #[.agg r.1.arr, .bool r.2]

def mGarbRule (k : Int) (c : Nat) : Rule × Bool := if circOk k c then (⟨mFormOf c, if k = 1 then 0 else mFormOf (c / 2), 2, 4, true, false, 2⟩, true) else (rule0, false)
def mInRule (party e0 e1 : Int) : Rule × Bool :=
  if party = 0 then (⟨0, 0, 1, e0, false, true, 1⟩, decide (0 < e0)) else if party = 1 then (⟨0, 0, 1, e1, false, true, 1⟩, decide (0 < e1)) else (rule0, false)
/-- The rules that the kind alone says. -/
def tabRule (kind : Int) : Rule × Bool :=
  if kind = 2 then (⟨0, 0, 3, 0, true, false, 0⟩, true)
  else if kind = 3 ∨ kind = 4 then (⟨1, 1, 1, 0, false, false, 0⟩, true)
  else if kind = 5 then (⟨1, 0, 1, 0, true, false, 0⟩, true)
  else if kind = 6 then (⟨1, 1, 1, 0, false, false, 1⟩, true)
  else if kind = 7 then (⟨2, 2, 2, 0, false, false, 0⟩, true)
  else if kind = 8 ∨ kind = 10 then (⟨2, 0, 2, 0, true, false, 0⟩, true)
  else if kind = 9 then (⟨2, 2, 2, 0, false, false, 1⟩, true)
  else if kind = 11 ∨ kind = 12 ∨ kind = 13 then (⟨2, 0, 2, 64, false, false, 0⟩, true)
  else if kind = 14 then (⟨2, 0, 2, 0, false, false, 0⟩, true)
  else if kind = 15 then (⟨1, 0, 2, 0, false, true, 0⟩, true)
  else if kind = 16 then (⟨2, 0, 1, 64, false, true, 0⟩, true)
  else if kind = 18 then (⟨1, 0, 0, 0, false, false, 1⟩, true)
  else if kind = 19 then (⟨2, 0, 0, 0, false, false, 1⟩, true)
  else (rule0, false)
def mRule (o : MOp) (e0 e1 : Int) : Rule × Bool :=
  if o.kind = 1 then mInRule o.party e0 e1 else if o.kind = 17 then mGarbRule o.k o.c else tabRule o.kind

theorem tabRule_known (kind : Int) (h : (tabRule kind).2 = true) : kind = 2 ∨ kind = 3 ∨ kind = 4 ∨ kind = 5 ∨ kind = 6 ∨ kind = 7 ∨ kind = 8 ∨ kind = 9 ∨ kind = 10 ∨ kind = 11 ∨ kind = 12 ∨ kind = 13 ∨ kind = 14 ∨ kind = 15 ∨ kind = 16 ∨ kind = 18 ∨ kind = 19 := by
  refine Classical.byContradiction fun hn => ?_
  simp only [not_or] at hn
  simp [tabRule, hn, rule0] at h

theorem tabRule_none (kind : Int) (h : (tabRule kind).2 = false) : tabRule kind = (rule0, false) := by
  have hn : ¬ (kind = 2 ∨ kind = 3 ∨ kind = 4 ∨ kind = 5 ∨ kind = 6 ∨ kind = 7 ∨ kind = 8 ∨ kind = 9 ∨ kind = 10 ∨ kind = 11 ∨ kind = 12 ∨ kind = 13 ∨ kind = 14 ∨ kind = 15 ∨ kind = 16 ∨ kind = 18 ∨ kind = 19) := by
    rintro (rfl | rfl | rfl | rfl | rfl | rfl | rfl | rfl | rfl | rfl | rfl | rfl | rfl | rfl | rfl | rfl | rfl) <;> exact absurd h (by decide)
  simp only [not_or] at hn
  simp [tabRule, hn]

/-- How many operations tell a word. -/
def mOuts (l : List MOp) : Nat := (l.filter mTold).length

/-- One operation is one of the program: behind the forms 'made', the numbers 'seen' being told already. -/
def opOk1 (outs : Nat) (seen : List Int) (o : MOp) (r : Rule × Bool) : Bool := r.2 && (!mTold o || (decide (0 ≤ o.k) && decide (o.k < outs) && (seen.getD o.k.toNat 0 == 0)))
def opK (outs : Nat) (o : MOp) (r : Rule × Bool) : Int := if mTold o then outs else r.1.k
def opNum (outs : Nat) (o : MOp) (r : Rule × Bool) : Bool :=
  ((decide (0 < opK outs o r) && decide (0 ≤ o.k) && decide (o.k < opK outs o r)) || (o.k == 0)) && (r.1.c || (o.c == 0)) && ((r.1.party && (o.party == 0 || o.party == 1)) || (o.party == 0))
def opOk (outs : Nat) (seen made : List Int) (o : MOp) (r : Rule × Bool) : Bool := opOk1 outs seen o r && (mWants made o.a r.1.a && mWants made o.b r.1.b) && opNum outs o r
def opSeen (seen : List Int) (o : MOp) (ok1 : Bool) : List Int := if mTold o && ok1 then seen.set o.k.toNat 1 else seen

/-- The forms that the operations make; none: they are no program (at which place). -/
def formsGo (e0 e1 : Int) (outs : Nat) : List MOp → List Int → List Int → Option (List Int)
  | [], _, made => some made
  | o :: l, seen, made =>
    if opOk outs seen made o (mRule o e0 e1) then formsGo e0 e1 outs l (opSeen seen o (opOk1 outs seen o (mRule o e0 e1))) (made ++ [(mRule o e0 e1).1.makes]) else none
def mForms (ops : List MOp) (e0 e1 : Int) : Option (List Int) := formsGo e0 e1 (mOuts ops) ops (List.replicate (mOuts ops) 0) []

def mCheck (ops : List MOp) (e0 e1 : Int) : Bool :=
  decide (0 ≤ e0) && decide (e0 ≤ 65536) && decide (0 ≤ e1) && decide (e1 ≤ 65536) && decide (ops.length ≤ 16384) && (mForms ops e0 e1).isSome

/-- The round of each operation. -/
def ahead (out : List Int) (o : MOp) (r : Rule) : Int :=
  if r.b = 0 then (if r.a = 0 then 0 else out.getD o.a.toNat 0) else max (if r.a = 0 then 0 else out.getD o.a.toNat 0) (out.getD o.b.toNat 0)
def roundsGo : List MOp → List Int → List Int
  | [], out => out
  | o :: l, out => roundsGo l (out ++ [ahead out o (mRule o 65536 65536).1 + (mRule o 65536 65536).1.rounds])
def mRounds (ops : List MOp) : List Int := if mCheck ops 65536 65536 then roundsGo ops [] else []
end Go.Proofs.YtjbhgimhcjcpmaaGreatDoor
