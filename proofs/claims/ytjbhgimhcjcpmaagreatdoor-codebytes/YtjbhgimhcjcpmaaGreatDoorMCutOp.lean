/-
  THE CONTRACT of code's cutter: op.
-/
import Derived.Test.YtjbhgimhcjcpmaaGreatDoorMCutShapes
import Derived.Test.YtjbhgimhcjcpmaaGreatDoorMStepApp
import Derived.Deep.Light
import Derived.Deep.DrawnRows
import Derived.Test.YtjbhgimhcjcpmaaGreatDoorMPlanCheck
set_option linter.unusedSimpArgs false
set_option linter.unusedVariables false
namespace Go.Proofs.YtjbhgimhcjcpmaaGreatDoor
open Go.RowKit

/-- A word out of its bytes, the lowest first. -/
def wh8 : List Nat → Nat
  | [] => 0
  | x :: l => x + 256 * wh8 l
/-- An operation at the front. -/
def pOp (bs : List Nat) : Option (MOp × List Nat) :=
  (pNum bs).bind fun x1 => (pNum x1.2).bind fun x2 => (pNum x2.2).bind fun x3 => (pNum x3.2).bind fun x4 => (pNum x4.2).bind fun x5 =>
    if x5.2.length < 8 then none else some (⟨x1.1, x2.1, x3.1, x4.1, wh8 (x5.2.take 8), x5.1⟩, x5.2.drop 8)

theorem wh8_lt : ∀ (l : List Nat), (∀ x ∈ l, x < 256) → wh8 l < 256 ^ l.length
  | [], _ => by simp [wh8]
  | x :: l, h => by
    have h1 := wh8_lt l fun y hy => h y (by simp [hy])
    have h2 := h x (by simp)
    rw [wh8, List.length_cons, Nat.pow_succ]
    omega
theorem wh8_snoc : ∀ (l : List Nat) (x : Nat), wh8 (l ++ [x]) = wh8 l + x * 256 ^ l.length
  | [], x => by simp [wh8]
  | y :: l, x => by
    rw [List.cons_append, wh8, wh8, wh8_snoc l x, List.length_cons, Nat.pow_succ, Nat.mul_add]
    have : x * (256 ^ l.length * 256) = 256 * (x * 256 ^ l.length) := by rw [← Nat.mul_assoc, Nat.mul_comm]
    omega

theorem info_op : (Tryz.prog.info? 44).map (·.size) = some 6 := by kernel_rfl
theorem grown_setRow (W : World) (b : Nat) (cs : Array Value) : W.grownBy (W.setRow b cs) (some b) :=
  ⟨rfl, rfl, rfl, by simp, fun k _ hk => setRow_other _ _ _ _ (fun e => hk (by rw [e]))⟩

theorem row_ne {a b m : Nat} (h : m ≤ a) (h2 : a ≠ b) : ∀ k, some a = some k → m ≤ k ∧ k ≠ b := by
  rintro k e; obtain rfl := Option.some.inj e; exact ⟨h, h2⟩
theorem row_new {a m : Nat} {r : Option Nat} (h : m ≤ a) : ∀ j, some a = some j → m ≤ j ∨ r = some j := by
  rintro k e; obtain rfl := Option.some.inj e; exact .inl h

/-- The block of an operation that is being read, behind whatever was called. -/
structure OpAt (w : World) (Bc : Nat) (W0 : World) (o : MOp) (Bo : Nat) (bs : List Nat) (W : World) : Prop where
  cut : Cut w Bc bs W
  res : W.heap[W0.heap.size]? = some (.cells #[.int .i64 0, .int .i64 0, .int .i64 0, .int .i64 0, .int .u64 0, .int .i64 0] 44 (0, 0))
  op : W.heap[Bo]? = some (.cells o.arr 44 (0, 0))
  grown : W0.grownBy W (some Bc)
  lt : W0.heap.size < Bo
structure ZeroAt (w : World) (Bc : Nat) (W0 : World) (bs : List Nat) (W : World) : Prop where
  cut : Cut w Bc bs W
  res : W.heap[W0.heap.size]? = some (.cells #[.int .i64 0, .int .i64 0, .int .i64 0, .int .i64 0, .int .u64 0, .int .i64 0] 44 (0, 0))
  grown : W0.grownBy W (some Bc)
  lt : Bc < W0.heap.size
theorem ZeroAt.later {w : World} {Bc : Nat} {W0 : World} {bs r : List Nat} {W W' : World} (h : ZeroAt w Bc W0 bs W) (hc : Cut w Bc r W') (hg : W.grownBy W' (some Bc)) : ZeroAt w Bc W0 r W' :=
  ⟨hc, (hg.block _ (lt_of_block h.res) (by have := h.lt; simp; omega)).trans h.res, h.grown.andThen hg fun j hj => .inr hj, h.lt⟩

set_option maxHeartbeats 4000000 in
set_option maxRecDepth 100000 in
theorem cutOp_any (w : World) (Bc : Nat) (bs : List Nat) (W : World) (h : Cut w Bc bs W) :
    Calls Tryz.prog 32 #[.pointer (some ⟨Bc, 0, none⟩)] W (CutPost w Bc W (pOp bs) fun o e _ => e = .returned (.agg o.arr)) := by
  have hlt : Bc < W.heap.size := by obtain ⟨sv, hb, _⟩ := h.box; exact lt_of_block hb
  have HZ := Lib.hid (show ZeroAt w Bc W bs (W.alloc (.cells #[.int .i64 0, .int .i64 0, .int .i64 0, .int .i64 0, .int .u64 0, .int .i64 0] 44)) from
    ⟨h.kept (World.grownBy_alloc W _ none) (fun _ hk => by cases hk), heap_alloc_new _ _, World.grownBy_alloc W _ _, hlt⟩)
  have HP := Lib.hid (show pOp bs = pOp bs from rfl)
  clear h
  have HZ0 := HZ
  clear HZ
  go_enter Tryz.func32, Tryz.ntmps32
  go_wp2_with fail
  rcases hp : pNum bs with _ | ⟨n1, r1⟩
  · have HN1 := Lib.hid hp
    clear hp
    as_aux_lemma =>
      go_at_call 29
      refine (cutNumber_no w Bc _ _ HZ0.out.cut HN1.out).mono ?_
      rintro e w1 ⟨⟨q, hq, rfl⟩, rfl⟩
      go_wp2_with fail
      exact ⟨rfl, by unfold CutPost; rw [pOp, HN1.out]; exact ⟨⟨q, hq, rfl⟩, HZ0.out.grown⟩⟩
  have HN1 := Lib.hid hp
  have hb1 := (pNum_some hp).choose_spec.2.2.2.2.1
  clear hp
  go_at_call 29
  refine (cutNumber_yes w Bc _ _ _ _ HZ0.out.cut HN1.out).mono ?_
  rintro e w1 ⟨rfl, hc, hg⟩
  have HZ1 := Lib.hid (HZ0.out.later hc hg)
  clear hc hg HZ0
  go_wp2_with fail
  rcases hp : pNum r1 with _ | ⟨n2, r2⟩
  · have HN2 := Lib.hid hp
    clear hp
    as_aux_lemma =>
      go_at_call 29
      refine (cutNumber_no w Bc _ _ HZ1.out.cut HN2.out).mono ?_
      rintro e w2 ⟨⟨q, hq, rfl⟩, rfl⟩
      go_wp2_with fail
      exact ⟨rfl, by unfold CutPost; rw [pOp, HN1.out]; simp only [Option.bind_some]; rw [HN2.out]; exact ⟨⟨q, hq, rfl⟩, HZ1.out.grown⟩⟩
  have HN2 := Lib.hid hp
  have hb2 := (pNum_some hp).choose_spec.2.2.2.2.1
  clear hp
  go_at_call 29
  refine (cutNumber_yes w Bc _ _ _ _ HZ1.out.cut HN2.out).mono ?_
  rintro e w2 ⟨rfl, hc, hg⟩
  have HZ2 := Lib.hid (HZ1.out.later hc hg)
  clear hc hg HZ1
  go_wp2_with fail
  rcases hp : pNum r2 with _ | ⟨n3, r3⟩
  · have HN3 := Lib.hid hp
    clear hp
    as_aux_lemma =>
      go_at_call 29
      refine (cutNumber_no w Bc _ _ HZ2.out.cut HN3.out).mono ?_
      rintro e w3 ⟨⟨q, hq, rfl⟩, rfl⟩
      go_wp2_with fail
      exact ⟨rfl, by unfold CutPost; rw [pOp, HN1.out]; simp only [Option.bind_some]; rw [HN2.out]; simp only [Option.bind_some]; rw [HN3.out]; exact ⟨⟨q, hq, rfl⟩, HZ2.out.grown⟩⟩
  have HN3 := Lib.hid hp
  have hb3 := (pNum_some hp).choose_spec.2.2.2.2.1
  clear hp
  go_at_call 29
  refine (cutNumber_yes w Bc _ _ _ _ HZ2.out.cut HN3.out).mono ?_
  rintro e w3 ⟨rfl, hc, hg⟩
  have HZ3 := Lib.hid (HZ2.out.later hc hg)
  clear hc hg HZ2
  go_wp2_with fail
  rcases hp : pNum r3 with _ | ⟨n4, r4⟩
  · have HN4 := Lib.hid hp
    clear hp
    as_aux_lemma =>
      go_at_call 29
      refine (cutNumber_no w Bc _ _ HZ3.out.cut HN4.out).mono ?_
      rintro e w4 ⟨⟨q, hq, rfl⟩, rfl⟩
      go_wp2_with fail
      exact ⟨rfl, by unfold CutPost; rw [pOp, HN1.out]; simp only [Option.bind_some]; rw [HN2.out]; simp only [Option.bind_some]; rw [HN3.out]; simp only [Option.bind_some]; rw [HN4.out]; exact ⟨⟨q, hq, rfl⟩, HZ3.out.grown⟩⟩
  have HN4 := Lib.hid hp
  have hb4 := (pNum_some hp).choose_spec.2.2.2.2.1
  clear hp
  go_at_call 29
  refine (cutNumber_yes w Bc _ _ _ _ HZ3.out.cut HN4.out).mono ?_
  rintro e w4 ⟨rfl, hc, hg⟩
  have HZ4 := Lib.hid (HZ3.out.later hc hg)
  clear hc hg HZ3
  go_wp2_with fail
  rcases hp : pNum r4 with _ | ⟨n5, r5⟩
  · have HN5 := Lib.hid hp
    clear hp
    as_aux_lemma =>
      go_at_call 29
      refine (cutNumber_no w Bc _ _ HZ4.out.cut HN5.out).mono ?_
      rintro e w5 ⟨⟨q, hq, rfl⟩, rfl⟩
      go_wp2_with fail
      exact ⟨rfl, by unfold CutPost; rw [pOp, HN1.out]; simp only [Option.bind_some]; rw [HN2.out]; simp only [Option.bind_some]; rw [HN3.out]; simp only [Option.bind_some]; rw [HN4.out]; simp only [Option.bind_some]; rw [HN5.out]; exact ⟨⟨q, hq, rfl⟩, HZ4.out.grown⟩⟩
  have HN5 := Lib.hid hp
  have hb5 := (pNum_some hp).choose_spec.2.2.2.2.1
  clear hp
  go_at_call 29
  refine (cutNumber_yes w Bc _ _ _ _ HZ4.out.cut HN5.out).mono ?_
  rintro e w5 ⟨rfl, hc, hg⟩
  have HZ5 := Lib.hid (HZ4.out.later hc hg)
  clear hc hg HZ4
  obtain ⟨ao, cc, hx5, hf5, hk5, ha5⟩ := HZ5.out.cut.cell
  have HA5 := Lib.hid ha5
  have HK5 := Lib.hid hk5
  have hlt5 : Bc < w5.heap.size := lt_of_block hk5
  have hsz5 : W.heap.size < w5.heap.size := lt_of_block HZ5.out.res
  clear ha5 hk5
  by_cases h8 : r5.length < 8
  · have HS := Lib.hid (show pOp bs = none by rw [pOp, HN1.out]; simp only [Option.bind_some]; rw [HN2.out]; simp only [Option.bind_some]; rw [HN3.out]; simp only [Option.bind_some]; rw [HN4.out]; simp only [Option.bind_some]; rw [HN5.out]; simp only [Option.bind_some]; rw [if_pos h8])
    as_aux_lemma =>
      go_wp2_with fail
      exact ⟨rfl, by unfold CutPost; rw [HS.out]; exact ⟨⟨r5.length, HZ5.out.cut.small, rfl⟩, HZ5.out.grown.andThen (World.grownBy_alloc _ _ none) fun j hj => by cases hj⟩⟩
  have HS := Lib.hid (show pOp bs = some (⟨n1, n2, n3, n4, wh8 (r5.take 8), n5⟩, r5.drop 8) by rw [pOp, HN1.out]; simp only [Option.bind_some]; rw [HN2.out]; simp only [Option.bind_some]; rw [HN3.out]; simp only [Option.bind_some]; rw [HN4.out]; simp only [Option.bind_some]; rw [HN5.out]; simp only [Option.bind_some]; rw [if_neg h8])
  have HO := Lib.hid (show OpAt w Bc W ⟨n1, n2, n3, n4, wh8 (r5.take 0), n5⟩ w5.heap.size r5 (w5.alloc (.cells #[.int .i64 n1, .int .i64 n2, .int .i64 n3, .int .i64 n4, .int .u64 0, .int .i64 n5] 44)) from
    ⟨HZ5.out.cut.kept (World.grownBy_alloc _ _ none) (fun _ hk => by cases hk), old1 _ HZ5.out.res, heap_alloc_new _ _, HZ5.out.grown.andThen (World.grownBy_alloc _ _ none) (fun j hj => by cases hj), hsz5⟩)
  go_wp2_with fail
  clear hx5 hf5 HZ5 HA5 HK5 HN1 HN2 HN3 HN4 HN5 hb1 hb2 hb3 hb4 hb5
  go_loopg [29] 8 (fun g i wr => ∃ j : Nat, j ≤ 8 ∧ g = 8 - j ∧ i = .int .i64 j ∧ Hid (OpAt w Bc W ⟨n1, n2, n3, n4, wh8 (r5.take j), n5⟩ w5.heap.size r5 wr))
  case atStart => exact ⟨0, Nat.zero_le _, rfl, rfl, HO.out⟩
  case round =>
    obtain ⟨j, hj, hg, rfl, HOr⟩ := hrel
    clear HO
    obtain ⟨b, off, cc, hx, hf, hcc, hm, hcells, ha⟩ := HOr.out.cut.open (by omega)
    have HA := Lib.hid ha
    have HOP := Lib.hid HOr.out.op
    clear ha
    by_cases hj8 : j < 8
    · have hcb : wr.cell? ⟨b, off + j, none⟩ = some (.int .u8 (r5[j]'(by omega) : Nat)) := hcells j (by omega)
      have hby := HOr.out.cut.bytes (r5[j]'(by omega)) (List.getElem_mem _)
      have HW := Lib.hid (show wh8 (r5.take (j + 1)) = wh8 (r5.take j) + r5[j]'(by omega) * 256 ^ j by
        rw [List.take_succ_eq_append_getElem (by omega), wh8_snoc, List.length_take, Nat.min_eq_left (by omega)])
      have hwl := wh8_lt (r5.take j) fun x hx => HOr.out.cut.bytes x (List.mem_of_mem_take hx)
      rw [List.length_take, Nat.min_eq_left (by omega)] at hwl
      generalize (r5[j]'(by omega)) = x at hcb hby HW
      generalize wh8 (r5.take j) = C at *
      have c4 : wr.cell? ⟨w5.heap.size, 4, none⟩ = some (.int .u64 C) := by simp [World.cell?, HOP.out, MOp.arr]
      have f4 : wr.frozen? ⟨w5.heap.size, 4, none⟩ = false := by simp [World.frozen?, HOP.out]
      have i0 : (0 : Int) ≤ (j : Int) := by omega
      have i1 : (j : Int) < (r5.length : Int) := by omega
      have HWL := Lib.hid hwl
      clear hcells hwl
      go_wp2_with fail
      go_region
      go_wp2_with fail
      go_roundg (8 - (j + 1))
      case measure => omega
      case rel =>
        refine ⟨j + 1, by omega, rfl, by go_num, ?_⟩
        rw [word_step x C j hby hj8 HWL.out, HW.out]
        have hgs := (grown_set wr w5.heap.size 4 (.int .u64 ((C + x * 256 ^ j : Nat) : Int)))
        refine ⟨?_, ?_, ?_, ?_, HOr.out.lt⟩
        · exact Cut.later ((HOr.out.cut.kept hgs (row_ne (by have := HOr.out.cut.ge; have := HOr.out.lt; omega) (by omega)))) (Below.refl _ _).drew
        · exact (heap_setCell_other' (by have := HOr.out.lt; omega) _).trans HOr.out.res
        · exact heap_setCell HOP.out _
        · exact (HOr.out.grown.andThen hgs (row_new (by have := HOr.out.lt; omega))).andThen (below_off (Below.refl _ _).drew) (fun j hj => by cases hj)
    · obtain rfl : j = 8 := by omega
      have HK1 := Lib.hid (fun sv => show (wr.setCell ⟨Bc, 0, none⟩ sv).heap[w5.heap.size]? = some (.cells (MOp.arr ⟨n1, n2, n3, n4, wh8 (r5.take 8), n5⟩) 44 (0, 0)) from (heap_setCell_other' (by omega) _).trans HOP.out)
      have HK2 := Lib.hid (fun sv => (heap_setCell_other' (w := wr) (b := Bc) (j := 0) (k := W.heap.size) (by omega) sv).trans HOr.out.res)
      have HCS := Lib.hid (fun (a : Addr) c' (h1 : c' = cc - 8) h2 => HOr.out.cut.set (r := r5.drop 8) _ (Arr.drop HA.out 8 (by omega) a c' h1 h2) (by rw [List.length_drop]; omega) (fun x hx => List.mem_of_mem_drop hx))
      clear hcells
      go_wp2_with (first | ((with_reducible show wpList _ _ _ (⟨_, Op.load _ (.tmp 3), _, _, _, _⟩ :: _) _ _); go_must (refine wpList_load_row rfl 44 _ rfl w5.heap.size rfl _ _ _ _ (HK1.out _) Tryz.underlying44 rfl info_op ?_)) | ((with_reducible show wpList _ _ _ (⟨_, Op.store _ (.tmp 2) _, _, _, _, _⟩ :: _) _ _); go_must (refine wpList_store_row rfl 44 _ _ rfl W.heap.size (MOp.arr ⟨n1, n2, n3, n4, wh8 (r5.take 8), n5⟩) rfl rfl 44 _ (HK2.out _) info_op rfl (by simp [Value.oneCell', MOp.arr]) ?_)))
      all_goals
        refine bodyPost_ret (results_cell_row rfl _ _ W.heap.size 44 (MOp.arr ⟨n1, n2, n3, n4, wh8 (r5.take 8), n5⟩) _ _ rfl (setRow_heap _ _ _ _ _ _ (HK2.out _)) Tryz.underlying44 rfl info_op) rfl ?_
        unfold CutPost
        rw [HS.out]
        exact ⟨rfl, Cut.kept (HCS.out _ _ (by omega) (by first | exact .inl rfl | (right; omega))).1 (grown_setRow _ _ _) (row_ne (by have := HOr.out.cut.ge; omega) (by omega)), (HOr.out.grown.andThen (HCS.out _ _ (by omega) (by first | exact .inl rfl | (right; omega))).2 fun j hj => .inr hj).andThen (grown_setRow _ _ _) (row_new (Nat.le_refl _))⟩
end Go.Proofs.YtjbhgimhcjcpmaaGreatDoor

/-
  THE PLAIN LAW: what was written of a plan is read back as that plan.
-/
namespace Go.Proofs.YtjbhgimhcjcpmaaGreatDoor

def pOps : Nat → List Nat → Option (List MOp × List Nat)
  | 0, bs => some ([], bs)
  | n + 1, bs => (pOp bs).bind fun x => (pOps n x.2).bind fun y => some (x.1 :: y.1, y.2)
/-- The plan of what was read. -/
def mkPlan (ops : List MOp) (e0 e1 : Int) (in0 in1 shapes : List (List Int)) : MPlan := ⟨ops, e0, e1, (mSlots ops).1, (mSlots ops).2, mNeed ops, shapes, in0, in1⟩
/-- What is read, ahead of the last checks: the plan, and what is left. -/
def pPlan (bs : List Nat) : Option (MPlan × List Nat) :=
  (pNum bs).bind fun a => (pNum a.2).bind fun b => (pShapes b.2).bind fun c => (pShapes c.2).bind fun d => (pShapes d.2).bind fun e => (pCount e.2).bind fun n => (pOps n.1 n.2).bind fun o =>
    some (mkPlan o.1 a.1 b.1 c.1 d.1 e.1, o.2)
/-- The plan whose bytes these are; none: they are no plan's. -/
def mDecode (bs : List Nat) : Option MPlan :=
  if bs.take 4 = [84, 87, 78, 1] then (pPlan (bs.drop 4)).bind fun x => if mGood x.1 = true ∧ x.2 = [] then some x.1 else none else none

theorem pNum_num7 (n : Nat) (r : List Nat) (h : n ≤ 4294967295) : pNum (num7 n ++ r) = some (n, r) := by
  have h1 := takeNum_num7 n r h
  have h2 := (num7_len n).1
  rw [pNum, h1, if_neg (by simp only; omega)]
  simp
theorem pNum_int (n : Int) (r : List Nat) (h0 : 0 ≤ n) (h : n ≤ 4294967295) : pNum (num7 n.toNat ++ r) = some (n.toNat, r) := pNum_num7 _ _ (by omega)
theorem pCount_num7 (n : Nat) (r : List Nat) (h : n ≤ 4294967295) (hr : n ≤ r.length) : pCount (num7 n ++ r) = some (n, r) := by
  rw [pCount, pNum_num7 n r h, Option.bind_some, if_neg (by simp only; omega)]
theorem pNums_dims : ∀ (s : List Int) (r : List Nat), (∀ d ∈ s, 0 ≤ d ∧ d ≤ 4294967295) → pNums s.length (dimBytes s ++ r) = some (s, r)
  | [], r, _ => by simp [pNums, dimBytes]
  | d :: s, r, h => by
    have hd := h d (by simp)
    have ih := pNums_dims s r fun x hx => h x (by simp [hx])
    have e : dimBytes (d :: s) ++ r = num7 d.toNat ++ (dimBytes s ++ r) := by simp [dimBytes]
    rw [e, List.length_cons, pNums, pNum_int d _ hd.1 hd.2, Option.bind_some]
    simp only
    rw [ih, Option.bind_some]
    simp only
    rw [Int.toNat_of_nonneg hd.1]
theorem dimBytes_len (s : List Int) : s.length ≤ (dimBytes s).length := by
  induction s with
  | nil => simp
  | cons d s ih =>
    have := (num7_len d.toNat).1
    have e : dimBytes (d :: s) = num7 d.toNat ++ dimBytes s := by simp [dimBytes]
    rw [e, List.length_append, List.length_cons]; omega
theorem pShape_one (s : List Int) (r : List Nat) (h1 : s.length ≤ 4294967295) (h : ∀ d ∈ s, 0 ≤ d ∧ d ≤ 4294967295) : pShape (oneShape s ++ r) = some (s, r) := by
  have e : oneShape s ++ r = num7 s.length ++ (dimBytes s ++ r) := by simp [oneShape]
  have := dimBytes_len s
  rw [pShape, e, pCount_num7 _ _ h1 (by rw [List.length_append]; omega), Option.bind_some]
  exact pNums_dims s r h
theorem pShapeN_all : ∀ (l : List (List Int)) (r : List Nat), (∀ s ∈ l, s.length ≤ 4294967295 ∧ ∀ d ∈ s, 0 ≤ d ∧ d ≤ 4294967295) → pShapeN l.length (l.flatMap oneShape ++ r) = some (l, r)
  | [], r, _ => by simp [pShapeN]
  | s :: l, r, h => by
    have hs := h s (by simp)
    have ih := pShapeN_all l r fun x hx => h x (by simp [hx])
    have e : (s :: l).flatMap oneShape ++ r = oneShape s ++ (l.flatMap oneShape ++ r) := by simp
    rw [e, List.length_cons, pShapeN, pShape_one s _ hs.1 hs.2, Option.bind_some]
    simp only
    rw [ih, Option.bind_some]
theorem flatMap_len_ge {α : Type} (f : α → List Nat) : ∀ (l : List α), (∀ x ∈ l, 1 ≤ (f x).length) → l.length ≤ (l.flatMap f).length
  | [], _ => by simp
  | x :: l, h => by
    have h1 := h x (by simp)
    have h2 := flatMap_len_ge f l fun y hy => h y (by simp [hy])
    simp only [List.flatMap_cons, List.length_append, List.length_cons]; omega
theorem oneShape_pos (s : List Int) : 1 ≤ (oneShape s).length := by
  have := (num7_len s.length).1
  rw [oneShape, List.length_append]; omega
theorem pShapes_all (l : List (List Int)) (r : List Nat) (h1 : l.length ≤ 4294967295) (h : ∀ s ∈ l, s.length ≤ 4294967295 ∧ ∀ d ∈ s, 0 ≤ d ∧ d ≤ 4294967295) : pShapes (shBytes l ++ r) = some (l, r) := by
  have e : shBytes l ++ r = num7 l.length ++ (l.flatMap oneShape ++ r) := by simp [shBytes]
  have := flatMap_len_ge oneShape l fun s _ => oneShape_pos s
  rw [pShapes, e, pCount_num7 _ _ h1 (by rw [List.length_append]; omega), Option.bind_some]
  exact pShapeN_all l r h
theorem wh8_le8 (c : Nat) (h : c < 18446744073709551616) : wh8 (le8 c) = c := by
  have e : le8 c = [c % 256, c / 256 % 256, c / 65536 % 256, c / 16777216 % 256, c / 4294967296 % 256, c / 1099511627776 % 256, c / 281474976710656 % 256, c / 72057594037927936 % 256] := by
    simp [le8, List.range, List.range.loop]
  rw [e]
  simp only [wh8]
  omega
theorem le8_len (c : Nat) : (le8 c).length = 8 := by simp [le8]
theorem pOp_all (o : MOp) (r : List Nat) (h : OpSmall o) (hc : o.c < 18446744073709551616) : pOp (opBytes o ++ r) = some (o, r) := by
  obtain ⟨h1, h2, h3, h4, h5⟩ := h
  have e : opBytes o ++ r = num7 o.kind.toNat ++ (num7 o.a.toNat ++ (num7 o.b.toNat ++ (num7 o.k.toNat ++ (num7 o.party.toNat ++ (le8 o.c ++ r))))) := by simp [opBytes, opNums]
  rw [pOp, e, pNum_int _ _ h1.1 (by omega), Option.bind_some]
  simp only
  rw [pNum_int _ _ h2.1 (by omega), Option.bind_some]
  simp only
  rw [pNum_int _ _ h3.1 (by omega), Option.bind_some]
  simp only
  rw [pNum_int _ _ h4.1 (by omega), Option.bind_some]
  simp only
  rw [pNum_int _ _ h5.1 (by omega), Option.bind_some]
  simp only
  have hl := le8_len o.c
  rw [if_neg (by rw [List.length_append]; omega), List.take_append_of_le_length (by omega), List.take_of_length_le (by omega), wh8_le8 _ hc, List.drop_append_of_le_length (by omega), List.drop_of_length_le (by omega)]
  rw [Int.toNat_of_nonneg h1.1, Int.toNat_of_nonneg h2.1, Int.toNat_of_nonneg h3.1, Int.toNat_of_nonneg h4.1, Int.toNat_of_nonneg h5.1]
  simp
theorem pOps_all : ∀ (l : List MOp) (r : List Nat), (∀ o ∈ l, OpSmall o ∧ o.c < 18446744073709551616) → pOps l.length (l.flatMap opBytes ++ r) = some (l, r)
  | [], r, _ => by simp [pOps]
  | o :: l, r, h => by
    have ho := h o (by simp)
    have ih := pOps_all l r fun x hx => h x (by simp [hx])
    have e : (o :: l).flatMap opBytes ++ r = opBytes o ++ (l.flatMap opBytes ++ r) := by simp
    rw [e, List.length_cons, pOps, pOp_all o _ ho.1 ho.2, Option.bind_some]
    simp only
    rw [ih, Option.bind_some]
theorem opBytes_pos (o : MOp) : 1 ≤ (opBytes o).length := by
  have := le8_len o.c
  rw [opBytes, List.length_append]; omega

theorem needEq_eq {a b : MNeed} (h : needEq a b = true) : a = b := by
  simp only [needEq, Bool.and_eq_true, beq_iff_eq] at h
  obtain ⟨⟨⟨⟨⟨⟨⟨h1, h2⟩, h3⟩, h4⟩, h5⟩, h6⟩, h7⟩, h8⟩ := h
  cases a; cases b; simp_all
/-- What a plan is, in one place. -/
theorem good_parts {p : MPlan} (h : mGood p = true) : mkPlan p.ops p.e0 p.e1 p.in0 p.in1 p.shapes = p ∧ (0 ≤ p.e0 ∧ p.e0 ≤ 65536) ∧ (0 ≤ p.e1 ∧ p.e1 ≤ 65536) ∧ p.ops.length ≤ 16384 ∧ (∀ o ∈ p.ops, OpSmall o) ∧
    (∀ l, l = p.in0 ∨ l = p.in1 ∨ l = p.shapes → l.length ≤ 65536 ∧ ∀ s ∈ l, s.length ≤ 2 ∧ ∀ d ∈ s, 1 ≤ d ∧ d ≤ 16) := by
  simp only [mGood, Bool.and_eq_true, decide_eq_true_eq, beq_iff_eq] at h
  obtain ⟨⟨⟨⟨⟨⟨⟨⟨⟨g0, g1⟩, g2⟩, g3⟩, g4⟩, g5⟩, g6⟩, g7⟩, g8⟩, g9⟩ := h
  have hsm := check_small g3
  simp only [mCheck, Bool.and_eq_true, decide_eq_true_eq] at g3
  obtain ⟨⟨⟨⟨⟨b0, b1⟩, b2⟩, b3⟩, hl⟩, _⟩ := g3
  have hmo := mOuts_le p.ops
  have S0 := mTotal_shapes p.in0 _ g1 b0
  have S1 := mTotal_shapes p.in1 _ g2 b2
  have S2 := mTotal_shapes p.shapes _ g9 (by omega)
  refine ⟨?_, ⟨b0, b1⟩, ⟨b2, b3⟩, hl, hsm, ?_⟩
  · rw [mkPlan, g6, g7, needEq_eq g8]
  · rintro l (rfl | rfl | rfl)
    · exact ⟨by omega, S0.2⟩
    · exact ⟨by omega, S1.2⟩
    · exact ⟨by omega, S2.2⟩
theorem shapes_wide {l : List (List Int)} (h : l.length ≤ 65536 ∧ ∀ s ∈ l, s.length ≤ 2 ∧ ∀ d ∈ s, 1 ≤ d ∧ d ≤ 16) : l.length ≤ 4294967295 ∧ ∀ s ∈ l, s.length ≤ 4294967295 ∧ ∀ d ∈ s, 0 ≤ d ∧ d ≤ 4294967295 :=
  ⟨by omega, fun s hs => ⟨by have := (h.2 s hs).1; omega, fun d hd => by have := (h.2 s hs).2 d hd; omega⟩⟩
theorem pPlan_all (p : MPlan) (h : mGood p = true) (hc : ∀ o ∈ p.ops, o.c < 18446744073709551616) (r : List Nat) : pPlan ((planBytes p ++ r).drop 4) = some (p, r) ∧ (planBytes p ++ r).take 4 = [84, 87, 78, 1] := by
  obtain ⟨h1, h2, h3, h4, h5, h6⟩ := good_parts h
  have s0 := shapes_wide (h6 p.in0 (.inl rfl))
  have s1 := shapes_wide (h6 p.in1 (.inr (.inl rfl)))
  have s2 := shapes_wide (h6 p.shapes (.inr (.inr rfl)))
  have e : planBytes p ++ r = [84, 87, 78, 1] ++ (num7 p.e0.toNat ++ (num7 p.e1.toNat ++ (shBytes p.in0 ++ (shBytes p.in1 ++ (shBytes p.shapes ++ (num7 p.ops.length ++ (p.ops.flatMap opBytes ++ r))))))) := by simp [planBytes, headBytes, flat]
  rw [e]
  refine ⟨?_, by simp⟩
  rw [List.drop_append_of_le_length (by simp)]
  simp only [List.drop_succ_cons, List.drop_zero, List.nil_append]
  have hge := flatMap_len_ge opBytes p.ops fun o _ => opBytes_pos o
  rw [pPlan, pNum_int _ _ h2.1 (by omega), Option.bind_some]
  simp only
  rw [pNum_int _ _ h3.1 (by omega), Option.bind_some]
  simp only
  rw [pShapes_all _ _ s0.1 s0.2, Option.bind_some]
  simp only
  rw [pShapes_all _ _ s1.1 s1.2, Option.bind_some]
  simp only
  rw [pShapes_all _ _ s2.1 s2.2, Option.bind_some]
  simp only
  rw [pCount_num7 _ _ (by omega) (by rw [List.length_append]; omega), Option.bind_some]
  simp only
  rw [pOps_all _ _ fun o ho => ⟨h5 o ho, hc o ho⟩, Option.bind_some]
  simp only
  rw [Int.toNat_of_nonneg h2.1, Int.toNat_of_nonneg h3.1, h1]
/-- What was written of a plan is read back as that plan. -/
theorem mDecode_planBytes (p : MPlan) (h : mGood p = true) (hc : ∀ o ∈ p.ops, o.c < 18446744073709551616) : mDecode (planBytes p) = some p := by
  have h1 := pPlan_all p h hc []
  rw [List.append_nil] at h1
  rw [mDecode, if_pos h1.2, h1.1, Option.bind_some, if_pos ⟨h, rfl⟩]
/-- With anything behind it it is none's. -/
theorem mDecode_more (p : MPlan) (h : mGood p = true) (hc : ∀ o ∈ p.ops, o.c < 18446744073709551616) (r : List Nat) (hr : r ≠ []) : mDecode (planBytes p ++ r) = none := by
  have h1 := pPlan_all p h hc r
  rw [mDecode, if_pos h1.2, h1.1, Option.bind_some, if_neg (by simp [hr])]

theorem num7_len3 (n : Nat) (h : n < 2097152) : (num7 n).length ≤ 3 := by
  by_cases h1 : n < 128
  · rw [num7_small h1]; simp
  · rw [num7_big h1]
    by_cases h2 : n / 128 < 128
    · rw [num7_small h2]; simp
    · rw [num7_big h2, num7_small (by omega)]; simp
theorem opBytes_len3 (o : MOp) (h : OpSmall o) : (opBytes o).length ≤ 23 := by
  obtain ⟨h1, h2, h3, h4, h5⟩ := h
  have a1 := num7_len3 o.kind.toNat (by omega)
  have a2 := num7_len3 o.a.toNat (by omega)
  have a3 := num7_len3 o.b.toNat (by omega)
  have a4 := num7_len3 o.k.toNat (by omega)
  have a5 := num7_len3 o.party.toNat (by omega)
  have := le8_len o.c
  simp only [opBytes, opNums, List.length_append]
  omega
theorem planBytes_bytes (p : MPlan) : ∀ x ∈ planBytes p, x < 256 := by
  have hd : ∀ s : List Int, ∀ x ∈ dimBytes s, x < 256 := fun s x hx => by
    simp only [dimBytes, List.mem_flatMap] at hx
    obtain ⟨d, _, hx⟩ := hx; exact num7_bytes _ x hx
  have ho : ∀ s : List Int, ∀ x ∈ oneShape s, x < 256 := fun s x hx => by
    rcases List.mem_append.1 hx with hx | hx
    · exact num7_bytes _ x hx
    · exact hd s x hx
  have hs : ∀ l : List (List Int), ∀ x ∈ shBytes l, x < 256 := fun l x hx => by
    rcases List.mem_append.1 hx with hx | hx
    · exact num7_bytes _ x hx
    · simp only [List.mem_flatMap] at hx
      obtain ⟨s, _, hx⟩ := hx; exact ho s x hx
  have hl : ∀ c : Nat, ∀ x ∈ le8 c, x < 256 := fun c x hx => by
    simp only [le8, List.mem_map] at hx
    obtain ⟨j, _, rfl⟩ := hx; omega
  intro x hx
  rcases List.mem_append.1 hx with hx | hx
  · simp only [headBytes, flat, List.flatten_cons, List.flatten_nil, List.append_nil, List.mem_append] at hx
    rcases hx with hx | hx | hx | hx | hx | hx | hx
    · simp at hx; omega
    · exact num7_bytes _ x hx
    · exact num7_bytes _ x hx
    · exact hs _ x hx
    · exact hs _ x hx
    · exact hs _ x hx
    · exact num7_bytes _ x hx
  · simp only [List.mem_flatMap] at hx
    obtain ⟨o, _, hx⟩ := hx
    rcases List.mem_append.1 hx with hx | hx
    · simp only [opNums, List.mem_append] at hx
      rcases hx with hx | hx | hx | hx | hx <;> exact num7_bytes _ x hx
    · exact hl _ x hx
end Go.Proofs.YtjbhgimhcjcpmaaGreatDoor
