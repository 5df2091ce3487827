/-
  THE CONTRACT of micro.Need.
-/
import Derived.Test.YtjbhgimhcjcpmaaGreatDoorMRounds
import Derived.Test.YtjbhgimhcjcpmaaGreatDoorMMCheck
import Derived.Deep.RegionHeld3
set_option linter.unusedSimpArgs false
set_option linter.unusedVariables false
namespace Go.Proofs.YtjbhgimhcjcpmaaGreatDoor
open Go.RowKit

/-- The form in which a walk reads what is owned. -/
theorem own_open {w : World} {base : Nat} {e : TypeId} {k : Nat} {v : Value} {n : Nat} {xs : List Value} (h : w.ownsRow base e k v n xs) :
    ∃ ao c, v = .slice ao n c ∧ n ≤ c ∧ (0 < n → ∃ g, ao = some ⟨g, 0, none⟩ ∧ base ≤ g ∧ g < w.heap.size ∧ ∀ i, i < n * k → w.cell? ⟨g, i, none⟩ = xs[i]?) := by
  rcases h.2 with ⟨rfl, rfl⟩ | ⟨g, cap, cur, rfl, hb, hg, hnc, hcm, hcs, ht⟩
  · exact ⟨none, 0, rfl, Nat.le_refl _, fun h => by omega⟩
  · refine ⟨_, cap, rfl, hnc, fun _ => ⟨g, rfl, hb, lt_of_block' hg, fun i hi => ?_⟩⟩
    have := h.cellAt i hi
    simpa using this

theorem info_need : (Tryz.prog.info? 26).map (·.size) = some 8 := by kernel_rfl

/-- The cells of a need. -/
theorem need_cells {w : World} {g : Nat} {n : MNeed} {t : TypeId} (h : w.heap[g]? = some (.cells n.arr t (0, 0))) :
    (w.cell? ⟨g, 0, none⟩ = some (.int .i64 n.tri) ∧ w.cell? ⟨g, 1, none⟩ = some (.int .i64 n.bits) ∧ w.cell? ⟨g, 2, none⟩ = some (.int .i64 n.ots) ∧ w.cell? ⟨g, 3, none⟩ = some (.int .i64 n.t0) ∧
    w.cell? ⟨g, 4, none⟩ = some (.int .i64 n.t1) ∧ w.cell? ⟨g, 5, none⟩ = some (.int .i64 n.rounds) ∧ w.cell? ⟨g, 6, none⟩ = some (.int .i64 n.w0) ∧ w.cell? ⟨g, 7, none⟩ = some (.int .i64 n.w1)) ∧
    (w.frozen? ⟨g, 0, none⟩ = false ∧ w.frozen? ⟨g, 1, none⟩ = false ∧ w.frozen? ⟨g, 2, none⟩ = false ∧ w.frozen? ⟨g, 3, none⟩ = false ∧ w.frozen? ⟨g, 4, none⟩ = false ∧ w.frozen? ⟨g, 5, none⟩ = false ∧ w.frozen? ⟨g, 6, none⟩ = false ∧ w.frozen? ⟨g, 7, none⟩ = false) := by
  refine ⟨⟨?_, ?_, ?_, ?_, ?_, ?_, ?_, ?_⟩, ?_, ?_, ?_, ?_, ?_, ?_, ?_, ?_⟩ <;> simp [World.cell?, World.frozen?, h, MNeed.arr]

/-- In w' the blocks of the result and of the need, behind w. -/
structure NSt (w : World) (n : MNeed) (w' : World) : Prop where
  res : w'.heap[w.heap.size]? = some (.cells need0.arr 26 (0, 0))
  need : w'.heap[w.heap.size + 1]? = some (.cells n.arr 26 (0, 0))
  below : Below w.heap.size w w'
theorem NSt.later {w w1 w2 : World} {n : MNeed} (h : NSt w n w1) (hb : Below w1.heap.size w1 w2) : NSt w n w2 :=
  ⟨(hb.block _ (lt_of_block' h.res)).trans h.res, (hb.block _ (lt_of_block' h.need)).trans h.need, h.below.trans (hb.mono h.below.size)⟩
theorem NSt.size {w w1 : World} {n : MNeed} (h : NSt w n w1) : w.heap.size + 1 < w1.heap.size := lt_of_block' h.need
theorem NSt.alloc {w w1 : World} {n : MNeed} (h : NSt w n w1) (o : Obj) : NSt w n (w1.alloc o) := h.later ((Below.refl _ _).alloc (Nat.le_refl _) o)
theorem NSt.drew {w w1 : World} {n : MNeed} (h : NSt w n w1) : NSt w n w1.drew := ⟨h.res, h.need, h.below.drew⟩
theorem NSt.set {w w1 : World} {n m : MNeed} (h : NSt w n w1) (j : Nat) (v : Value) (hm : n.arr.setIfInBounds j v = m.arr) : NSt w m (w1.setCell ⟨w.heap.size + 1, j, none⟩ v) :=
  ⟨(heap_setCell_other' (by omega) _).trans h.res, by rw [heap_setCell h.need, hm], h.below.setCell (by show w.heap.size ≤ w.heap.size + 1; omega) _⟩

set_option maxHeartbeats 1000000 in
set_option maxRecDepth 100000 in
theorem need_no (v : Value) (ops : List MOp) (w : World) (h : mCheck ops 65536 65536 = false) (hv : Arr w.heap.size w 6 v ops.length (ocells ops)) (hl : ops.length ≤ 1000000) (hc : ∀ o ∈ ops, o.c < 18446744073709551616) (hE : ErrT w) :
    Calls Tryz.prog 34 #[v] w (RetB (.agg need0.arr) w) := by
  have HV := Lib.hid hv
  have HE := Lib.hid hE
  have HC := Lib.hid hc
  have HH := Lib.hid h
  clear hv hE hc h
  have HS := Lib.hid (show NSt w need0 ((w.alloc (.cells need0.arr 26)).alloc (.cells need0.arr 26)) from ⟨heap_alloc2_old _ _ _, heap_alloc2_new _ _ _, below_alloc2 _ _ _⟩)
  simp only [MNeed.arr, need0] at HS
  go_enter Tryz.func34, Tryz.ntmps34
  go_wp2_with ((go_at_call 54; go_must (refine (rounds_no _ ops _ HH.out (HV.out.later' (below_alloc2 _ _ _)) hl HC.out (HE.out.below (below_alloc2 _ _ _))).mono ?_; rintro e w1 ⟨rfl, hb1⟩; have HS1 := Lib.hid (HS.out.later hb1); clear hb1)))
  refine wp_loop_rounds 1 ?_
  rw [rounds_succ]
  go_wp2_with (first | (go_at_call 66; go_must (refine (all_any _).mono ?_; rintro e w2 ⟨rfl, hb2⟩; have HS2 := Lib.hid (HS1.out.later hb2); clear hb2)) | (go_at_call 52; go_must (refine (check_no _ ops _ _ _ HH.out (HV.out.later HS2.out.below HS2.out.below.size) hl HC.out (HE.out.below HS2.out.below)).mono ?_; rintro e w3 ⟨⟨T, x, rfl⟩, hb3⟩; have HS3 := Lib.hid (HS2.out.later hb3); clear hb3; obtain ⟨⟨x0, x1, x2, x3, x4, x5, x6, x7⟩, f0, f1, f2, f3, f4, f5, f6, f7⟩ := need_cells HS3.out.need; simp only at x0 x1 x2 x3 x4 x5 x6 x7)) | ((with_reducible show wpList _ _ _ (⟨_, Op.store _ (.tmp 2) _, _, _, _, _⟩ :: _) _ _); go_must (refine wpList_store_row rfl 26 _ _ rfl w.heap.size need0.arr rfl rfl 26 need0.arr HS3.out.res info_need rfl (by simp [Value.oneCell', MNeed.arr, need0]) ?_)))
  exact bodyPost_ret (results_cell_row rfl _ _ w.heap.size 26 need0.arr _ _ rfl (setRow_heap _ _ _ _ _ _ HS3.out.res) Tryz.underlying26 rfl info_need) rfl ⟨rfl, below_setRow HS3.out.below (Nat.le_refl _) _⟩

theorem needStep_in0 (n : MNeed) (o : MOp) (h : o.kind = 1) (hp : o.party = 0) : needStep n o = { n with t0 := n.t0 + 1, w0 := n.w0 + 1 } := by simp [needStep, h, hp]
theorem needStep_in1 (n : MNeed) (o : MOp) (h : o.kind = 1) (hp : o.party = 1) : needStep n o = { n with t1 := n.t1 + 1, w1 := n.w1 + 1 } := by simp [needStep, h, hp]
theorem needStep_6 (n : MNeed) (o : MOp) (h : o.kind = 6) : needStep n o = { n with tri := n.tri + 1, w0 := n.w0 + 2, w1 := n.w1 + 2 } := by simp [needStep, h]
theorem needStep_9 (n : MNeed) (o : MOp) (h : o.kind = 9) : needStep n o = { n with bits := n.bits + 1, w0 := n.w0 + 2, w1 := n.w1 + 2 } := by simp [needStep, h]
theorem needStep_out (n : MNeed) (o : MOp) (h : o.kind = 18 ∨ o.kind = 19) : needStep n o = { n with w0 := n.w0 + 1, w1 := n.w1 + 1 } := by rcases h with h | h <;> simp [needStep, h]
theorem needStep_17 (n : MNeed) (o : MOp) (h : o.kind = 17) : needStep n o = { n with ots := n.ots + 64 * mOperands o.k, t0 := n.t0 + 2 * garbIns o, w0 := n.w0 + 2 * (192 * mOperands o.k + 2 * garbAnds o), w1 := n.w1 + mOperands o.k } := by simp [needStep, h]
theorem needStep_x (n : MNeed) (o : MOp) (h1 : ¬ o.kind = 1) (h2 : ¬ o.kind = 6) (h3 : ¬ o.kind = 9) (h4 : ¬ o.kind = 18) (h5 : ¬ o.kind = 19) (h6 : ¬ o.kind = 17) : needStep n o = n := by simp [needStep, *]

theorem operands_bd (k : Int) : 1 ≤ mOperands k ∧ mOperands k ≤ 2 := by unfold mOperands; split <;> omega
/-- circ.Make where it makes a circuit, its slices written out, its gates owned. -/
theorem make_own (kind : Int) (f : Nat) (w : World) (h : circOk kind f = true) :
    Calls Tryz.prog 67 #[.int .i64 kind, .int .u64 f] w fun e w' => ∃ (n : Nat) (gs : List Gate) (ag : Option Addr) (cg : Nat) (ao : Option Addr) (no co : Nat), Hid (n = (mMake kind.toNat f).1 ∧ gs = (mMake kind.toNat f).2.1) ∧
      e = .returned (.tuple #[.agg #[.int .i64 n, .slice ag gs.length cg, .slice ao no co], .nilIface]) ∧ Hid (w'.ownsRow w.heap.size 180 3 (.slice ag gs.length cg) gs.length (gcells gs)) ∧ Below w.heap.size w w' := by
  refine (make_yes kind f w h).mono ?_
  rintro e w1 ⟨gv, ov, rfl, hown, harr, hb⟩
  have hg := Arr.of_owns hown
  obtain ⟨ag, cg, rfl, _⟩ := Arr.open hg
  obtain ⟨ao, co, rfl, _⟩ := Arr.open harr
  exact ⟨_, _, ag, cg, ao, _, co, ⟨rfl, rfl⟩, rfl, hown, hb⟩
theorem Arr.drew {B : Nat} {w : World} {k : Nat} {v : Value} {n : Nat} {xs : List Value} (h : Arr B w k v n xs) : Arr B w.drew k v n xs := h
theorem circ_cells {w : World} {g : Nat} {x y z : Value} {t : TypeId} {fr : Nat × Nat} (h : w.heap[g]? = some (.cells #[x, y, z] t fr)) : w.cell? ⟨g, 0, none⟩ = some x ∧ w.cell? ⟨g, 1, none⟩ = some y ∧ w.cell? ⟨g, 2, none⟩ = some z := by
  refine ⟨?_, ?_, ?_⟩ <;> simp [World.cell?, h]
/-- The relation of Need's second loop. -/
def NRel (w : World) (ops : List MOp) (n0 : MNeed) (g : Nat) (x i : Value) (wr : World) : Prop :=
  ∃ (k : Nat) (n : MNeed), k ≤ ops.length ∧ g = ops.length - k ∧ i = .int .i64 k ∧ x = .int .i64 (garbs (ops.take k)) ∧ Hid (NSt w n wr) ∧ Hid (needGo (ops.drop k) n = needGo ops n0) ∧ Hid (n.small (10000 * k : Nat))
theorem NRel.next {w : World} {ops : List MOp} {n0 n m : MNeed} {k : Nat} {o : MOp} {W : World} {x : Int} (hk : k < ops.length) (ho : ops[k] = o) (hn : Hid (needGo (ops.drop k) n = needGo ops n0)) (hs : Hid (n.small (10000 * k : Nat)))
    (hr : (mRule o 65536 65536).2 = true) (hm : needStep n o = m) (hx : x = garbs (ops.take k) + if o.kind = 17 then 1 else 0) (hW : NSt w m W) : NRel w ops n0 (ops.length - (k + 1)) (.int .i64 x) (.int .i64 ((k : Int) + 1)) W := by
  refine ⟨k + 1, m, by omega, rfl, by go_num, ?_, hW, ?_, ?_⟩
  · rw [garbs_take ops k hk, ho, ← hx]
  · unfold Hid; rw [← hn.out, List.drop_eq_getElem_cons hk, ho, needGo, hm]
  · have := needStep_small hs.out o hr
    rw [hm] at this
    rw [show 10000 * (k + 1) = 10000 * k + 10000 by omega]
    exact this

set_option maxHeartbeats 4000000 in
set_option maxRecDepth 100000 in
theorem need_yes (v : Value) (ops : List MOp) (w : World) (h : mCheck ops 65536 65536 = true) (hv : Arr w.heap.size w 6 v ops.length (ocells ops)) (hl : ops.length ≤ 16384) (hc : ∀ o ∈ ops, o.c < 18446744073709551616) (hE : ErrT w) :
    Calls Tryz.prog 34 #[v] w (RetB (.agg (mNeed ops).arr) w) := by
  have hrl := check_rules h
  have hru := mRounds_upto ops
  have hrn := mRounds_len ops
  rw [if_pos h] at hrn
  obtain ⟨ao, cc, rfl, hcc, hm, hx, hy⟩ := hv.open
  have HV := Lib.hid hv
  have HE := Lib.hid hE
  have HC := Lib.hid hc
  have HH := Lib.hid h
  have HY := Lib.hid hy
  have HRL := Lib.hid hrl
  have HRU := Lib.hid hru
  have HRN := Lib.hid hrn
  clear hv hE hc h hx hm hy hrl hru hrn
  have HS := Lib.hid (show NSt w need0 ((w.alloc (.cells need0.arr 26)).alloc (.cells need0.arr 26)) from ⟨heap_alloc2_old _ _ _, heap_alloc2_new _ _ _, below_alloc2 _ _ _⟩)
  simp only [MNeed.arr, need0] at HS
  obtain ⟨rl, hrl⟩ : ∃ rl, mRounds ops = rl := ⟨_, rfl⟩
  have HRD := Lib.hid hrl
  clear hrl
  go_enter Tryz.func34, Tryz.ntmps34
  go_wp2_with ((go_at_call 54; go_must (refine (rounds_yes _ ops _ HH.out (HV.out.later' (below_alloc2 _ _ _)) hl HC.out (HE.out.below (below_alloc2 _ _ _))).mono ?_; rw [HRD.out]; rintro e w1 ⟨u, rfl, hown1, hb1⟩; obtain ⟨ao1, cc1, rfl, hcc1, hy1⟩ := own_open hown1; have HY1 := Lib.hid hy1; have HS1 := Lib.hid (HS.out.later hb1); clear hb1 hown1 hy1)))
  have hrlen : rl.length ≤ 16384 := by rw [← HRD.out, HRN.out]; exact hl
  go_loopg [15] rl.length (fun g i wr => ∃ k : Nat, k ≤ rl.length ∧ g = rl.length - k ∧ i = .int .i64 k ∧ Hid (NSt w { need0 with rounds := maxOf (rl.take k) } wr) ∧ Hid (∀ j, j ≠ w.heap.size + 1 → wr.heap[j]? = w1.heap[j]?))
  case atStart => exact ⟨0, Nat.zero_le _, rfl, rfl, HS1.out, fun _ _ => rfl⟩
  case round =>
    obtain ⟨k, hk, hg, rfl, HN, HBB⟩ := hrel
    by_cases hkl : k < rl.length
    · obtain ⟨g1, rfl, hg1, hg2, hc1⟩ := HY1.out (by omega)
      have hne1 : g1 ≠ w.heap.size + 1 := by rw [World.size_alloc, World.size_alloc] at hg1; omega
      have hcx : wr.cell? ⟨g1, k, none⟩ = some (.int .i64 rl[k]) := by
        have h1 := hc1 k (by omega)
        rw [ints_get rl k hkl] at h1
        simp only [World.cell?] at h1 ⊢
        rw [HBB.out g1 hne1]; exact h1
      have hub := HRU.out rl[k] (by rw [HRD.out]; exact List.getElem_mem _)
      have hmx := maxOf_upto (n := (2 * ops.length : Nat)) (l := rl.take k) (fun y hy => HRU.out y (by rw [HRD.out]; exact List.mem_of_mem_take hy)) (by omega)
      have HT := Lib.hid (show maxOf (rl.take (k + 1)) = max (maxOf (rl.take k)) rl[k] by rw [List.take_succ_eq_append_getElem hkl, maxOf_snoc])
      generalize rl[k] = y at hcx hub HT
      obtain ⟨M, hM⟩ : ∃ M, maxOf (rl.take k) = M := ⟨_, rfl⟩
      rw [hM] at HN HT hmx
      obtain ⟨⟨x0, x1, x2, x3, x4, x5, x6, x7⟩, f0, f1, f2, f3, f4, f5, f6, f7⟩ := need_cells HN.out.need
      simp only [need0] at x0 x1 x2 x3 x4 x5 x6 x7
      clear hc1 hM hg1 hg2
      by_cases hlt : M < y
      · have HQ := Lib.hid (show maxOf (rl.take (k + 1)) = y by rw [HT.out]; omega)
        as_aux_lemma =>
          go_wp2_with fail
          go_roundg (rl.length - (k + 1))
          case measure => omega
          case rel =>
            refine ⟨k + 1, by omega, rfl, by go_num, ?_, fun j hj => (heap_setCell_other' hj _).trans (HBB.out j hj)⟩
            rw [HQ.out]
            exact HN.out.set 5 _ rfl
      · have HQ := Lib.hid (show maxOf (rl.take (k + 1)) = M by rw [HT.out]; omega)
        as_aux_lemma =>
          go_wp2_with fail
          go_roundg (rl.length - (k + 1))
          case measure => omega
          case rel =>
            refine ⟨k + 1, by omega, rfl, by go_num, ?_, fun j hj => (heap_setCell_other' hj _).trans (HBB.out j hj)⟩
            rw [HQ.out]
            exact HN.out.set 5 _ rfl
    · obtain rfl : k = rl.length := by omega
      rw [List.take_length] at HN
      have HMX := Lib.hid (show maxOf (mRounds ops) = maxOf rl by rw [HRD.out])
      generalize maxOf rl = M at HN HMX
      clear HBB HY1
      go_wp2_with (first | (go_at_call 66; go_must (refine (all_any _).mono ?_; rintro e w2 ⟨rfl, hb2⟩; have HS2 := Lib.hid (HN.out.later hb2); clear hb2)) | (go_at_call 52; go_must (refine (check_yes _ ops _ _ _ HH.out (HV.out.later HS2.out.below HS2.out.below.size) HC.out (HE.out.below HS2.out.below)).mono ?_; rintro e w3 ⟨rfl, hb3⟩; have HS3 := Lib.hid (HS2.out.later hb3); clear hb3)))
      go_loopg [6, 32] ops.length (fun g x i wr => NRel w ops { need0 with rounds := M } g x i wr)
      case atStart => exact ⟨0, _, Nat.zero_le _, rfl, rfl, rfl, HS3.out, rfl, by simp [Hid, MNeed.small, need0]⟩
      case round =>
        obtain ⟨k, n, hk, hg, rfl, rfl, HN2, HGO, HSM⟩ := hrel
        have hgb := garbs_le (ops.take k)
        rw [List.length_take] at hgb
        by_cases hkl : k < ops.length
        · obtain ⟨b, off, rfl, hbl, hcells⟩ := HY.out (by omega)
          obtain ⟨c0, c1, c2, c3, c4, c5⟩ := op_cells hcells HN2.out.below hbl rfl k hkl
          have HNX := Lib.hid (fun (o : MOp) (ho : ops[k] = o) (m : MNeed) (W : World) (x : Int) (hr : (mRule o 65536 65536).2 = true) (hm : needStep n o = m) (hx : x = garbs (ops.take k) + if o.kind = 17 then 1 else 0) (hW : NSt w m W) =>
            NRel.next (n0 := { need0 with rounds := M }) hkl ho HGO HSM hr hm hx hW)
          have HR := Lib.hid (HRL.out k hkl)
          have ho := HC.out ops[k] (List.getElem_mem _)
          obtain ⟨o, hoe⟩ : ∃ o, ops[k] = o := ⟨_, rfl⟩
          rw [hoe] at c0 c1 c2 c3 c4 c5 HR ho
          have HOE := Lib.hid hoe
          generalize garbs (ops.take k) = G at hgb HNX ⊢
          clear hoe hcells
          obtain ⟨⟨x0, x1, x2, x3, x4, x5, x6, x7⟩, f0, f1, f2, f3, f4, f5, f6, f7⟩ := need_cells HN2.out.need
          obtain ⟨⟨b0, b1⟩, ⟨b2, b3⟩, ⟨b4, b5⟩, ⟨b6, b7⟩, ⟨b8, b9⟩, ⟨b10, b11⟩, ⟨b12, b13⟩⟩ := HSM.out
          have HWA := Lib.hid (HN2.out.alloc (.cells o.arr 44))
          have hszw := HN2.out.size
          by_cases k1 : o.kind = 1
          · rcases rule_in HR.out k1 with hp | hp
            · have HK := Lib.hid k1
              have HP := Lib.hid hp
              rw [k1] at c0
              rw [hp] at c5
              clear k1 hp
              as_aux_lemma =>
                go_wp2_with fail
                go_roundg (ops.length - (k + 1))
                case measure => omega
                case rel =>
                  go_light
                  have hk1 := HK.out
                  exact HNX.out o HOE.out _ _ _ HR.out (needStep_in0 n o hk1 HP.out) (by rw [if_neg (by omega)]; omega) (NSt.alloc (NSt.set (m := { n with t0 := n.t0 + 1, w0 := n.w0 + 1 }) (NSt.set (m := { n with t0 := n.t0 + 1 }) HN2.out 3 (.int .i64 (n.t0 + 1)) rfl) 6 (.int .i64 (n.w0 + 1)) rfl) _)
            · have HK := Lib.hid k1
              have HP := Lib.hid hp
              rw [k1] at c0
              rw [hp] at c5
              clear k1 hp
              as_aux_lemma =>
                go_wp2_with fail
                go_roundg (ops.length - (k + 1))
                case measure => omega
                case rel =>
                  go_light
                  have hk1 := HK.out
                  exact HNX.out o HOE.out _ _ _ HR.out (needStep_in1 n o hk1 HP.out) (by rw [if_neg (by omega)]; omega) (NSt.alloc (NSt.set (m := { n with t1 := n.t1 + 1, w1 := n.w1 + 1 }) (NSt.set (m := { n with t1 := n.t1 + 1 }) HN2.out 4 (.int .i64 (n.t1 + 1)) rfl) 7 (.int .i64 (n.w1 + 1)) rfl) _)
          by_cases k6 : o.kind = 6
          · have HK := Lib.hid k6
            rw [k6] at c0
            clear k6 k1
            as_aux_lemma =>
              go_wp2_with fail
              go_roundg (ops.length - (k + 1))
              case measure => omega
              case rel =>
                go_light
                have hk1 := HK.out
                exact HNX.out o HOE.out _ _ _ HR.out (needStep_6 n o hk1) (by rw [if_neg (by omega)]; omega) (NSt.alloc (NSt.set (m := { n with tri := n.tri + 1, w0 := n.w0 + 2, w1 := n.w1 + 2 }) (NSt.set (m := { n with tri := n.tri + 1, w0 := n.w0 + 2 }) (NSt.set (m := { n with tri := n.tri + 1 }) HN2.out 0 (.int .i64 (n.tri + 1)) rfl) 6 (.int .i64 (n.w0 + 2)) rfl) 7 (.int .i64 (n.w1 + 2)) rfl) _)
          by_cases k9 : o.kind = 9
          · have HK := Lib.hid k9
            rw [k9] at c0
            clear k9 k1
            as_aux_lemma =>
              go_wp2_with fail
              go_roundg (ops.length - (k + 1))
              case measure => omega
              case rel =>
                go_light
                have hk1 := HK.out
                exact HNX.out o HOE.out _ _ _ HR.out (needStep_9 n o hk1) (by rw [if_neg (by omega)]; omega) (NSt.alloc (NSt.set (m := { n with bits := n.bits + 1, w0 := n.w0 + 2, w1 := n.w1 + 2 }) (NSt.set (m := { n with bits := n.bits + 1, w0 := n.w0 + 2 }) (NSt.set (m := { n with bits := n.bits + 1 }) HN2.out 1 (.int .i64 (n.bits + 1)) rfl) 6 (.int .i64 (n.w0 + 2)) rfl) 7 (.int .i64 (n.w1 + 2)) rfl) _)
          by_cases k18 : o.kind = 18
          · have HK := Lib.hid k18
            rw [k18] at c0
            clear k18 k1
            as_aux_lemma =>
              go_wp2_with fail
              go_roundg (ops.length - (k + 1))
              case measure => omega
              case rel =>
                go_light
                have hk1 := HK.out
                exact HNX.out o HOE.out _ _ _ HR.out (needStep_out n o (.inl hk1)) (by rw [if_neg (by omega)]; omega) (NSt.alloc (NSt.set (m := { n with w0 := n.w0 + 1, w1 := n.w1 + 1 }) (NSt.set (m := { n with w0 := n.w0 + 1 }) HN2.out 6 (.int .i64 (n.w0 + 1)) rfl) 7 (.int .i64 (n.w1 + 1)) rfl) _)
          by_cases k19 : o.kind = 19
          · have HK := Lib.hid k19
            rw [k19] at c0
            clear k19 k1
            as_aux_lemma =>
              go_wp2_with fail
              go_roundg (ops.length - (k + 1))
              case measure => omega
              case rel =>
                go_light
                have hk1 := HK.out
                exact HNX.out o HOE.out _ _ _ HR.out (needStep_out n o (.inr hk1)) (by rw [if_neg (by omega)]; omega) (NSt.alloc (NSt.set (m := { n with w0 := n.w0 + 1, w1 := n.w1 + 1 }) (NSt.set (m := { n with w0 := n.w0 + 1 }) HN2.out 6 (.int .i64 (n.w0 + 1)) rfl) 7 (.int .i64 (n.w1 + 1)) rfl) _)
          by_cases k17 : o.kind = 17
          · have hok := rule_garb HR.out k17
            have hgs := garb_small hok
            obtain ⟨I, hI⟩ : ∃ I, (mMake o.k.toNat o.c).1 = I := ⟨_, rfl⟩
            obtain ⟨GS, hGS⟩ : ∃ GS, (mMake o.k.toNat o.c).2.1 = GS := ⟨_, rfl⟩
            obtain ⟨A, hA⟩ : ∃ A, ands GS = A := ⟨_, rfl⟩
            rw [hI, hGS, hA] at hgs
            have hpn := operands_bd o.k
            have HM := Lib.hid hI
            have HM2 := Lib.hid hGS
            have HA := Lib.hid hA
            have HOKC := Lib.hid hok
            have HK := Lib.hid k17
            have HSTEP := Lib.hid (show needStep n o = { n with ots := n.ots + 64 * mOperands o.k, t0 := n.t0 + 2 * (I : Int), w0 := n.w0 + 2 * (192 * mOperands o.k + 2 * (A : Int)), w1 := n.w1 + mOperands o.k } by rw [needStep_17 n o k17, garbIns, garbAnds, hI, hGS, hA])
            rw [k17] at c0
            clear k17 k1 k6 k9 k18 k19 hI hGS hA hok
            obtain ⟨pn, hpe⟩ : ∃ pn, mOperands o.k = pn := ⟨_, rfl⟩
            have HPE := Lib.hid hpe
            rw [hpe] at hpn HSTEP
            clear hpe
            go_upto_region 33 with (first | (go_at_call 67; go_must (refine (make_own _ _ _ HOKC.out).mono ?_; rintro e w4 ⟨n1, gs, ag, cg, ao2, no, co, H1, rfl, H2, hb4⟩; obtain ⟨rfl, rfl⟩ := H1.out; rw [HM.out, HM2.out]; rw [HM2.out] at H2; have HN4 := Lib.hid ((HN2.out.alloc _).later hb4); obtain ⟨h0, hB4, hz4⟩ := after1 hb4; obtain ⟨d0, d1, d2, d3, d4, d5⟩ := op_cells1 h0; have hz4' : wr.heap.size < w4.heap.size := (by omega); clear h0 hB4 hb4 hz4 H1)) | (go_at_call 68; go_must (refine (operands_any _ _ _ _ _ _ _).mono ?_; (rw [show (if o.k = 1 then (1 : Int) else 2) = pn from HPE.out]); rintro e w5 ⟨rfl, hb5⟩; have HN5 := Lib.hid ((HN4.out.alloc _).later hb5); obtain ⟨h0, hB5, hz5⟩ := after1 hb5; have HC5 := Lib.hid h0; have HA5 := Lib.hid (Below.owns H2.out hB5); clear h0 hB5 hb5 hz5)))
            clear x0 x1 x2 x3 x4 x5 x6 x7 f0 f1 f2 f3 f4 f5 f6 f7 d0 d1 d2 d3 d4 d5 H2
            obtain ⟨⟨x0, x1, x2, x3, x4, x5, x6, x7⟩, f0, f1, f2, f3, f4, f5, f6, f7⟩ := need_cells HN5.out.need
            obtain ⟨y0, y1, y2⟩ := circ_cells HC5.out
            have hbn : w.heap.size + 1 < w4.heap.size := HN4.out.size
            have hbn1 : ¬ w4.heap.size = w.heap.size + 1 := by omega
            have hbn2 : ¬ w.heap.size + 1 = w4.heap.size := by omega
            go_upto_region 35 with fail
            have hn6 := NSt.set (m := { n with ots := n.ots + 64 * pn, t0 := n.t0 + 2 * (I : Int) }) (NSt.set (m := { n with ots := n.ots + 64 * pn }) HN5.out 2 (.int .i64 (n.ots + 64 * pn)) rfl) 3 (.int .i64 (n.t0 + 2 * (I : Int))) rfl
            have hc6 := (heap_setCell_other' hbn1 (j := 3) (.int .i64 (n.t0 + 2 * (I : Int)))).trans ((heap_setCell_other' hbn1 (j := 2) (.int .i64 (n.ots + 64 * pn))).trans HC5.out)
            have hob : ∀ j, (Value.slice ag GS.length cg).ownBlock = some j → w.heap.size + 1 < j := fun j hj => by have := (HA5.out.lt j hj).1; rw [World.size_alloc] at this; omega
            have ha6 := ownsRow_setCell_other (ownsRow_setCell_other HA5.out (a := ⟨w.heap.size + 1, 2, none⟩) (fun e => by have := hob (w.heap.size + 1) e; omega) (.int .i64 (n.ots + 64 * pn))) (a := ⟨w.heap.size + 1, 3, none⟩) (fun e => by have := hob (w.heap.size + 1) e; omega) (.int .i64 (n.t0 + 2 * (I : Int)))
            clear hob x0 x1 x2 x3 x4 x5 x6 x7 f0 f1 f2 f3 f4 f5 f6 f7 y0 y1 y2
            generalize (w5.setCell ⟨w.heap.size + 1, 2, none⟩ (.int .i64 (n.ots + 64 * pn))).setCell ⟨w.heap.size + 1, 3, none⟩ (.int .i64 (n.t0 + 2 * (I : Int))) = W at hn6 hc6 ha6 ⊢
            obtain ⟨⟨x0, x1, x2, x3, x4, x5, x6, x7⟩, f0, f1, f2, f3, f4, f5, f6, f7⟩ := need_cells hn6.need
            obtain ⟨y0, y1, y2⟩ := circ_cells hc6
            simp only at x0 x1 x2 x3 x4 x5 x6 x7
            have HN6 := Lib.hid hn6
            have HA6 := Lib.hid (Arr.of_owns ha6)
            clear hn6 hc6 ha6
            go_region_with (go_at_call 69; go_must (refine (ands_any _ _ _ GS _ (by first | exact HA6.out | exact Arr.drew HA6.out)).mono ?_; rw [HA.out]; rintro e w7 ⟨rfl, hb7⟩; (try replace hb7 := Below.undrew hb7); have hn7 := HN6.out.later hb7; obtain ⟨⟨z0, z1, z2, z3, z4, z5, z6, z7⟩, l0, l1, l2, l3, l4, l5, l6, l7⟩ := need_cells hn7.need; have HN7 := Lib.hid hn7; clear hn7 hb7))
            all_goals
              go_wp2_with fail
              go_roundg (ops.length - (k + 1))
              case measure => omega
              case rel =>
                go_light
                have hk1 := HK.out
                have hn8 := NSt.set (m := { n with ots := n.ots + 64 * pn, t0 := n.t0 + 2 * (I : Int), w0 := n.w0 + 2 * (192 * pn + 2 * (A : Int)), w1 := n.w1 + pn }) (NSt.set (m := { n with ots := n.ots + 64 * pn, t0 := n.t0 + 2 * (I : Int), w0 := n.w0 + 2 * (192 * pn + 2 * (A : Int)) }) HN7.out 6 (.int .i64 (n.w0 + 2 * (192 * pn + 2 * (A : Int)))) rfl) 7 (.int .i64 (n.w1 + pn)) rfl
                first
                | exact HNX.out o HOE.out _ _ _ HR.out HSTEP.out (by rw [if_pos hk1]) hn8
                | exact HNX.out o HOE.out _ _ _ HR.out HSTEP.out (by rw [if_pos hk1]) hn8.drew
          have HK := Lib.hid (show ¬ o.kind = 1 ∧ ¬ o.kind = 6 ∧ ¬ o.kind = 9 ∧ ¬ o.kind = 18 ∧ ¬ o.kind = 19 ∧ ¬ o.kind = 17 from ⟨k1, k6, k9, k18, k19, k17⟩)
          have q1 : (o.kind == 1) = false := by simpa using k1
          have q6 : (o.kind == 6) = false := by simpa using k6
          have q9 : (o.kind == 9) = false := by simpa using k9
          have q18 : (o.kind == 18) = false := by simpa using k18
          have q19 : (o.kind == 19) = false := by simpa using k19
          have q17 : (o.kind == 17) = false := by simpa using k17
          clear k1 k6 k9 k18 k19 k17
          as_aux_lemma =>
            go_wp2_with fail
            go_roundg (ops.length - (k + 1))
            case measure => omega
            case rel =>
              go_light
              have hk1 := HK.out
              exact HNX.out o HOE.out _ _ _ HR.out (needStep_x n o hk1.1 hk1.2.1 hk1.2.2.1 hk1.2.2.2.1 hk1.2.2.2.2.1 hk1.2.2.2.2.2) (by rw [if_neg (by omega)]; omega) (NSt.alloc HN2.out _)
        · obtain rfl : k = ops.length := by omega
          rw [List.take_length] at hgb ⊢
          have hgo := HGO.out
          rw [List.drop_length, needGo] at hgo
          have HGE := Lib.hid hgo
          clear hgo
          obtain ⟨G, hG⟩ : ∃ G, garbs ops = G := ⟨_, rfl⟩
          have HG := Lib.hid hG
          rw [hG] at hgb ⊢
          clear hG
          obtain ⟨⟨x0, x1, x2, x3, x4, x5, x6, x7⟩, f0, f1, f2, f3, f4, f5, f6, f7⟩ := need_cells HN2.out.need
          obtain ⟨⟨b0, b1⟩, ⟨b2, b3⟩, ⟨b4, b5⟩, ⟨b6, b7⟩, ⟨b8, b9⟩, ⟨b10, b11⟩, ⟨b12, b13⟩⟩ := HSM.out
          by_cases hG0 : 0 < G
          · have hmn : mNeed ops = { n with t0 := n.t0 + 2 } := by
              rw [mNeed, if_pos HH.out]
              simp only
              rw [if_pos (by rw [HG.out]; exact hG0), HMX.out, HGE.out]
            have HMN := Lib.hid hmn
            have hn3 := NSt.set (m := { n with t0 := n.t0 + 2 }) HN2.out 3 (.int .i64 (n.t0 + 2)) rfl
            have HN3 := Lib.hid hn3
            clear hmn hn3
            as_aux_lemma =>
              go_wp2_with ((with_reducible show wpList _ _ _ (⟨_, Op.store _ (.tmp 2) _, _, _, _, _⟩ :: _) _ _); go_must (refine wpList_store_row rfl 26 _ _ rfl w.heap.size (MNeed.arr { n with t0 := n.t0 + 2 }) rfl rfl 26 need0.arr HN3.out.res info_need rfl (by simp [Value.oneCell', MNeed.arr]) ?_))
              exact bodyPost_ret (results_cell_row rfl _ _ w.heap.size 26 (MNeed.arr { n with t0 := n.t0 + 2 }) _ _ rfl (setRow_heap _ _ _ _ _ _ HN3.out.res) Tryz.underlying26 rfl info_need) rfl ⟨by rw [HMN.out], below_setRow HN3.out.below (Nat.le_refl _) _⟩
          · have hmn : mNeed ops = n := by
              rw [mNeed, if_pos HH.out]
              simp only
              rw [if_neg (by rw [HG.out]; exact hG0), HMX.out, HGE.out]
            have HMN := Lib.hid hmn
            clear hmn
            as_aux_lemma =>
              go_wp2_with ((with_reducible show wpList _ _ _ (⟨_, Op.store _ (.tmp 2) _, _, _, _, _⟩ :: _) _ _); go_must (refine wpList_store_row rfl 26 _ _ rfl w.heap.size n.arr rfl rfl 26 need0.arr HN2.out.res info_need rfl (by simp [Value.oneCell', MNeed.arr]) ?_))
              exact bodyPost_ret (results_cell_row rfl _ _ w.heap.size 26 n.arr _ _ rfl (setRow_heap _ _ _ _ _ _ HN2.out.res) Tryz.underlying26 rfl info_need) rfl ⟨by rw [HMN.out], below_setRow HN2.out.below (Nat.le_refl _) _⟩

/-- micro.Need, of whatever operations. -/
theorem need_any (v : Value) (ops : List MOp) (w : World) (hv : Arr w.heap.size w 6 v ops.length (ocells ops)) (hl : ops.length ≤ 1000000) (hc : ∀ o ∈ ops, o.c < 18446744073709551616) (hE : ErrT w) :
    Calls Tryz.prog 34 #[v] w (RetB (.agg (mNeed ops).arr) w) := by
  by_cases h : mCheck ops 65536 65536 = true
  · refine need_yes v ops w h hv ?_ hc hE
    simp only [mCheck, Bool.and_eq_true, decide_eq_true_eq] at h
    exact h.1.2
  · have h' : mCheck ops 65536 65536 = false := by simpa using h
    have e : mNeed ops = need0 := by rw [mNeed, if_neg h]
    rw [e]
    exact need_no v ops w h' hv hl hc hE
/-- micro.Rounds, of whatever operations. -/
theorem rounds_any (v : Value) (ops : List MOp) (w : World) (hv : Arr w.heap.size w 6 v ops.length (ocells ops)) (hl : ops.length ≤ 1000000) (hc : ∀ o ∈ ops, o.c < 18446744073709551616) (hE : ErrT w) :
    Calls Tryz.prog 54 #[v] w fun e w' => ∃ u, e = .returned u ∧ w'.ownsRow w.heap.size 3 1 u (mRounds ops).length (ints (mRounds ops)) ∧ Below w.heap.size w w' := by
  by_cases h : mCheck ops 65536 65536 = true
  · refine rounds_yes v ops w h hv ?_ hc hE
    simp only [mCheck, Bool.and_eq_true, decide_eq_true_eq] at h
    exact h.1.2
  · have h' : mCheck ops 65536 65536 = false := by simpa using h
    have e : mRounds ops = [] := by rw [mRounds, if_neg h]
    rw [e]
    exact (rounds_no v ops w h' hv hl hc hE).mono fun e w' ⟨he, hb⟩ => ⟨_, he, World.ownsRow_nil _ _ _ _, hb⟩
end Go.Proofs.YtjbhgimhcjcpmaaGreatDoor
