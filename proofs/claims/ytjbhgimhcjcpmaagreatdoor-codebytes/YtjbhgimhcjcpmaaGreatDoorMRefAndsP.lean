/-
  PLAIN LAWS: the reference counts as many And gates, and inputs, as the program's circuits have.
-/
import Derived.Test.YtjbhgimhcjcpmaaGreatDoorMRefMake9
import Derived.Test.YtjbhgimhcjcpmaaGreatDoorMMCheck
import Derived.Test.YtjbhgimhcjcpmaaGreatDoorMRefRounds
import Derived.Test.YtjbhgimhcjcpmaaGreatDoorMNeed
import Derived.Deep.Light
set_option linter.unusedSimpArgs false
set_option linter.unusedVariables false
namespace Go.Proofs.YtjbhgimhcjcpmaaGreatDoor

theorem ands_nil : ands [] = 0 := rfl
theorem gt_ands (N : Nat) (k a b : Int) (gs : List Gate) : ands (gt N k a b gs).2 = ands gs + if k = 2 then 1 else 0 := ands_put _ _ _ _
theorem mCarry_ands (N : Nat) (a b c : Int) (gs : List Gate) : ands (mCarry N a b c gs).2 = ands gs + 1 := by
  simp only [mCarry, gt_ands]; simp
theorem xorTo_ands (N : Nat) (a b : List Int) (gs : List Gate) (k : Nat) : ands (xorTo N a b gs k).2 = ands gs := by
  induction k with
  | zero => rfl
  | succ k ih => simp only [xorTo, gt_ands, ih]; simp
theorem addTo_ands (N : Nat) (a b : List Int) (gs : List Gate) (n : Nat) : ands (addTo N a b gs n).2.2 = ands gs + 1 + min n 62 := by
  induction n with
  | zero => simp only [addTo, gt_ands]; simp
  | succ n ih =>
    simp only [addTo]
    split
    · simp only [mCarry_ands, gt_ands, ih]; simp; omega
    · simp only [gt_ands, ih]; simp; omega
theorem mOperand_ands (N : Nat) (bit : Bool) (i : Int) (gs : List Gate) : ands (mOperand N bit i gs).2 = ands gs + parAnds bit := by
  unfold mOperand parAnds
  cases bit
  · simp only [Bool.false_eq_true, if_false, addTo_ands]; omega
  · simp only [if_true, xorTo_ands]; omega
theorem lessTo_ands (N : Nat) (a b : List Int) (gs : List Gate) (n : Nat) : ands (lessTo N a b gs n).2 = ands gs + 1 + n := by
  induction n with
  | zero => simp only [lessTo, gt_ands]; simp
  | succ n ih => simp only [lessTo, mCarry_ands, gt_ands, ih]; simp; omega
theorem mLess_ands (N : Nat) (a b : List Int) (gs : List Gate) : ands (mLess N a b gs).2 = ands gs + 64 := by
  simp only [mLess, mCarry_ands, gt_ands, lessTo_ands]; simp
theorem pickTo_ands (N : Nat) (s : Int) (a b : List Int) (gs : List Gate) (k : Nat) : ands (pickTo N s a b gs k).2 = ands gs + k := by
  induction k with
  | zero => rfl
  | succ k ih => simp only [pickTo, pick1, gt_ands, ih]; simp; omega
theorem reluTo_ands (N : Nat) (s : Int) (x : List Int) (gs : List Gate) (k : Nat) : ands (reluTo N s x gs k).2 = ands gs + k := by
  induction k with
  | zero => rfl
  | succ k ih => simp only [reluTo, gt_ands, ih]; simp; omega
theorem mMake_ands (kind f : Nat) : ands (mMake kind f).2.1 = if kind = 1 then parAnds (f / 2 ^ 0 % 2 == 1) + 63 else parAnds (f / 2 ^ 0 % 2 == 1) + parAnds (f / 2 ^ 1 % 2 == 1) + (if kind = 2 then 64 else 128) := by
  unfold mMake
  split
  · simp only [reluTo_ands, gt_ands, mOps, mOperand_ands, ands_nil]; simp
  · split
    · simp only [mLess_ands, gt_ands, mOps, mOperand_ands, ands_nil]; simp
    · simp only [pickTo_ands, mLess_ands, gt_ands, mOps, mOperand_ands, ands_nil]; simp
theorem garbAnds_eq (o : MOp) (h : circOk o.k o.c = true) : garbAnds o = (rAnds o.k o.c : Nat) := by
  unfold garbAnds
  rw [mMake_ands]
  generalize o.k = k, o.c = c at h ⊢
  rcases circOk_cases h with ⟨rfl, rfl | rfl⟩ | ⟨rfl | rfl, rfl | rfl | rfl | rfl⟩ <;> decide
theorem garbIns_eq (o : MOp) (h : circOk o.k o.c = true) : garbIns o = 128 * mOperands o.k := by
  unfold garbIns mOperands mMake
  generalize o.k = k, o.c = c at h ⊢
  rcases circOk_cases h with ⟨rfl, _⟩ | ⟨rfl | rfl, _⟩ <;> rfl
end Go.Proofs.YtjbhgimhcjcpmaaGreatDoor

/-
  THE CONTRACT of twainref11.Need, of what is a program.
-/
namespace Go.Proofs.YtjbhgimhcjcpmaaGreatDoor
open Go.RowKit

theorem needStep_set (n : MNeed) (o : MOp) (x : Int) : needStep { n with rounds := x } o = { needStep n o with rounds := x } := by
  unfold needStep
  repeat' split
  all_goals rfl
theorem needGo_set : ∀ (l : List MOp) (n : MNeed) (x : Int), needGo l { n with rounds := x } = { needGo l n with rounds := x }
  | [], _, _ => rfl
  | o :: l, n, x => by rw [needGo, needGo, needStep_set, needGo_set l]
/-- The blocks of result and need; the rounds' row. -/
structure NQ (w : World) (n : MNeed) (u : Value) (rl : List Int) (W : World) : Prop where
  st : NSt w n W
  own : W.ownsRow (w.heap.size + 2) 3 1 u rl.length (ints rl)
theorem NQ.later {w : World} {n : MNeed} {u : Value} {rl : List Int} {W W1 : World} (h : NQ w n u rl W) (hb : Below W.heap.size W W1) : NQ w n u rl W1 := ⟨h.st.later hb, Below.owns h.own hb⟩
theorem NQ.set {w : World} {n m : MNeed} {u : Value} {rl : List Int} {W : World} (h : NQ w n u rl W) (j : Nat) (v : Value) (hm : n.arr.setIfInBounds j v = m.arr) : NQ w m u rl (W.setCell ⟨w.heap.size + 1, j, none⟩ v) :=
  ⟨h.st.set j v hm, own_keep9 h.own fun i hi => heap_setCell_other' (fun e => by have := (h.own.lt i hi).1; omega) _⟩
theorem NQ.drew {w : World} {n : MNeed} {u : Value} {rl : List Int} {W : World} (h : NQ w n u rl W) : NQ w n u rl W.drew := ⟨h.st.drew, h.own⟩
theorem NQ.drewN {w : World} {n : MNeed} {u : Value} {rl : List Int} {W : World} (h : NQ w n u rl W) (i : Nat) : NQ w n u rl (W.drewN i) := ⟨⟨h.st.res, h.st.need, below_drewN h.st.below i⟩, h.own⟩
/-- Besides, an operation's block. -/
structure NO (w : World) (n : MNeed) (u : Value) (rl : List Int) (B : Nat) (o : MOp) (W : World) : Prop where
  nq : NQ w n u rl W
  op : W.heap[B]? = some (.cells o.arr 44 (0, 0))
  lt : w.heap.size + 1 < B
theorem NO.start {w : World} {n : MNeed} {u : Value} {rl : List Int} {W : World} (h : NQ w n u rl W) (o : MOp) : NO w n u rl W.heap.size o (W.alloc (.cells o.arr 44)) := ⟨h.later ((Below.refl _ _).alloc (Nat.le_refl _) _), heap_alloc_new _ _, h.st.size⟩
theorem NO.later {w : World} {n : MNeed} {u : Value} {rl : List Int} {B : Nat} {o : MOp} {W W1 : World} (h : NO w n u rl B o W) (hb : Below W.heap.size W W1) : NO w n u rl B o W1 := ⟨h.nq.later hb, (hb.block _ (lt_of_block h.op)).trans h.op, h.lt⟩
theorem NO.set {w : World} {n m : MNeed} {u : Value} {rl : List Int} {B : Nat} {o : MOp} {W : World} (h : NO w n u rl B o W) (j : Nat) (v : Value) (hm : n.arr.setIfInBounds j v = m.arr) : NO w m u rl B o (W.setCell ⟨w.heap.size + 1, j, none⟩ v) :=
  ⟨h.nq.set j v hm, (heap_setCell_other' (by have := h.lt; omega) _).trans h.op, h.lt⟩
theorem NO.drew {w : World} {n : MNeed} {u : Value} {rl : List Int} {B : Nat} {o : MOp} {W : World} (h : NO w n u rl B o W) : NO w n u rl B o W.drew := ⟨h.nq.drew, h.op, h.lt⟩
theorem NO.drewN {w : World} {n : MNeed} {u : Value} {rl : List Int} {B : Nat} {o : MOp} {W : World} (h : NO w n u rl B o W) (i : Nat) : NO w n u rl B o (W.drewN i) := ⟨h.nq.drewN i, h.op, h.lt⟩
theorem rAnds_le (k : Int) (c : Nat) : rAnds k c ≤ 1000 := by
  have hp : ∀ b, parAnds b ≤ 63 := by intro b; unfold parAnds; split <;> omega
  have h1 := hp ((c : Int) % 2 == 1)
  have h2 := hp ((c : Int) / 2 % 2 == 1)
  unfold rAnds
  split
  · omega
  · split <;> omega
def garb2 (l : List MOp) : Int := if 0 < garbs l then 2 else 0
/-- The relation of the loop. -/
def QRel (w : World) (ops : List MOp) (u : Value) (rl : List Int) (g : Nat) (x i : Value) (wr : World) : Prop :=
  ∃ (k : Nat) (n : MNeed), k ≤ ops.length ∧ g = ops.length - k ∧ i = .int .i64 k ∧ x = .int .i64 (garb2 (ops.take k)) ∧ Hid (NQ w { n with rounds := maxOf (rl.take k) } u rl wr) ∧ Hid (needGo (ops.drop k) n = needGo ops need0) ∧ Hid (n.small (10000 * k : Nat))
theorem QRel.next {w : World} {ops : List MOp} {u : Value} {rl : List Int} {n m : MNeed} {k : Nat} {o : MOp} {W : World} {x M : Int} (hk : k < ops.length) (ho : ops[k] = o) (hn : Hid (needGo (ops.drop k) n = needGo ops need0)) (hs : Hid (n.small (10000 * k : Nat)))
    (hr : (mRule o 65536 65536).2 = true) (hm : needStep n o = m) (hx : x = if o.kind = 17 then 2 else garb2 (ops.take k)) (hM : maxOf (rl.take (k + 1)) = M) (hW : NQ w { m with rounds := M } u rl W) : QRel w ops u rl (ops.length - (k + 1)) (.int .i64 x) (.int .i64 ((k : Int) + 1)) W := by
  refine ⟨k + 1, m, by omega, rfl, by go_num, ?_, by rw [hM]; exact hW, ?_, ?_⟩
  · rw [hx]
    unfold garb2
    have hg := garbs_le (ops.take k)
    rw [garbs_take ops k hk, ho]
    split
    · rw [if_pos (by omega)]
    · rw [Int.add_zero]
  · unfold Hid; rw [← hn.out, List.drop_eq_getElem_cons hk, ho, needGo, hm]
  · have := needStep_small hs.out o hr
    rw [hm] at this
    rw [show 10000 * (k + 1) = 10000 * k + 10000 by omega]
    exact this

set_option maxHeartbeats 8000000 in
set_option maxRecDepth 100000 in
theorem refNeed_any (v : Value) (ops : List MOp) (w : World) (h : mCheck ops 65536 65536 = true) (hv : Arr w.heap.size w 6 v ops.length (ocells ops)) :
    Calls Tryz.prog 40 #[v] w (RetB (.agg (mNeed ops).arr) w) := by
  have hl : ops.length ≤ 16384 := by simp only [mCheck, Bool.and_eq_true, decide_eq_true_eq] at h; exact h.1.2
  have hrl := check_rules h
  have hru := mRounds_upto ops
  have hrn := mRounds_len ops
  rw [if_pos h] at hrn
  obtain ⟨N, hN⟩ : ∃ N, mNeed ops = N := ⟨_, rfl⟩
  rw [hN]
  have hNE : N = if 0 < garbs ops then { needGo ops { need0 with rounds := maxOf (mRounds ops) } with t0 := (needGo ops { need0 with rounds := maxOf (mRounds ops) }).t0 + 2 } else needGo ops { need0 with rounds := maxOf (mRounds ops) } := by
    rw [← hN, mNeed, if_pos h]
  obtain ⟨ao, cc, rfl, hcc, hm, hx, hy⟩ := hv.open
  have HV := Lib.hid hv
  have HH := Lib.hid h
  have HY := Lib.hid hy
  have HRL := Lib.hid hrl
  have HRU := Lib.hid hru
  have HRN := Lib.hid hrn
  have HNE := Lib.hid hNE
  clear hv h hx hm hy hrl hru hrn hN hNE
  have HS := Lib.hid (show NSt w need0 ((w.alloc (.cells need0.arr 26)).alloc (.cells need0.arr 26)) from ⟨heap_alloc2_old _ _ _, heap_alloc2_new _ _ _, below_alloc2 _ _ _⟩)
  simp only [MNeed.arr, need0] at HS
  obtain ⟨rl, hrl⟩ : ∃ rl, mRounds ops = rl := ⟨_, rfl⟩
  have HRD := Lib.hid hrl
  clear hrl
  go_enter Tryz.func40, Tryz.ntmps40
  go_upto_region 5 with ((go_at_call 47; go_must (refine (refRounds_any _ ops _ HH.out (HV.out.later' (below_alloc2 _ _ _))).mono ?_; rw [HRD.out]; rintro e w1 ⟨u, rfl, hown1, hb1⟩; have HS1 := Lib.hid (show NQ w need0 u rl w1 from ⟨HS.out.later hb1, owns_base hown1 (by simp)⟩); clear hb1 hown1)))
  have hrlen : rl.length = ops.length := by rw [← HRD.out, HRN.out]
  have HLEN := Lib.hid hrlen
  clear hrlen
  go_loopg [5, 6] ops.length (fun g x i wr => QRel w ops u rl g x i wr)
  case atStart => exact ⟨0, need0, Nat.zero_le _, rfl, rfl, rfl, HS1, Lib.hid rfl, by simp [Hid, MNeed.small, need0]⟩
  case round =>
    obtain ⟨k, n, hk, hg, rfl, rfl, HN2, HGO, HSM⟩ := hrel
    by_cases hkl : k < ops.length
    · obtain ⟨b, off, rfl, hbl, hcells⟩ := HY.out (by omega)
      obtain ⟨c0, c1, c2, c3, c4, c5⟩ := op_cells hcells HN2.out.st.below hbl rfl k hkl
      have HNX := Lib.hid (fun (o : MOp) (ho : ops[k] = o) (m : MNeed) (W : World) (x M : Int) (hr : (mRule o 65536 65536).2 = true) (hm : needStep n o = m) (hx : x = if o.kind = 17 then 2 else garb2 (ops.take k)) (hM : maxOf (rl.take (k + 1)) = M) (hW : NQ w { m with rounds := M } u rl W) =>
        QRel.next (u := u) hkl ho HGO HSM hr hm hx hM hW)
      have HR := Lib.hid (HRL.out k hkl)
      obtain ⟨o, hoe⟩ : ∃ o, ops[k] = o := ⟨_, rfl⟩
      rw [hoe] at c0 c1 c2 c3 c4 c5 HR
      have HOE := Lib.hid hoe
      obtain ⟨G, hG⟩ : ∃ G, garb2 (ops.take k) = G := ⟨_, rfl⟩
      rw [hG] at HNX ⊢
      have hkr : k < rl.length := by have := HLEN.out; omega
      have HT := Lib.hid (show maxOf (rl.take (k + 1)) = max (maxOf (rl.take k)) rl[k] by rw [List.take_succ_eq_append_getElem hkr, maxOf_snoc])
      have hub := HRU.out rl[k] (by rw [HRD.out]; exact List.getElem_mem _)
      have hmx := maxOf_upto (n := (2 * ops.length : Nat)) (l := rl.take k) (fun y hy => HRU.out y (by rw [HRD.out]; exact List.mem_of_mem_take hy)) (by omega)
      have hown := HN2.out.own
      obtain ⟨g1, cp1, rfl, hg1, hg2⟩ := hown.form (by omega)
      have hcy : ∀ W : World, W.ownsRow (w.heap.size + 2) 3 1 (.slice (some ⟨g1, 0, none⟩) rl.length cp1) rl.length (ints rl) → W.cell? ⟨g1, k, none⟩ = some (.int .i64 rl[k]) := fun W hW => by
        have := ints_getD hW k hkr
        simpa [List.getD, hkr] using this
      generalize rl[k] = y at hub HT hcy
      have HCY := Lib.hid hcy
      clear hcells hoe hG hown hcy
      have h3 : (0 : Int) ≤ (k : Int) := by omega
      have h4 : (k : Int) < (ops.length : Int) := by omega
      have h5 : (k : Int) < (rl.length : Int) := by omega
      have HO1 := Lib.hid (show NO w _ _ rl wr.heap.size o (wr.alloc (.cells #[.int .i64 o.kind, .int .i64 o.a, .int .i64 o.b, .int .i64 o.k, .int .u64 o.c, .int .i64 o.party] 44)) from NO.start HN2.out o)
      go_upto_region 8 with fail
      generalize wr.alloc (.cells #[.int .i64 o.kind, .int .i64 o.a, .int .i64 o.b, .int .i64 o.k, .int .u64 o.c, .int .i64 o.party] 44) = W1 at HO1 ⊢
      generalize hB : wr.heap.size = B at HO1 ⊢
      clear c0 c1 c2 c3 c4 c5 hB
      obtain ⟨M, hM⟩ : ∃ M, maxOf (rl.take k) = M := ⟨_, rfl⟩
      rw [hM] at HO1 HT hmx
      clear hM
      obtain ⟨⟨x0, x1, x2, x3, x4, x5, x6, x7⟩, f0, f1, f2, f3, f4, f5, f6, f7⟩ := need_cells HO1.out.nq.st.need
      have hcx := HCY.out W1 HO1.out.nq.own
      simp only at x5
      go_quiet (fail)
      rename Nat => nq
      have HO2 := Lib.hid (HO1.out.drewN nq)
      clear x0 x1 x2 x3 x4 x5 x6 x7 f0 f1 f2 f3 f4 f5 f6 f7 hcx HO1
      generalize W1.drewN nq = W2 at HO2 ⊢
      go_upto_if 28 with fail
      go_cut [] from 22 to 33 (fun wx => Hid (NO w { n with rounds := max M y } (.slice (some ⟨g1, 0, none⟩) rl.length cp1) rl B o wx))
      case first =>
        obtain ⟨⟨x0, x1, x2, x3, x4, x5, x6, x7⟩, f0, f1, f2, f3, f4, f5, f6, f7⟩ := need_cells HO2.out.nq.st.need
        have hcx := HCY.out W2 HO2.out.nq.own
        simp only at x5
        by_cases hlt : M < y
        · have hd : decide (M < y) = true := by simpa using hlt
          have HMX := Lib.hid (show max M y = y by omega)
          go_wp2_with fail
          go_meet
          rw [HMX.out]
          exact Lib.hid (HO2.out.set (m := { n with rounds := y }) 5 (.int .i64 y) rfl)
        · have hd : decide (M < y) = false := by simpa using hlt
          have HMX := Lib.hid (show max M y = M by omega)
          go_wp2_with fail
          go_meet
          rw [HMX.out]
          exact HO2
      case rest =>
        have HCU := hcut
        have HT' := Lib.hid (show maxOf (rl.take (k + 1)) = max M y from HT.out)
        obtain ⟨M', hM'⟩ : ∃ M', max M y = M' := ⟨_, rfl⟩
        rw [hM'] at hcut HT'
        clear HT HCU hM' hub hmx HO2 HCY
        obtain ⟨c0, c1, c2, c3, c4, c5⟩ := op_cells6 hcut.out.op
        obtain ⟨⟨x0, x1, x2, x3, x4, x5, x6, x7⟩, f0, f1, f2, f3, f4, f5, f6, f7⟩ := need_cells hcut.out.nq.st.need
        simp only at x0 x1 x2 x3 x4 x5 x6 x7
        obtain ⟨⟨b0, b1⟩, ⟨b2, b3⟩, ⟨b4, b5⟩, ⟨b6, b7⟩, ⟨b8, b9⟩, ⟨b10, b11⟩, ⟨b12, b13⟩⟩ := HSM.out
        by_cases k1 : o.kind = 1
        · rcases rule_in HR.out k1 with hp | hp
          · have HK := Lib.hid k1
            have HP := Lib.hid hp
            rw [k1] at c0
            rw [hp] at c5
            clear k1 hp
            go_wp2_with fail
            go_roundg (ops.length - (k + 1))
            case measure => omega
            case rel =>
              go_light
              have hk1 := HK.out
              exact HNX.out o HOE.out { n with t0 := n.t0 + 1, w0 := n.w0 + 1 } _ _ M' HR.out (needStep_in0 n o hk1 HP.out) (by rw [if_neg (by omega)]) HT'.out (NQ.set (m := { n with t0 := n.t0 + 1, w0 := n.w0 + 1, rounds := M' }) (NQ.set (m := { n with t0 := n.t0 + 1, rounds := M' }) hcut.out.nq 3 (.int .i64 (n.t0 + 1)) rfl) 6 (.int .i64 (n.w0 + 1)) rfl)
          · have HK := Lib.hid k1
            have HP := Lib.hid hp
            rw [k1] at c0
            rw [hp] at c5
            clear k1 hp
            go_wp2_with fail
            go_roundg (ops.length - (k + 1))
            case measure => omega
            case rel =>
              go_light
              have hk1 := HK.out
              exact HNX.out o HOE.out { n with t1 := n.t1 + 1, w1 := n.w1 + 1 } _ _ M' HR.out (needStep_in1 n o hk1 HP.out) (by rw [if_neg (by omega)]) HT'.out (NQ.set (m := { n with t1 := n.t1 + 1, w1 := n.w1 + 1, rounds := M' }) (NQ.set (m := { n with t1 := n.t1 + 1, rounds := M' }) hcut.out.nq 4 (.int .i64 (n.t1 + 1)) rfl) 7 (.int .i64 (n.w1 + 1)) rfl)
        by_cases k6 : o.kind = 6
        · have HK := Lib.hid k6
          rw [k6] at c0
          clear k6 k1
          go_wp2_with fail
          go_roundg (ops.length - (k + 1))
          case measure => omega
          case rel =>
            go_light
            have hk1 := HK.out
            exact HNX.out o HOE.out { n with tri := n.tri + 1, w0 := n.w0 + 2, w1 := n.w1 + 2 } _ _ M' HR.out (needStep_6 n o hk1) (by rw [if_neg (by omega)]) HT'.out (NQ.set (m := { n with tri := n.tri + 1, w0 := n.w0 + 2, w1 := n.w1 + 2, rounds := M' }) (NQ.set (m := { n with tri := n.tri + 1, w0 := n.w0 + 2, rounds := M' }) (NQ.set (m := { n with tri := n.tri + 1, rounds := M' }) hcut.out.nq 0 (.int .i64 (n.tri + 1)) rfl) 6 (.int .i64 (n.w0 + 2)) rfl) 7 (.int .i64 (n.w1 + 2)) rfl)
        by_cases k9 : o.kind = 9
        · have HK := Lib.hid k9
          rw [k9] at c0
          clear k9 k1
          go_wp2_with fail
          go_roundg (ops.length - (k + 1))
          case measure => omega
          case rel =>
            go_light
            have hk1 := HK.out
            exact HNX.out o HOE.out { n with bits := n.bits + 1, w0 := n.w0 + 2, w1 := n.w1 + 2 } _ _ M' HR.out (needStep_9 n o hk1) (by rw [if_neg (by omega)]) HT'.out (NQ.set (m := { n with bits := n.bits + 1, w0 := n.w0 + 2, w1 := n.w1 + 2, rounds := M' }) (NQ.set (m := { n with bits := n.bits + 1, w0 := n.w0 + 2, rounds := M' }) (NQ.set (m := { n with bits := n.bits + 1, rounds := M' }) hcut.out.nq 1 (.int .i64 (n.bits + 1)) rfl) 6 (.int .i64 (n.w0 + 2)) rfl) 7 (.int .i64 (n.w1 + 2)) rfl)
        by_cases k18 : o.kind = 18
        · have HK := Lib.hid k18
          rw [k18] at c0
          clear k18 k1
          go_wp2_with fail
          go_roundg (ops.length - (k + 1))
          case measure => omega
          case rel =>
            go_light
            have hk1 := HK.out
            exact HNX.out o HOE.out { n with w0 := n.w0 + 1, w1 := n.w1 + 1 } _ _ M' HR.out (needStep_out n o (.inl hk1)) (by rw [if_neg (by omega)]) HT'.out (NQ.set (m := { n with w0 := n.w0 + 1, w1 := n.w1 + 1, rounds := M' }) (NQ.set (m := { n with w0 := n.w0 + 1, rounds := M' }) hcut.out.nq 6 (.int .i64 (n.w0 + 1)) rfl) 7 (.int .i64 (n.w1 + 1)) rfl)
        by_cases k19 : o.kind = 19
        · have HK := Lib.hid k19
          rw [k19] at c0
          clear k19 k1
          go_wp2_with fail
          go_roundg (ops.length - (k + 1))
          case measure => omega
          case rel =>
            go_light
            have hk1 := HK.out
            exact HNX.out o HOE.out { n with w0 := n.w0 + 1, w1 := n.w1 + 1 } _ _ M' HR.out (needStep_out n o (.inr hk1)) (by rw [if_neg (by omega)]) HT'.out (NQ.set (m := { n with w0 := n.w0 + 1, w1 := n.w1 + 1, rounds := M' }) (NQ.set (m := { n with w0 := n.w0 + 1, rounds := M' }) hcut.out.nq 6 (.int .i64 (n.w0 + 1)) rfl) 7 (.int .i64 (n.w1 + 1)) rfl)
        by_cases k17 : o.kind = 17
        · have hok := rule_garb HR.out k17
          have hpn := operands_bd o.k
          have HOKC := Lib.hid hok
          have HK := Lib.hid k17
          obtain ⟨pn, hpe⟩ : ∃ pn, mOperands o.k = pn := ⟨_, rfl⟩
          obtain ⟨A, hA⟩ : ∃ A, rAnds o.k o.c = A := ⟨_, rfl⟩
          have hAb : A ≤ 1000 := by rw [← hA]; exact rAnds_le _ _
          have HSTEP := Lib.hid (show needStep n o = { n with ots := n.ots + 64 * pn, t0 := n.t0 + 256 * pn, w0 := n.w0 + 2 * (64 * pn + 128 * pn + 2 * (A : Int)), w1 := n.w1 + pn } by
            rw [needStep_17 n o k17, garbIns_eq o hok, garbAnds_eq o hok, hpe, hA]
            simp only [MNeed.mk.injEq, true_and, and_true]
            omega)
          have HPE := Lib.hid (show rOperands o.k o.c = pn by unfold rOperands; rw [if_pos hok, ← hpe]; rfl)
          have HA := Lib.hid hA
          rw [hpe] at hpn
          rw [k17] at c0
          clear k17 k1 k6 k9 k18 k19 hpe hA hok
          go_upto_region 26 with (go_at_call 77; go_must (refine (refOperands_any _ _ _).mono ?_; rw [HPE.out]; rintro e w' ⟨rfl, rfl⟩))
          have hn6 := NO.set (m := { n with ots := n.ots + 64 * pn, t0 := n.t0 + 256 * pn, rounds := M' }) (NO.set (m := { n with ots := n.ots + 64 * pn, rounds := M' }) hcut.out 2 (.int .i64 (n.ots + 64 * pn)) rfl) 3 (.int .i64 (n.t0 + 256 * pn)) rfl
          clear x0 x1 x2 x3 x4 x5 x6 x7 f0 f1 f2 f3 f4 f5 f6 f7 c0 c1 c2 c3 c4 c5
          generalize World.setCell (World.setCell _ ⟨w.heap.size + 1, 2, none⟩ (.int .i64 (n.ots + 64 * pn))) ⟨w.heap.size + 1, 3, none⟩ (.int .i64 (n.t0 + 256 * pn)) = W at hn6 ⊢
          obtain ⟨c0, c1, c2, c3, c4, c5⟩ := op_cells6 hn6.op
          obtain ⟨⟨x0, x1, x2, x3, x4, x5, x6, x7⟩, f0, f1, f2, f3, f4, f5, f6, f7⟩ := need_cells hn6.nq.st.need
          simp only at x0 x1 x2 x3 x4 x5 x6 x7
          have HN6 := Lib.hid hn6
          clear hn6 hcut
          go_region_with (go_at_call 78; go_must (refine (refAnds_any o _ HOKC.out).mono ?_; rw [HA.out]; unfold RetB; rintro e w7 ⟨rfl, hb7⟩; (try replace hb7 := Below.undrew hb7); have hn7 := HN6.out.later hb7; obtain ⟨⟨z0, z1, z2, z3, z4, z5, z6, z7⟩, l0, l1, l2, l3, l4, l5, l6, l7⟩ := need_cells hn7.nq.st.need; have HN7 := Lib.hid hn7; clear hn7 hb7))
          all_goals
            go_wp2_with fail
            go_roundg (ops.length - (k + 1))
            case measure => omega
            case rel =>
              go_light
              have hk1 := HK.out
              have hn8 := NQ.set (m := { n with ots := n.ots + 64 * pn, t0 := n.t0 + 256 * pn, w0 := n.w0 + 2 * (64 * pn + 128 * pn + 2 * (A : Int)), w1 := n.w1 + pn, rounds := M' }) (NQ.set (m := { n with ots := n.ots + 64 * pn, t0 := n.t0 + 256 * pn, w0 := n.w0 + 2 * (64 * pn + 128 * pn + 2 * (A : Int)), rounds := M' }) HN7.out.nq 6 (.int .i64 (n.w0 + 2 * (64 * pn + 128 * pn + 2 * (A : Int)))) rfl) 7 (.int .i64 (n.w1 + pn)) rfl
              first
              | exact HNX.out o HOE.out _ _ _ M' HR.out HSTEP.out (by rw [if_pos hk1]) HT'.out hn8
              | exact HNX.out o HOE.out _ _ _ M' HR.out HSTEP.out (by rw [if_pos hk1]) HT'.out hn8.drew
        have HK := Lib.hid (show ¬ o.kind = 1 ∧ ¬ o.kind = 6 ∧ ¬ o.kind = 9 ∧ ¬ o.kind = 18 ∧ ¬ o.kind = 19 ∧ ¬ o.kind = 17 from ⟨k1, k6, k9, k18, k19, k17⟩)
        have q1 : (o.kind == 1) = false := by simpa using k1
        have q6 : (o.kind == 6) = false := by simpa using k6
        have q9 : (o.kind == 9) = false := by simpa using k9
        have q18 : (o.kind == 18) = false := by simpa using k18
        have q19 : (o.kind == 19) = false := by simpa using k19
        have q17 : (o.kind == 17) = false := by simpa using k17
        clear k1 k6 k9 k18 k19 k17
        go_wp2_with fail
        go_roundg (ops.length - (k + 1))
        case measure => omega
        case rel =>
          go_light
          have hk1 := HK.out
          exact HNX.out o HOE.out n _ _ M' HR.out (needStep_x n o hk1.1 hk1.2.1 hk1.2.2.1 hk1.2.2.2.1 hk1.2.2.2.2.1 hk1.2.2.2.2.2) (by rw [if_neg (by omega)]) HT'.out hcut.out.nq
    · obtain rfl : k = ops.length := by omega
      rw [List.take_length] at *
      have hgo := HGO.out
      rw [List.drop_length, needGo] at hgo
      rw [show rl.take ops.length = rl by rw [← HLEN.out, List.take_length]] at HN2
      have hne := HNE.out
      rw [needGo_set, ← hgo, HRD.out] at hne
      generalize maxOf rl = M at HN2 hne
      have HNF := Lib.hid hne
      clear hgo hne
      obtain ⟨⟨x0, x1, x2, x3, x4, x5, x6, x7⟩, f0, f1, f2, f3, f4, f5, f6, f7⟩ := need_cells HN2.out.st.need
      simp only at x0 x1 x2 x3 x4 x5 x6 x7
      obtain ⟨⟨b0, b1⟩, ⟨b2, b3⟩, ⟨b4, b5⟩, ⟨b6, b7⟩, ⟨b8, b9⟩, ⟨b10, b11⟩, ⟨b12, b13⟩⟩ := HSM.out
      obtain ⟨G, hG⟩ : ∃ G, garb2 ops = G := ⟨_, rfl⟩
      have hGb : 0 ≤ G ∧ G ≤ 2 := by rw [← hG]; unfold garb2; split <;> omega
      have HMN := Lib.hid (show N = { n with t0 := n.t0 + G, rounds := M } by
        rw [HNF.out, ← hG]; unfold garb2
        split
        · rfl
        · simp)
      rw [hG]
      clear hG
      have hn3 := NSt.set (m := { n with t0 := n.t0 + G, rounds := M }) HN2.out.st 3 (.int .i64 (n.t0 + G)) rfl
      have HN3 := Lib.hid hn3
      clear hn3
      go_wp2_with ((with_reducible show wpList _ _ _ (⟨_, Op.store _ (.tmp 2) _, _, _, _, _⟩ :: _) _ _); go_must (refine wpList_store_row rfl 26 _ _ rfl w.heap.size (MNeed.arr { n with t0 := n.t0 + G, rounds := M }) rfl rfl 26 need0.arr HN3.out.res info_need rfl (by simp [Value.oneCell', MNeed.arr]) ?_))
      exact bodyPost_ret (results_cell_row rfl _ _ w.heap.size 26 (MNeed.arr { n with t0 := n.t0 + G, rounds := M }) _ _ rfl (setRow_heap _ _ _ _ _ _ HN3.out.res) Tryz.underlying26 rfl info_need) rfl ⟨by rw [HMN.out], below_setRow HN3.out.below (Nat.le_refl _) _⟩
end Go.Proofs.YtjbhgimhcjcpmaaGreatDoor
