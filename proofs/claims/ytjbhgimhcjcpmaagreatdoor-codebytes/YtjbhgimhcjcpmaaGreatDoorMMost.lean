/-
  THE CONTRACT of plan.most.
-/
import Derived.Test.YtjbhgimhcjcpmaaGreatDoorMEqual
import Derived.Maps.OwnOps
import Derived.Maps.OwnSet
import Derived.Maps.Views
set_option linter.unusedSimpArgs false
set_option linter.unusedVariables false
namespace Go.Proofs.YtjbhgimhcjcpmaaGreatDoor
open Go.RowKit Go.Maps

theorem keyInt : Keyed Tryz.prog 3 := int_keyed Tryz.underlying3
theorem zeroInt (w : World) : (zeroValue 3).run Tryz.prog w = .ok (.int .i64 0) w := by kernel_rfl
theorem wfInt {x : Int} (h : -9223372036854775808 ≤ x ∧ x ≤ 9223372036854775807) : (Lit.int .i64 x).wf = true := WalkArith.wf_i64 h

/-- Block b is a map of n entries at most that says m (0 where there is no entry). -/
def MapIs (w : World) (b n : Nat) (m : Int → Int) : Prop :=
  ∃ D : DataW Unit, w.ownsMap Tryz.prog 3 (plainElem Tryz.prog 3) b n D ∧ ∀ r, D.atKey (.int .i64 r) (.lit (.int .i64 0)) = .lit (.int .i64 (m r))
theorem MapIs.made (w : World) : MapIs (w.alloc (.map #[] 0)) w.heap.size 0 (fun _ => 0) := ⟨_, World.ownsMap_made _ _ _ _, fun _ => rfl⟩
theorem MapIs.lt {w : World} {b n : Nat} {m : Int → Int} (h : MapIs w b n m) : b < w.heap.size := by obtain ⟨D, h1, _⟩ := h; exact h1.lt
theorem MapIs.kept {w w' : World} {b n : Nat} {m : Int → Int} {row : Option Nat} (h : MapIs w b n m) (hg : w.grownBy w' row) (hne : some b ≠ row) : MapIs w' b n m := by obtain ⟨D, h1, h2⟩ := h; exact ⟨D, h1.kept hg hne, h2⟩
theorem MapIs.drew {w : World} {b n : Nat} {m : Int → Int} (h : MapIs w b n m) : MapIs w.drew b n m := h
theorem MapIs.mono {w : World} {b n n' : Nat} {m : Int → Int} (h : MapIs w b n m) (hn : n ≤ n') : MapIs w b n' m := by obtain ⟨D, h1, h2⟩ := h; exact ⟨D, h1.mono hn, h2⟩
theorem MapIs.look {w : World} {b n : Nat} {m : Int → Int} (h : MapIs w b n m) (r : Int) (hr : -9223372036854775808 ≤ r ∧ r ≤ 9223372036854775807) :
    (Instr.lookup 153 (.map (some b)) (.int .i64 r) false).run Tryz.prog w = .ok (.int .i64 (m r)) w := by
  obtain ⟨D, h1, h2⟩ := h
  obtain ⟨c, hrun, hat, _⟩ := h1.lookup_int keyInt Tryz.underlying153 Tryz.underlying3 (zeroInt _) (keyOf_int_mk Tryz.underlying3 (wfInt hr))
  rw [h2 r] at hat
  simp only [DataW.lit.injEq, Lit.int.injEq, true_and] at hat
  rw [hrun, hat]
theorem MapIs.put {w : World} {b n : Nat} {m : Int → Int} (h : MapIs w b n m) (hn : n < 1000000) (r x : Int) (hr : -9223372036854775808 ≤ r ∧ r ≤ 9223372036854775807) (hx : -9223372036854775808 ≤ x ∧ x ≤ 9223372036854775807) :
    ∃ w', (Instr.mapUpdate 153 (.map (some b)) (.int .i64 r) (.int .i64 x)).run Tryz.prog w = .ok () w' ∧ MapIs w' b (n + 1) (upd m r x) ∧ w.grownBy w' (some b) := by
  obtain ⟨D, h1, h2⟩ := h
  obtain ⟨w', hrun, h3, h4⟩ := h1.update keyInt Tryz.underlying153 (by unfold maxLen; omega) (keyOf_int_mk Tryz.underlying3 (wfInt hr)) (plainElem_int Tryz.underlying3 (wfInt hx))
  refine ⟨w', hrun, ⟨_, h3, fun k => ?_⟩, h4⟩
  unfold upd
  by_cases hk : k = r
  · subst hk
    rw [if_pos rfl, atKey_put_same h1.isMap (by simp [WideAt.IsKeyLit])]
  · rw [if_neg hk, atKey_put_other (by simp; exact hk), h2]

theorem grown_of_below {w w' : World} (h : Below w.heap.size w w') : w.grownBy w' none := ⟨h.os, h.tape, h.output, h.size, fun k hk _ => h.block k hk⟩

/-- The state of most: the two maps. -/
structure MSt (w1 : World) (Bs b0 b1 n : Nat) (s : MostSt) (W : World) : Prop where
  said : W.heap[Bs]? = some (.cells #[.map (some b0), .map (some b1)] 154 (0, 0))
  map0 : MapIs W b0 n s.s0
  map1 : MapIs W b1 n s.s1
  below : Below w1.heap.size w1 W
  l0 : w1.heap.size ≤ Bs
  l1 : Bs < b0
  l2 : b0 < b1
theorem MSt.later {w1 : World} {Bs b0 b1 n : Nat} {s : MostSt} {W W' : World} (h : MSt w1 Bs b0 b1 n s W) (hb : Below W.heap.size W W') : MSt w1 Bs b0 b1 n s W' :=
  ⟨(hb.block _ (lt_of_block' h.said)).trans h.said, h.map0.kept (grown_of_below hb) (by simp), h.map1.kept (grown_of_below hb) (by simp), h.below.trans (hb.mono h.below.size), h.l0, h.l1, h.l2⟩
theorem MSt.drew {w1 : World} {Bs b0 b1 n : Nat} {s : MostSt} {W : World} (h : MSt w1 Bs b0 b1 n s W) : MSt w1 Bs b0 b1 n s W.drew := ⟨h.said, h.map0, h.map1, h.below.drew, h.l0, h.l1, h.l2⟩
theorem MSt.set0 {w1 : World} {Bs b0 b1 n : Nat} {s : MostSt} {W W' : World} (h : MSt w1 Bs b0 b1 n s W) {m : Int → Int} (hm : MapIs W' b0 (n + 1) m) (hg : W.grownBy W' (some b0)) : MSt w1 Bs b0 b1 (n + 1) { s with s0 := m } W' :=
  ⟨(hg.block _ (lt_of_block' h.said) (by have := h.l1; simp; omega)).trans h.said, hm, (h.map1.kept hg (by have := h.l2; simp; omega)).mono (by omega), h.below.grown hg h.below.size (fun j hj => by have := h.l0; have := h.l1; simp at hj; omega), h.l0, h.l1, h.l2⟩
theorem MSt.set1 {w1 : World} {Bs b0 b1 n : Nat} {s : MostSt} {W W' : World} (h : MSt w1 Bs b0 b1 n s W) {m : Int → Int} (hm : MapIs W' b1 (n + 1) m) (hg : W.grownBy W' (some b1)) : MSt w1 Bs b0 b1 (n + 1) { s with s1 := m } W' :=
  ⟨(hg.block _ (lt_of_block' h.said) (by have := h.l1; have := h.l2; simp; omega)).trans h.said, (h.map0.kept hg (by have := h.l2; simp; omega)).mono (by omega), hm, h.below.grown hg h.below.size (fun j hj => by have := h.l0; have := h.l1; have := h.l2; simp at hj; omega), h.l0, h.l1, h.l2⟩

theorem field_words (X : MNeed) (w : World) : (Instr.field 26 (.agg #[.int .i64 X.tri, .int .i64 X.bits, .int .i64 X.ots, .int .i64 X.t0, .int .i64 X.t1, .int .i64 X.rounds, .int .i64 X.w0, .int .i64 X.w1]) 5).run Tryz.prog w = .ok (.agg #[.int .i64 X.w0, .int .i64 X.w1]) w := by kernel_rfl
/-- An operation and its words in memory. -/
structure OpW (Bo Bn : Nat) (o : MOp) (x0 x1 : Int) (W : World) : Prop where
  op : W.heap[Bo]? = some (.cells o.arr 44 (0, 0))
  wd : W.heap[Bn]? = some (.cells #[.int .i64 x0, .int .i64 x1] 23 (0, 0))
theorem OpW.later {Bo Bn : Nat} {o : MOp} {x0 x1 : Int} {W W' : World} (h : OpW Bo Bn o x0 x1 W) (hb : Below W.heap.size W W') : OpW Bo Bn o x0 x1 W' := ⟨(hb.block _ (lt_of_block' h.op)).trans h.op, (hb.block _ (lt_of_block' h.wd)).trans h.wd⟩
theorem OpW.grown {Bo Bn b : Nat} {o : MOp} {x0 x1 : Int} {W W' : World} (h : OpW Bo Bn o x0 x1 W) (hg : W.grownBy W' (some b)) (h1 : b < Bo) (h2 : b < Bn) : OpW Bo Bn o x0 x1 W' :=
  ⟨(hg.block _ (lt_of_block' h.op) (by simp; omega)).trans h.op, (hg.block _ (lt_of_block' h.wd) (by simp; omega)).trans h.wd⟩
theorem OpW.drew {Bo Bn : Nat} {o : MOp} {x0 x1 : Int} {W : World} (h : OpW Bo Bn o x0 x1 W) : OpW Bo Bn o x0 x1 W.drew := ⟨h.op, h.wd⟩
/-- What a round reads. -/
theorem OpW.cells {Bo Bn : Nat} {o : MOp} {x0 x1 : Int} {W : World} (h : OpW Bo Bn o x0 x1 W) :
    (W.cell? ⟨Bo, 0, none⟩ = some (.int .i64 o.kind) ∧ W.cell? ⟨Bo, 1, none⟩ = some (.int .i64 o.a) ∧ W.cell? ⟨Bo, 2, none⟩ = some (.int .i64 o.b) ∧ W.cell? ⟨Bo, 3, none⟩ = some (.int .i64 o.k) ∧ W.cell? ⟨Bo, 4, none⟩ = some (.int .u64 o.c) ∧ W.cell? ⟨Bo, 5, none⟩ = some (.int .i64 o.party)) ∧
    W.cell? ⟨Bn, 0, none⟩ = some (.int .i64 x0) ∧ W.cell? ⟨Bn, 1, none⟩ = some (.int .i64 x1) := ⟨op_cells1 h.op, cell2 h.wd⟩
theorem MSt.cells {w1 : World} {Bs b0 b1 n : Nat} {s : MostSt} {W : World} (h : MSt w1 Bs b0 b1 n s W) : W.cell? ⟨Bs, 0, none⟩ = some (.map (some b0)) ∧ W.cell? ⟨Bs, 1, none⟩ = some (.map (some b1)) := cell2 h.said
theorem MSt.old {w1 : World} {Bs b0 b1 n : Nat} {s : MostSt} {W : World} (h : MSt w1 Bs b0 b1 n s W) {g k : Nat} {x : Value} (hg : g < w1.heap.size) (hx : w1.cell? ⟨g, k, none⟩ = some x) : W.cell? ⟨g, k, none⟩ = some x := (h.below.cell (p := ⟨g, k, none⟩) hg).trans hx

set_option maxHeartbeats 8000000 in
set_option maxRecDepth 100000 in
theorem most_any (v : Value) (ops : List MOp) (w : World) (h : mCheck ops 65536 65536 = true) (hv : Arr w.heap.size w 6 v ops.length (ocells ops)) (hl : ops.length ≤ 16384) (hc : ∀ o ∈ ops, o.c < 18446744073709551616) (hE : ErrT w) :
    Calls Tryz.prog 55 #[v] w (RetB (.int .i64 (mMost ops)) w) := by
  have hru := mRounds_upto ops
  have hrn := mRounds_len ops
  rw [if_pos h] at hrn
  obtain ⟨ao, cc, rfl, hcc, hm, hx, hy⟩ := hv.open
  have HV := Lib.hid hv
  have HE := Lib.hid hE
  have HC := Lib.hid hc
  have HH := Lib.hid h
  have HY := Lib.hid hy
  have HRU := Lib.hid hru
  obtain ⟨rl, hrl⟩ : ∃ rl, mRounds ops = rl := ⟨_, rfl⟩
  rw [hrl] at hrn
  have HRL := Lib.hid hrl
  have HRN := Lib.hid hrn
  have hmm := @run_makeMap Tryz.prog
  clear hv hE hc h hx hy hm hru hrn hrl
  go_enter Tryz.func55, Tryz.ntmps55
  go_wp2_with (go_at_call 54; go_must (refine (rounds_yes _ ops _ HH.out HV.out hl HC.out HE.out).mono ?_; rw [HRL.out]; rintro e w1 ⟨u, rfl, hown1, hb1⟩; obtain ⟨ao1, cc1, rfl, hcc1, hy1⟩ := own_open hown1; have HY1 := Lib.hid hy1; have HB1 := Lib.hid hb1; clear hb1 hown1 hy1))
  refine wp_loop_rounds 3 ?_
  rw [rounds_succ]
  go_wp2_with fail
  rw [rounds_succ]
  go_wp2_with fail
  rw [rounds_succ]
  go_wp2_with fail
  have HM0 := Lib.hid (show MSt w1 w1.heap.size (w1.heap.size + 1) (w1.heap.size + 1 + 1) 0 ⟨fun _ => 0, fun _ => 0, 0⟩ (((w1.alloc (.cells #[.map (some (w1.heap.size + 1)), .map (some (w1.heap.size + 1 + 1))] 154)).alloc (.map #[] 0)).alloc (.map #[] 0)) by
    have e1 : (w1.alloc (.cells #[.map (some (w1.heap.size + 1)), .map (some (w1.heap.size + 1 + 1))] 154)).heap.size = w1.heap.size + 1 := by rw [World.size_alloc]
    have e2 : ((w1.alloc (.cells #[.map (some (w1.heap.size + 1)), .map (some (w1.heap.size + 1 + 1))] 154)).alloc (.map #[] 0)).heap.size = w1.heap.size + 1 + 1 := by rw [World.size_alloc, e1]
    refine ⟨old1 _ (heap_alloc2_old _ _ _), ?_, ?_, below_alloc3 _ _ _ _, Nat.le_refl _, by omega, by omega⟩
    · have := MapIs.made (w1.alloc (.cells #[.map (some (w1.heap.size + 1)), .map (some (w1.heap.size + 1 + 1))] 154))
      rw [e1] at this
      exact this.kept (World.grownBy_alloc _ _ none) (by simp)
    · have := MapIs.made ((w1.alloc (.cells #[.map (some (w1.heap.size + 1)), .map (some (w1.heap.size + 1 + 1))] 154)).alloc (.map #[] 0))
      rw [e2] at this
      exact this)
  generalize w1.heap.size + 1 + 1 = b1 at HM0 ⊢
  generalize w1.heap.size + 1 = b0 at HM0 ⊢
  generalize hBs : w1.heap.size = Bs at HM0 ⊢
  have HBS := Lib.hid hBs
  clear hBs
  generalize ((w1.alloc (.cells #[.map (some b0), .map (some b1)] 154)).alloc (.map #[] 0)).alloc (.map #[] 0) = W0 at HM0 ⊢
  go_loopg [6, 23] ops.length (fun g x i wr => ∃ (k : Nat) (s : MostSt), k ≤ ops.length ∧ g = ops.length - k ∧ i = .int .i64 k ∧ x = .int .i64 s.out ∧ Hid (mostGo (ops.drop k) (rl.drop k) s = mostGo ops rl ⟨fun _ => 0, fun _ => 0, 0⟩) ∧ Hid (s.small (60000 * k : Nat)) ∧ Hid (MSt w1 Bs b0 b1 (2 * k) s wr))
  case atStart => exact ⟨0, _, Nat.zero_le _, rfl, rfl, rfl, rfl, by simp [Hid, MostSt.small], HM0.out⟩
  case round =>
    obtain ⟨k, s, hk, hg, rfl, rfl, HG, HSM, HM⟩ := hrel
    clear HM0
    by_cases hkl : k < ops.length
    · have hkr : k < rl.length := by have := HRN.out; omega
      have hbw := HB1.out.trans (HM.out.below.mono HB1.out.size)
      obtain ⟨b, off, rfl, hbl, hcells⟩ := HY.out (by omega)
      obtain ⟨c0, c1, c2, c3, c4, c5⟩ := op_cells hcells hbw hbl rfl k hkl
      obtain ⟨g1, rfl, hg1, hg2, hc1⟩ := HY1.out (by omega)
      have hcr1 : w1.cell? ⟨g1, k, none⟩ = some (.int .i64 rl[k]) := by rw [hc1 k (by omega), ints_get rl k hkr]
      have hru := HRU.out rl[k] (by rw [HRL.out]; exact List.getElem_mem _)
      have ho := HC.out ops[k] (List.getElem_mem _)
      have HD := Lib.hid (List.drop_eq_getElem_cons hkl)
      have HDR := Lib.hid (List.drop_eq_getElem_cons hkr)
      generalize ops[k] = o at c0 c1 c2 c3 c4 c5 HD ho
      generalize rl[k] = r at hcr1 hru HDR
      have haw := alone_words o
      have HAL := Lib.hid (mAlone_c o ho)
      have hsz := HM.out.map0.lt
      have hsz1 := HM.out.map1.lt
      have HBW := Lib.hid hbw
      obtain ⟨X, hX⟩ : ∃ X, mNeed (mAlone o) = X := ⟨_, rfl⟩
      rw [hX] at haw
      have HX := Lib.hid hX
      have hfd := field_words X
      clear hcells hc1 hbw hX
      go_upto_region 13 with (first | (go_at_call 91; go_must (refine (alone_any o _).mono ?_; unfold RetOps; rintro e w2 ⟨v2, rfl, hown2, hb2⟩; have HO2 := Lib.hid hown2; have HB2 := Lib.hid hb2; clear hown2 hb2 c0 c1 c2 c3 c4 c5)) | (go_at_call 34; go_must (refine (need_any v2 (mAlone o) _ (Arr.of_owns HO2.out) (by have := mAlone_len o; omega) HAL.out (HE.out.below (HBW.out.trans ((after1 HB2.out).2.1.mono HBW.out.size)))).mono ?_; unfold RetB; rw [HX.out]; rintro e w3 ⟨rfl, hb3⟩; have HB3 := Lib.hid hb3; clear hb3; unfold MNeed.arr)))
      have hMW := ((HM.out.later (after1 HB2.out).2.1).later HB3.out).later ((Below.refl _ _).alloc (Nat.le_refl _) (.cells #[.int .i64 X.w0, .int .i64 X.w1] 23))
      have hOW : OpW wr.heap.size w3.heap.size o X.w0 X.w1 (w3.alloc (.cells #[.int .i64 X.w0, .int .i64 X.w1] 23)) := ⟨old1 _ ((HB3.out.block _ (by have := (after1 HB2.out).2.2; omega)).trans (after1 HB2.out).1), heap_alloc_new _ _⟩
      have hbo : b1 < wr.heap.size := hsz1
      have hbn : wr.heap.size < w3.heap.size := by have := (after1 HB2.out).2.2; have := HB3.out.size; omega
      clear HO2 HB2 HB3 HM hfd hsz hsz1
      generalize wr.heap.size = Bo at hOW hbo hbn ⊢
      generalize w3.heap.size = Bn at hOW hbn ⊢
      generalize w3.alloc (.cells #[.int .i64 X.w0, .int .i64 X.w1] 23) = W at hMW hOW ⊢
      obtain ⟨hs0, hs1, ho0, ho1⟩ := HSM.out
      have hsr := hs0 r
      obtain ⟨rr, hrr⟩ : ∃ rr, mostRound1 o r = rr := ⟨_, rfl⟩
      have hrrb : -1 ≤ rr ∧ rr ≤ 32768 := by
        rw [← hrr, mostRound1]; split <;> omega
      have hsr1 := hs1 rr
      have hl0 := hMW.drew.map0.look r (by omega)
      obtain ⟨w4, hu4, hm4, hg4⟩ := hMW.drew.map0.put (by omega) r (s.s0 r + X.w0) (by omega) (by omega)
      have hM4 := hMW.drew.set0 hm4 hg4
      have hO4 := hOW.drew.grown hg4 (by have := hMW.l2; omega) (by have := hMW.l2; omega)
      obtain ⟨sc0, sc1⟩ := hMW.cells
      obtain ⟨⟨d0, d1, d2, d3, d4, d5⟩, e0, e1⟩ := hOW.cells
      obtain ⟨sd0, sd1⟩ := hM4.cells
      obtain ⟨⟨f0, f1, f2, f3, f4, f5⟩, g0, g1'⟩ := hO4.cells
      have hcr := hMW.old hg2 hcr1
      have HCR1 := Lib.hid hcr1
      have HM4 := Lib.hid hM4
      have HO4 := Lib.hid hO4
      have HMS := Lib.hid (show mostStep o r s = ⟨upd s.s0 r (s.s0 r + X.w0), upd s.s1 rr (s.s1 rr + X.w1), if mWantsW o then max (if mWantsW o then max s.out (s.s0 r + X.w0) else s.out) (s.s1 rr + X.w1) else (if mWantsW o then max s.out (s.s0 r + X.w0) else s.out)⟩ by
        simp only [mostStep, mostStep0, mostStep1, hrr, HX.out])
      have HRR := Lib.hid hrr
      clear hMW hOW hM4 hO4 hm4 hg4 hs0 hs1 hcr1 hrr
      have i0 : (0 : Int) ≤ k := by omega
      have i1 : (k : Int) < rl.length := by omega
      go_wp2_with fail
      refine wp_loop_rounds 3 ?_
      rw [rounds_succ]
      by_cases hww : mWantsW o = true
      · have HWW := Lib.hid hww
        clear hww
        by_cases h17 : o.kind = 17
        · have hrs : rr = r - 1 := by rw [← HRR.out, mostRound1, if_pos h17]
          subst hrs
          have k17 : (o.kind == 17) = true := by simpa using h17
          clear h17
          by_cases hlt0 : s.out < s.s0 r + X.w0
          · by_cases hlt1 : s.s0 r + X.w0 < s.s1 (r - 1) + X.w1
            · as_aux_lemma =>
                go_wp2_with fail
                go_region
                all_goals
                  go_wp2_with (go_at_call 92; go_must (refine (wantsW_any o _).mono ?_; unfold RetB; rw [HWW.out]; rintro e w5 ⟨rfl, hb5⟩; have hM5 := HM4.out.later hb5; have hO5 := HO4.out.later hb5; obtain ⟨p0, p1⟩ := hM5.cells; obtain ⟨⟨q0, q1, q2, q3, q4, q5⟩, q6, q7⟩ := hO5.cells; have hl5 := hM5.map0.look r (by omega); simp only [upd_same] at hl5; have hcr5 := hM5.old hg2 HCR1.out; have HM5 := Lib.hid hM5; have HO5 := Lib.hid hO5; clear hM5 hO5 hb5))
                  have hl6 := HM5.out.drew.map1.look (r - 1) (by omega)
                  obtain ⟨w6, hu6, hm6, hg6⟩ := HM5.out.drew.map1.put (by omega) (r - 1) (s.s1 (r - 1) + X.w1) (by omega) (by omega)
                  have HM6 := Lib.hid (HM5.out.drew.set1 hm6 hg6)
                  have hO6 := HO5.out.drew.grown hg6 (by omega) (by omega)
                  obtain ⟨⟨t0, t1, t2, t3, t4, t5⟩, t6, t7⟩ := hO6.cells
                  obtain ⟨sg0, sg1⟩ := HM6.out.cells
                  clear hm6 hg6 hO6
                  rw [rounds_succ]
                  go_wp2_with fail
                  go_region
                  all_goals
                    go_wp2_with (go_at_call 92; go_must (refine (wantsW_any o _).mono ?_; unfold RetB; rw [HWW.out]; rintro e w7 ⟨rfl, hb7⟩; have hM7 := HM6.out.later hb7; obtain ⟨p8, p9⟩ := hM7.cells; have hl7 := hM7.map1.look (r - 1) (by omega); simp only [upd_same] at hl7; have HM7 := Lib.hid hM7; clear hM7 hb7))
                    rw [rounds_succ]
                    go_wp2_with fail
                    go_roundg (ops.length - (k + 1))
                    case measure => omega
                    case rel =>
                      go_light
                      refine ⟨k + 1, mostStep o r s, by omega, rfl, by go_num, congrArg (Value.int .i64) (by rw [HMS.out, HWW.out]; simp only [if_true]; omega), ?_, ?_, ?_⟩
                      · unfold Hid; rw [← HG.out, HD.out, HDR.out, mostGo]
                      · have := mostStep_small HSM.out o r
                        rw [show ((60000 * (k + 1) : Nat) : Int) = ((60000 * k : Nat) : Int) + 60000 by omega]; exact this
                      · have h7 := HM7.out
                        rw [HMS.out]
                        exact ⟨h7.said, h7.map0, h7.map1, h7.below, h7.l0, h7.l1, h7.l2⟩
            · as_aux_lemma =>
                go_wp2_with fail
                go_region
                all_goals
                  go_wp2_with (go_at_call 92; go_must (refine (wantsW_any o _).mono ?_; unfold RetB; rw [HWW.out]; rintro e w5 ⟨rfl, hb5⟩; have hM5 := HM4.out.later hb5; have hO5 := HO4.out.later hb5; obtain ⟨p0, p1⟩ := hM5.cells; obtain ⟨⟨q0, q1, q2, q3, q4, q5⟩, q6, q7⟩ := hO5.cells; have hl5 := hM5.map0.look r (by omega); simp only [upd_same] at hl5; have hcr5 := hM5.old hg2 HCR1.out; have HM5 := Lib.hid hM5; have HO5 := Lib.hid hO5; clear hM5 hO5 hb5))
                  have hl6 := HM5.out.drew.map1.look (r - 1) (by omega)
                  obtain ⟨w6, hu6, hm6, hg6⟩ := HM5.out.drew.map1.put (by omega) (r - 1) (s.s1 (r - 1) + X.w1) (by omega) (by omega)
                  have HM6 := Lib.hid (HM5.out.drew.set1 hm6 hg6)
                  have hO6 := HO5.out.drew.grown hg6 (by omega) (by omega)
                  obtain ⟨⟨t0, t1, t2, t3, t4, t5⟩, t6, t7⟩ := hO6.cells
                  obtain ⟨sg0, sg1⟩ := HM6.out.cells
                  clear hm6 hg6 hO6
                  rw [rounds_succ]
                  go_wp2_with fail
                  go_region
                  all_goals
                    go_wp2_with (go_at_call 92; go_must (refine (wantsW_any o _).mono ?_; unfold RetB; rw [HWW.out]; rintro e w7 ⟨rfl, hb7⟩; have hM7 := HM6.out.later hb7; obtain ⟨p8, p9⟩ := hM7.cells; have hl7 := hM7.map1.look (r - 1) (by omega); simp only [upd_same] at hl7; have HM7 := Lib.hid hM7; clear hM7 hb7))
                    rw [rounds_succ]
                    go_wp2_with fail
                    go_roundg (ops.length - (k + 1))
                    case measure => omega
                    case rel =>
                      go_light
                      refine ⟨k + 1, mostStep o r s, by omega, rfl, by go_num, congrArg (Value.int .i64) (by rw [HMS.out, HWW.out]; simp only [if_true]; omega), ?_, ?_, ?_⟩
                      · unfold Hid; rw [← HG.out, HD.out, HDR.out, mostGo]
                      · have := mostStep_small HSM.out o r
                        rw [show ((60000 * (k + 1) : Nat) : Int) = ((60000 * k : Nat) : Int) + 60000 by omega]; exact this
                      · have h7 := HM7.out
                        rw [HMS.out]
                        exact ⟨h7.said, h7.map0, h7.map1, h7.below, h7.l0, h7.l1, h7.l2⟩
          · by_cases hlt1 : s.out < s.s1 (r - 1) + X.w1
            · as_aux_lemma =>
                go_wp2_with fail
                go_region
                all_goals
                  go_wp2_with (go_at_call 92; go_must (refine (wantsW_any o _).mono ?_; unfold RetB; rw [HWW.out]; rintro e w5 ⟨rfl, hb5⟩; have hM5 := HM4.out.later hb5; have hO5 := HO4.out.later hb5; obtain ⟨p0, p1⟩ := hM5.cells; obtain ⟨⟨q0, q1, q2, q3, q4, q5⟩, q6, q7⟩ := hO5.cells; have hl5 := hM5.map0.look r (by omega); simp only [upd_same] at hl5; have hcr5 := hM5.old hg2 HCR1.out; have HM5 := Lib.hid hM5; have HO5 := Lib.hid hO5; clear hM5 hO5 hb5))
                  have hl6 := HM5.out.drew.map1.look (r - 1) (by omega)
                  obtain ⟨w6, hu6, hm6, hg6⟩ := HM5.out.drew.map1.put (by omega) (r - 1) (s.s1 (r - 1) + X.w1) (by omega) (by omega)
                  have HM6 := Lib.hid (HM5.out.drew.set1 hm6 hg6)
                  have hO6 := HO5.out.drew.grown hg6 (by omega) (by omega)
                  obtain ⟨⟨t0, t1, t2, t3, t4, t5⟩, t6, t7⟩ := hO6.cells
                  obtain ⟨sg0, sg1⟩ := HM6.out.cells
                  clear hm6 hg6 hO6
                  rw [rounds_succ]
                  go_wp2_with fail
                  go_region
                  all_goals
                    go_wp2_with (go_at_call 92; go_must (refine (wantsW_any o _).mono ?_; unfold RetB; rw [HWW.out]; rintro e w7 ⟨rfl, hb7⟩; have hM7 := HM6.out.later hb7; obtain ⟨p8, p9⟩ := hM7.cells; have hl7 := hM7.map1.look (r - 1) (by omega); simp only [upd_same] at hl7; have HM7 := Lib.hid hM7; clear hM7 hb7))
                    rw [rounds_succ]
                    go_wp2_with fail
                    go_roundg (ops.length - (k + 1))
                    case measure => omega
                    case rel =>
                      go_light
                      refine ⟨k + 1, mostStep o r s, by omega, rfl, by go_num, congrArg (Value.int .i64) (by rw [HMS.out, HWW.out]; simp only [if_true]; omega), ?_, ?_, ?_⟩
                      · unfold Hid; rw [← HG.out, HD.out, HDR.out, mostGo]
                      · have := mostStep_small HSM.out o r
                        rw [show ((60000 * (k + 1) : Nat) : Int) = ((60000 * k : Nat) : Int) + 60000 by omega]; exact this
                      · have h7 := HM7.out
                        rw [HMS.out]
                        exact ⟨h7.said, h7.map0, h7.map1, h7.below, h7.l0, h7.l1, h7.l2⟩
            · as_aux_lemma =>
                go_wp2_with fail
                go_region
                all_goals
                  go_wp2_with (go_at_call 92; go_must (refine (wantsW_any o _).mono ?_; unfold RetB; rw [HWW.out]; rintro e w5 ⟨rfl, hb5⟩; have hM5 := HM4.out.later hb5; have hO5 := HO4.out.later hb5; obtain ⟨p0, p1⟩ := hM5.cells; obtain ⟨⟨q0, q1, q2, q3, q4, q5⟩, q6, q7⟩ := hO5.cells; have hl5 := hM5.map0.look r (by omega); simp only [upd_same] at hl5; have hcr5 := hM5.old hg2 HCR1.out; have HM5 := Lib.hid hM5; have HO5 := Lib.hid hO5; clear hM5 hO5 hb5))
                  have hl6 := HM5.out.drew.map1.look (r - 1) (by omega)
                  obtain ⟨w6, hu6, hm6, hg6⟩ := HM5.out.drew.map1.put (by omega) (r - 1) (s.s1 (r - 1) + X.w1) (by omega) (by omega)
                  have HM6 := Lib.hid (HM5.out.drew.set1 hm6 hg6)
                  have hO6 := HO5.out.drew.grown hg6 (by omega) (by omega)
                  obtain ⟨⟨t0, t1, t2, t3, t4, t5⟩, t6, t7⟩ := hO6.cells
                  obtain ⟨sg0, sg1⟩ := HM6.out.cells
                  clear hm6 hg6 hO6
                  rw [rounds_succ]
                  go_wp2_with fail
                  go_region
                  all_goals
                    go_wp2_with (go_at_call 92; go_must (refine (wantsW_any o _).mono ?_; unfold RetB; rw [HWW.out]; rintro e w7 ⟨rfl, hb7⟩; have hM7 := HM6.out.later hb7; obtain ⟨p8, p9⟩ := hM7.cells; have hl7 := hM7.map1.look (r - 1) (by omega); simp only [upd_same] at hl7; have HM7 := Lib.hid hM7; clear hM7 hb7))
                    rw [rounds_succ]
                    go_wp2_with fail
                    go_roundg (ops.length - (k + 1))
                    case measure => omega
                    case rel =>
                      go_light
                      refine ⟨k + 1, mostStep o r s, by omega, rfl, by go_num, congrArg (Value.int .i64) (by rw [HMS.out, HWW.out]; simp only [if_true]; omega), ?_, ?_, ?_⟩
                      · unfold Hid; rw [← HG.out, HD.out, HDR.out, mostGo]
                      · have := mostStep_small HSM.out o r
                        rw [show ((60000 * (k + 1) : Nat) : Int) = ((60000 * k : Nat) : Int) + 60000 by omega]; exact this
                      · have h7 := HM7.out
                        rw [HMS.out]
                        exact ⟨h7.said, h7.map0, h7.map1, h7.below, h7.l0, h7.l1, h7.l2⟩
        · have hrs : rr = r := by rw [← HRR.out, mostRound1, if_neg h17]
          subst hrs
          have k17 : (o.kind == 17) = false := by simpa using h17
          clear h17
          by_cases hlt0 : s.out < s.s0 rr + X.w0
          · by_cases hlt1 : s.s0 rr + X.w0 < s.s1 rr + X.w1
            · as_aux_lemma =>
                go_wp2_with fail
                go_region
                all_goals
                  go_wp2_with (go_at_call 92; go_must (refine (wantsW_any o _).mono ?_; unfold RetB; rw [HWW.out]; rintro e w5 ⟨rfl, hb5⟩; have hM5 := HM4.out.later hb5; have hO5 := HO4.out.later hb5; obtain ⟨p0, p1⟩ := hM5.cells; obtain ⟨⟨q0, q1, q2, q3, q4, q5⟩, q6, q7⟩ := hO5.cells; have hl5 := hM5.map0.look rr (by omega); simp only [upd_same] at hl5; have hcr5 := hM5.old hg2 HCR1.out; have HM5 := Lib.hid hM5; have HO5 := Lib.hid hO5; clear hM5 hO5 hb5))
                  have hl6 := HM5.out.drew.map1.look rr (by omega)
                  obtain ⟨w6, hu6, hm6, hg6⟩ := HM5.out.drew.map1.put (by omega) rr (s.s1 rr + X.w1) (by omega) (by omega)
                  have HM6 := Lib.hid (HM5.out.drew.set1 hm6 hg6)
                  have hO6 := HO5.out.drew.grown hg6 (by omega) (by omega)
                  obtain ⟨⟨t0, t1, t2, t3, t4, t5⟩, t6, t7⟩ := hO6.cells
                  obtain ⟨sg0, sg1⟩ := HM6.out.cells
                  clear hm6 hg6 hO6
                  rw [rounds_succ]
                  go_wp2_with fail
                  go_region
                  all_goals
                    go_wp2_with (go_at_call 92; go_must (refine (wantsW_any o _).mono ?_; unfold RetB; rw [HWW.out]; rintro e w7 ⟨rfl, hb7⟩; have hM7 := HM6.out.later hb7; obtain ⟨p8, p9⟩ := hM7.cells; have hl7 := hM7.map1.look rr (by omega); simp only [upd_same] at hl7; have HM7 := Lib.hid hM7; clear hM7 hb7))
                    rw [rounds_succ]
                    go_wp2_with fail
                    go_roundg (ops.length - (k + 1))
                    case measure => omega
                    case rel =>
                      go_light
                      refine ⟨k + 1, mostStep o rr s, by omega, rfl, by go_num, congrArg (Value.int .i64) (by rw [HMS.out, HWW.out]; simp only [if_true]; omega), ?_, ?_, ?_⟩
                      · unfold Hid; rw [← HG.out, HD.out, HDR.out, mostGo]
                      · have := mostStep_small HSM.out o rr
                        rw [show ((60000 * (k + 1) : Nat) : Int) = ((60000 * k : Nat) : Int) + 60000 by omega]; exact this
                      · have h7 := HM7.out
                        rw [HMS.out]
                        exact ⟨h7.said, h7.map0, h7.map1, h7.below, h7.l0, h7.l1, h7.l2⟩
            · as_aux_lemma =>
                go_wp2_with fail
                go_region
                all_goals
                  go_wp2_with (go_at_call 92; go_must (refine (wantsW_any o _).mono ?_; unfold RetB; rw [HWW.out]; rintro e w5 ⟨rfl, hb5⟩; have hM5 := HM4.out.later hb5; have hO5 := HO4.out.later hb5; obtain ⟨p0, p1⟩ := hM5.cells; obtain ⟨⟨q0, q1, q2, q3, q4, q5⟩, q6, q7⟩ := hO5.cells; have hl5 := hM5.map0.look rr (by omega); simp only [upd_same] at hl5; have hcr5 := hM5.old hg2 HCR1.out; have HM5 := Lib.hid hM5; have HO5 := Lib.hid hO5; clear hM5 hO5 hb5))
                  have hl6 := HM5.out.drew.map1.look rr (by omega)
                  obtain ⟨w6, hu6, hm6, hg6⟩ := HM5.out.drew.map1.put (by omega) rr (s.s1 rr + X.w1) (by omega) (by omega)
                  have HM6 := Lib.hid (HM5.out.drew.set1 hm6 hg6)
                  have hO6 := HO5.out.drew.grown hg6 (by omega) (by omega)
                  obtain ⟨⟨t0, t1, t2, t3, t4, t5⟩, t6, t7⟩ := hO6.cells
                  obtain ⟨sg0, sg1⟩ := HM6.out.cells
                  clear hm6 hg6 hO6
                  rw [rounds_succ]
                  go_wp2_with fail
                  go_region
                  all_goals
                    go_wp2_with (go_at_call 92; go_must (refine (wantsW_any o _).mono ?_; unfold RetB; rw [HWW.out]; rintro e w7 ⟨rfl, hb7⟩; have hM7 := HM6.out.later hb7; obtain ⟨p8, p9⟩ := hM7.cells; have hl7 := hM7.map1.look rr (by omega); simp only [upd_same] at hl7; have HM7 := Lib.hid hM7; clear hM7 hb7))
                    rw [rounds_succ]
                    go_wp2_with fail
                    go_roundg (ops.length - (k + 1))
                    case measure => omega
                    case rel =>
                      go_light
                      refine ⟨k + 1, mostStep o rr s, by omega, rfl, by go_num, congrArg (Value.int .i64) (by rw [HMS.out, HWW.out]; simp only [if_true]; omega), ?_, ?_, ?_⟩
                      · unfold Hid; rw [← HG.out, HD.out, HDR.out, mostGo]
                      · have := mostStep_small HSM.out o rr
                        rw [show ((60000 * (k + 1) : Nat) : Int) = ((60000 * k : Nat) : Int) + 60000 by omega]; exact this
                      · have h7 := HM7.out
                        rw [HMS.out]
                        exact ⟨h7.said, h7.map0, h7.map1, h7.below, h7.l0, h7.l1, h7.l2⟩
          · by_cases hlt1 : s.out < s.s1 rr + X.w1
            · as_aux_lemma =>
                go_wp2_with fail
                go_region
                all_goals
                  go_wp2_with (go_at_call 92; go_must (refine (wantsW_any o _).mono ?_; unfold RetB; rw [HWW.out]; rintro e w5 ⟨rfl, hb5⟩; have hM5 := HM4.out.later hb5; have hO5 := HO4.out.later hb5; obtain ⟨p0, p1⟩ := hM5.cells; obtain ⟨⟨q0, q1, q2, q3, q4, q5⟩, q6, q7⟩ := hO5.cells; have hl5 := hM5.map0.look rr (by omega); simp only [upd_same] at hl5; have hcr5 := hM5.old hg2 HCR1.out; have HM5 := Lib.hid hM5; have HO5 := Lib.hid hO5; clear hM5 hO5 hb5))
                  have hl6 := HM5.out.drew.map1.look rr (by omega)
                  obtain ⟨w6, hu6, hm6, hg6⟩ := HM5.out.drew.map1.put (by omega) rr (s.s1 rr + X.w1) (by omega) (by omega)
                  have HM6 := Lib.hid (HM5.out.drew.set1 hm6 hg6)
                  have hO6 := HO5.out.drew.grown hg6 (by omega) (by omega)
                  obtain ⟨⟨t0, t1, t2, t3, t4, t5⟩, t6, t7⟩ := hO6.cells
                  obtain ⟨sg0, sg1⟩ := HM6.out.cells
                  clear hm6 hg6 hO6
                  rw [rounds_succ]
                  go_wp2_with fail
                  go_region
                  all_goals
                    go_wp2_with (go_at_call 92; go_must (refine (wantsW_any o _).mono ?_; unfold RetB; rw [HWW.out]; rintro e w7 ⟨rfl, hb7⟩; have hM7 := HM6.out.later hb7; obtain ⟨p8, p9⟩ := hM7.cells; have hl7 := hM7.map1.look rr (by omega); simp only [upd_same] at hl7; have HM7 := Lib.hid hM7; clear hM7 hb7))
                    rw [rounds_succ]
                    go_wp2_with fail
                    go_roundg (ops.length - (k + 1))
                    case measure => omega
                    case rel =>
                      go_light
                      refine ⟨k + 1, mostStep o rr s, by omega, rfl, by go_num, congrArg (Value.int .i64) (by rw [HMS.out, HWW.out]; simp only [if_true]; omega), ?_, ?_, ?_⟩
                      · unfold Hid; rw [← HG.out, HD.out, HDR.out, mostGo]
                      · have := mostStep_small HSM.out o rr
                        rw [show ((60000 * (k + 1) : Nat) : Int) = ((60000 * k : Nat) : Int) + 60000 by omega]; exact this
                      · have h7 := HM7.out
                        rw [HMS.out]
                        exact ⟨h7.said, h7.map0, h7.map1, h7.below, h7.l0, h7.l1, h7.l2⟩
            · as_aux_lemma =>
                go_wp2_with fail
                go_region
                all_goals
                  go_wp2_with (go_at_call 92; go_must (refine (wantsW_any o _).mono ?_; unfold RetB; rw [HWW.out]; rintro e w5 ⟨rfl, hb5⟩; have hM5 := HM4.out.later hb5; have hO5 := HO4.out.later hb5; obtain ⟨p0, p1⟩ := hM5.cells; obtain ⟨⟨q0, q1, q2, q3, q4, q5⟩, q6, q7⟩ := hO5.cells; have hl5 := hM5.map0.look rr (by omega); simp only [upd_same] at hl5; have hcr5 := hM5.old hg2 HCR1.out; have HM5 := Lib.hid hM5; have HO5 := Lib.hid hO5; clear hM5 hO5 hb5))
                  have hl6 := HM5.out.drew.map1.look rr (by omega)
                  obtain ⟨w6, hu6, hm6, hg6⟩ := HM5.out.drew.map1.put (by omega) rr (s.s1 rr + X.w1) (by omega) (by omega)
                  have HM6 := Lib.hid (HM5.out.drew.set1 hm6 hg6)
                  have hO6 := HO5.out.drew.grown hg6 (by omega) (by omega)
                  obtain ⟨⟨t0, t1, t2, t3, t4, t5⟩, t6, t7⟩ := hO6.cells
                  obtain ⟨sg0, sg1⟩ := HM6.out.cells
                  clear hm6 hg6 hO6
                  rw [rounds_succ]
                  go_wp2_with fail
                  go_region
                  all_goals
                    go_wp2_with (go_at_call 92; go_must (refine (wantsW_any o _).mono ?_; unfold RetB; rw [HWW.out]; rintro e w7 ⟨rfl, hb7⟩; have hM7 := HM6.out.later hb7; obtain ⟨p8, p9⟩ := hM7.cells; have hl7 := hM7.map1.look rr (by omega); simp only [upd_same] at hl7; have HM7 := Lib.hid hM7; clear hM7 hb7))
                    rw [rounds_succ]
                    go_wp2_with fail
                    go_roundg (ops.length - (k + 1))
                    case measure => omega
                    case rel =>
                      go_light
                      refine ⟨k + 1, mostStep o rr s, by omega, rfl, by go_num, congrArg (Value.int .i64) (by rw [HMS.out, HWW.out]; simp only [if_true]; omega), ?_, ?_, ?_⟩
                      · unfold Hid; rw [← HG.out, HD.out, HDR.out, mostGo]
                      · have := mostStep_small HSM.out o rr
                        rw [show ((60000 * (k + 1) : Nat) : Int) = ((60000 * k : Nat) : Int) + 60000 by omega]; exact this
                      · have h7 := HM7.out
                        rw [HMS.out]
                        exact ⟨h7.said, h7.map0, h7.map1, h7.below, h7.l0, h7.l1, h7.l2⟩
      · have hww' : mWantsW o = false := by simpa using hww
        have HWW := Lib.hid hww'
        have h17 : ¬ o.kind = 17 := by
          intro h; rw [mWantsW] at hww'; simp [h] at hww'
        have hrs : rr = r := by rw [← HRR.out, mostRound1, if_neg h17]
        subst hrs
        have k17 : (o.kind == 17) = false := by simpa using h17
        clear h17 hww hww'
        as_aux_lemma =>
          go_wp2_with fail
          go_region
          all_goals
            go_wp2_with (go_at_call 92; go_must (refine (wantsW_any o _).mono ?_; unfold RetB; rw [HWW.out]; rintro e w5 ⟨rfl, hb5⟩; have hM5 := HM4.out.later hb5; have hO5 := HO4.out.later hb5; obtain ⟨p0, p1⟩ := hM5.cells; obtain ⟨⟨q0, q1, q2, q3, q4, q5⟩, q6, q7⟩ := hO5.cells; have hl5 := hM5.map0.look rr (by omega); simp only [upd_same] at hl5; have hcr5 := hM5.old hg2 HCR1.out; have HM5 := Lib.hid hM5; have HO5 := Lib.hid hO5; clear hM5 hO5 hb5))
            have hl6 := HM5.out.drew.map1.look rr (by omega)
            obtain ⟨w6, hu6, hm6, hg6⟩ := HM5.out.drew.map1.put (by omega) rr (s.s1 rr + X.w1) (by omega) (by omega)
            have HM6 := Lib.hid (HM5.out.drew.set1 hm6 hg6)
            have hO6 := HO5.out.drew.grown hg6 (by omega) (by omega)
            obtain ⟨⟨t0, t1, t2, t3, t4, t5⟩, t6, t7⟩ := hO6.cells
            obtain ⟨sg0, sg1⟩ := HM6.out.cells
            clear hm6 hg6 hO6
            rw [rounds_succ]
            go_wp2_with fail
            go_region
            all_goals
              go_wp2_with (go_at_call 92; go_must (refine (wantsW_any o _).mono ?_; unfold RetB; rw [HWW.out]; rintro e w7 ⟨rfl, hb7⟩; have hM7 := HM6.out.later hb7; obtain ⟨p8, p9⟩ := hM7.cells; have hl7 := hM7.map1.look rr (by omega); simp only [upd_same] at hl7; have HM7 := Lib.hid hM7; clear hM7 hb7))
              rw [rounds_succ]
              go_wp2_with fail
              go_roundg (ops.length - (k + 1))
              case measure => omega
              case rel =>
                go_light
                refine ⟨k + 1, mostStep o rr s, by omega, rfl, by go_num, congrArg (Value.int .i64) (by rw [HMS.out, HWW.out]; simp only [if_false, Bool.false_eq_true]), ?_, ?_, ?_⟩
                · unfold Hid; rw [← HG.out, HD.out, HDR.out, mostGo]
                · have := mostStep_small HSM.out o rr
                  rw [show ((60000 * (k + 1) : Nat) : Int) = ((60000 * k : Nat) : Int) + 60000 by omega]; exact this
                · have h7 := HM7.out
                  rw [HMS.out]
                  exact ⟨h7.said, h7.map0, h7.map1, h7.below, h7.l0, h7.l1, h7.l2⟩
    · obtain rfl : k = ops.length := by omega
      have hg2 := HG.out
      rw [List.drop_length, mostGo] at hg2
      have HGG := Lib.hid (show s.out = mMost ops by rw [mMost, HRL.out, ← hg2])
      have HBW := Lib.hid (HB1.out.trans (HM.out.below.mono HB1.out.size))
      clear hg2
      go_wp2_with fail
      go_ret
      exact ⟨ret_int HGG.out, HBW.out⟩
end Go.Proofs.YtjbhgimhcjcpmaaGreatDoor
