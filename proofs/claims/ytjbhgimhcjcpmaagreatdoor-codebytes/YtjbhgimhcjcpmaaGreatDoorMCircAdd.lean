/-
  THE CONTRACT of a maker's method add.
-/
import Derived.Test.YtjbhgimhcjcpmaaGreatDoorMGate
set_option linter.unusedSimpArgs false
set_option linter.unusedVariables false
namespace Go.Proofs.YtjbhgimhcjcpmaaGreatDoor
open Go.RowKit

/-- A sum's wires behind the places 0 .. n, the wire that is carried on, the gates. -/
def addTo (N : Nat) (a b : List Int) (gs : List Gate) : Nat → List Int × Int × List Gate
  | 0 => let p := gt N 1 (a.getD 0 0) (b.getD 0 0) gs; let c := gt N 2 (a.getD 0 0) (b.getD 0 0) p.2; ([p.1], c.1, c.2)
  | n + 1 => let s := addTo N a b gs n; let p := gt N 1 (a.getD (n + 1) 0) (b.getD (n + 1) 0) s.2.2; let q := gt N 1 p.1 s.2.1 p.2
    let c := if n + 1 < 63 then mCarry N (a.getD (n + 1) 0) (b.getD (n + 1) 0) s.2.1 q.2 else (s.2.1, q.2)
    (s.1 ++ [q.1], c.1, c.2)
theorem addTo_len (N : Nat) (a b : List Int) (gs : List Gate) (n : Nat) : (addTo N a b gs n).1.length = n + 1 ∧ (addTo N a b gs n).2.2.length ≤ gs.length + 2 + 6 * n := by
  induction n with
  | zero => simp [addTo, gt]
  | succ n ih => simp only [addTo]; split <;> simp [gt_len, mCarry_len, ih] <;> omega

set_option maxHeartbeats 2000000 in
set_option maxRecDepth 100000 in
theorem add_any (base bm N : Nat) (gs : List Gate) (a b : List Int) (w : World) (ha : a.length = 64) (hb : b.length = 64) (h : MkAt base bm w N gs) (hN : N ≤ 1000) (hg : gs.length ≤ 80000) :
    Calls Tryz.prog 100 #[.pointer (some ⟨bm, 0, none⟩), .agg (ints a).toArray, .agg (ints b).toArray] w fun e w' =>
      e = .returned (.agg (ints (addTo N a b gs 63).1).toArray) ∧ MkAt base bm w' N (addTo N a b gs 63).2.2 ∧ MkFr base bm w w' := by
  have ha0 : (ints a)[0]? = some (.int .i64 a[0]) := ints_get a 0 (by omega)
  have hb0 : (ints b)[0]? = some (.int .i64 b[0]) := ints_get b 0 (by omega)
  go_enter Tryz.func100, Tryz.ntmps100
  go_wp2_with fail
  have H := four w (.cells (ints a).toArray 171) (.cells (ints b).toArray 171) (.cells (ints (pad [])).toArray 171) (.cells (ints (pad [])).toArray 171)
  have hbm : bm < w.heap.size := h.ne
  refine (gt_any base bm N gs 1 a[0] b[0] _ (h.below H.2.2.2.2) hN (by omega)).mono ?_
  rintro e w1 ⟨rfl, h1, f1⟩
  have f1' := (MkFr.of_below (base := base) (bm := bm) H.2.2.2.2).trans f1
  have hs1 := f1.size
  simp only [World.size_alloc] at hs1
  have r1 := f1.row H.1 (by omega)
  have r2 := f1.row H.2.1 (by omega)
  have r3 := f1.row H.2.2.1 (by omega)
  have r4 := f1.row H.2.2.2.1 (by omega)
  clear H f1
  have c1 := row_cell r1 (k := 0) (by omega)
  have c2 := row_cell r2 (k := 0) (by omega)
  have c4 := pad_cell (r := []) (k := 0) r4 rfl (by decide)
  have d4 := frozen_of_row w1 (w.heap.size + 1 + 1 + 1) 0 _ _ r4
  have c1s : ∀ v, (w1.setCell ⟨w.heap.size + 1 + 1 + 1, 0, none⟩ v).cell? ⟨w.heap.size, 0, none⟩ = some (.int .i64 a[0]) := fun v => (cell_set_other (by omega) v).trans c1
  have c2s : ∀ v, (w1.setCell ⟨w.heap.size + 1 + 1 + 1, 0, none⟩ v).cell? ⟨w.heap.size + 1, 0, none⟩ = some (.int .i64 b[0]) := fun v => (cell_set_other (by omega) v).trans c2
  have R1 := Lib.hid r1
  have R2 := Lib.hid r2
  have R3 := Lib.hid r3
  have R4 := Lib.hid r4
  clear r1 r2 r3 r4 ha0 hb0
  go_wp2_with fail
  refine (gt_any base bm N _ 2 a[0] b[0] _ (h1.setCell R4.out _ _) hN (by rw [gt_len]; omega)).mono ?_
  rintro e w2 ⟨rfl, h2, f2⟩
  have q4 := f2.row (store_pad (r := []) R4.out 0 rfl (by decide) _) (by omega)
  go_wp2_with fail
  have q1 : w2.heap[w.heap.size]? = some (.cells (ints a).toArray 171 (0, 0)) := f2.row ((heap_setCell_other' (by omega) _).trans R1.out) (by omega)
  have q2 : w2.heap[w.heap.size + 1]? = some (.cells (ints b).toArray 171 (0, 0)) := f2.row ((heap_setCell_other' (by omega) _).trans R2.out) (by omega)
  have q3 : w2.heap[w.heap.size + 1 + 1]? = some (.cells (ints (pad [])).toArray 171 (0, 0)) := f2.row ((heap_setCell_other' (by omega) _).trans R3.out) (by omega)
  have fr2 := (f1'.setCell (b := w.heap.size + 1 + 1 + 1) (by omega) 0 (.int .i64 (gt N 1 a[0] b[0] gs).1)).trans f2
  clear c1s c2s R1 R2 R3 R4 c4 d4
  have hx0 : addTo N a b gs 0 = ([(gt N 1 a[0] b[0] gs).1], (gt N 2 a[0] b[0] (gt N 1 a[0] b[0] gs).2).1, (gt N 2 a[0] b[0] (gt N 1 a[0] b[0] gs).2).2) := by
    simp [addTo, List.getD, ha, hb]
  have HX0 := Lib.hid hx0
  clear hx0
  go_loopw [8, 9] (fun c x wr => ∃ k j : Nat, Hid (j = k + 1) ∧ j ≤ 64 ∧ x = .int .i64 j ∧ c = .int .i64 (addTo N a b gs k).2.1 ∧ MkAt base bm wr N (addTo N a b gs k).2.2 ∧ wr.heap[w.heap.size]? = some (.cells (ints a).toArray 171 (0, 0)) ∧ wr.heap[w.heap.size + 1]? = some (.cells (ints b).toArray 171 (0, 0)) ∧
      wr.heap[w.heap.size + 1 + 1]? = some (.cells (ints (pad [])).toArray 171 (0, 0)) ∧ wr.heap[w.heap.size + 1 + 1 + 1]? = some (.cells (ints (pad (addTo N a b gs k).1)).toArray 171 (0, 0)) ∧ MkFr base bm w wr) (fun _ x _ => 64 - (intOf x).toNat)
  case atStart =>
    exact ⟨0, 1, rfl, by omega, rfl, by rw [HX0.out], by rw [HX0.out]; exact h2, q1, q2, q3, by rw [HX0.out]; exact q4, fr2⟩
  case round =>
    obtain ⟨k, j, HJ, hk, rfl, rfl, hm, hA, hB, hZ, hR, hfr⟩ := hrel
    have HL := Lib.hid (addTo_len N a b gs k)
    have hsz := lt_of_block hR
    by_cases hkl : j < 64
    · have c1 := row_cell hA (k := j) (by omega)
      have c2 := row_cell hB (k := j) (by omega)
      have c3 := pad_cell (k := j) hR (HL.out.1.trans HJ.out.symm) hkl
      have f3 := frozen_of_row wr (w.heap.size + 1 + 1 + 1) j _ _ hR
      have gA := Lib.hid hA
      have gB := Lib.hid hB
      have gZ := Lib.hid hZ
      have gR := Lib.hid hR
      have hgl : (addTo N a b gs k).2.2.length ≤ 81000 := by have := HL.out.2; have := HJ.out; omega
      have hmd : MkAt base bm wr.drew N (addTo N a b gs k).2.2 := hm
      clear hA hB hZ hR
      go_wp2_with fail
      go_region_held3 (fun W => W.cell? ⟨w.heap.size, j, none⟩ = some (.int .i64 a[j]) ∧ W.cell? ⟨w.heap.size + 1, j, none⟩ = some (.int .i64 b[j])) (first | exact ⟨c1, c2⟩ | exact ⟨e3, e4⟩ | exact ⟨e1, e2⟩ | exact ⟨(cell_set_other (by omega) _).trans e3, (cell_set_other (by omega) _).trans e4⟩)
        (first | (have h1' := m1; go_at_call 101; refine (gt_any base bm N _ _ _ _ _ m1 hN (by rw [gt_len]; omega)).mono ?_; rintro e w4 ⟨rfl, m2, t2⟩; have d3 := pad_cell (t2.row (t1.row gR.out (by omega)) (by omega)) (HL.out.1.trans HJ.out.symm) hkl; have e3 := row_cell (t2.row (t1.row gA.out (by omega)) (by omega)) (k := j) (by omega); have e4 := row_cell (t2.row (t1.row gB.out (by omega)) (by omega)) (k := j) (by omega); have d4 := frozen_of_row w4 (w.heap.size + 1 + 1 + 1) j _ _ (t2.row (t1.row gR.out (by omega)) (by omega))) | (go_at_call 101; refine (gt_any base bm N _ _ _ _ _ hmd hN (by omega)).mono ?_; rintro e w3 ⟨rfl, m1, t1⟩; have e1 := row_cell (t1.row gA.out (by omega)) (k := j) (by omega); have e2 := row_cell (t1.row gB.out (by omega)) (k := j) (by omega)))
      have p4 := t2.row (t1.row gR.out (by omega)) (by omega)
      have k1 := (heap_setCell_other' (b := w.heap.size + 1 + 1 + 1) (j := j) (by omega) (.int .i64 (gt N 1 (gt N 1 a[j] b[j] (addTo N a b gs k).2.2).1 (addTo N a b gs k).2.1 (gt N 1 a[j] b[j] (addTo N a b gs k).2.2).2).1)).trans (t2.row (t1.row gA.out (by omega)) (by omega))
      have k2 := (heap_setCell_other' (b := w.heap.size + 1 + 1 + 1) (j := j) (by omega) (.int .i64 (gt N 1 (gt N 1 a[j] b[j] (addTo N a b gs k).2.2).1 (addTo N a b gs k).2.1 (gt N 1 a[j] b[j] (addTo N a b gs k).2.2).2).1)).trans (t2.row (t1.row gB.out (by omega)) (by omega))
      have k3 := (heap_setCell_other' (b := w.heap.size + 1 + 1 + 1) (j := j) (by omega) (.int .i64 (gt N 1 (gt N 1 a[j] b[j] (addTo N a b gs k).2.2).1 (addTo N a b gs k).2.1 (gt N 1 a[j] b[j] (addTo N a b gs k).2.2).2).1)).trans (t2.row (t1.row gZ.out (by omega)) (by omega))
      have k4 := store_pad p4 j (HL.out.1.trans HJ.out.symm) hkl (gt N 1 (gt N 1 a[j] b[j] (addTo N a b gs k).2.2).1 (addTo N a b gs k).2.1 (gt N 1 a[j] b[j] (addTo N a b gs k).2.2).2).1
      have k5 := m2.setCell p4 j (.int .i64 (gt N 1 (gt N 1 a[j] b[j] (addTo N a b gs k).2.2).1 (addTo N a b gs k).2.1 (gt N 1 a[j] b[j] (addTo N a b gs k).2.2).2).1)
      have k6 := ((hfr.drew.trans t1).trans t2).setCell (b := w.heap.size + 1 + 1 + 1) (by omega) j (.int .i64 (gt N 1 (gt N 1 a[j] b[j] (addTo N a b gs k).2.2).1 (addTo N a b gs k).2.1 (gt N 1 a[j] b[j] (addTo N a b gs k).2.2).2).1)
      clear p4 c1 c2 c3 f3 d3 d4 e1 e2 e3 e4
      generalize w4.setCell ⟨w.heap.size + 1 + 1 + 1, j, none⟩ (.int .i64 (gt N 1 (gt N 1 a[j] b[j] (addTo N a b gs k).2.2).1 (addTo N a b gs k).2.1 (gt N 1 a[j] b[j] (addTo N a b gs k).2.2).2).1) = w5 at k1 k2 k3 k4 k5 k6 ⊢
      have K1 := Lib.hid k1
      have K2 := Lib.hid k2
      have K3 := Lib.hid k3
      have K4 := Lib.hid k4
      have b1 := row_cell k1 (k := j) (by omega)
      have b2 := row_cell k2 (k := j) (by omega)
      have k5d : MkAt base bm w5.drew N _ := k5
      have hs5 := lt_of_block k4
      clear k1 k2 k3 k4
      by_cases hk2 : j < 63
      · go_wp2_with fail
        go_region_held3 (fun W => W.cell? ⟨w.heap.size, j, none⟩ = some (.int .i64 a[j]) ∧ W.cell? ⟨w.heap.size + 1, j, none⟩ = some (.int .i64 b[j])) (first | exact ⟨b1, b2⟩ | exact ⟨b3, b4⟩)
          (first | (go_at_call 123; refine (carry_any base bm N _ _ _ _ _ k5d hN (by simp only [gt_len]; omega)).mono ?_; rintro e w6 ⟨rfl, m3, t3⟩; have b3 := row_cell (t3.row K1.out (by omega)) (k := j) (by omega); have b4 := row_cell (t3.row K2.out (by omega)) (k := j) (by omega)))
        go_wp2_with fail
        go_roundw
        case rel =>
          have hx : addTo N a b gs (k + 1) = ((addTo N a b gs k).1 ++ [(gt N 1 (gt N 1 a[j] b[j] (addTo N a b gs k).2.2).1 (addTo N a b gs k).2.1 (gt N 1 a[j] b[j] (addTo N a b gs k).2.2).2).1],
              mCarry N a[j] b[j] (addTo N a b gs k).2.1 (gt N 1 (gt N 1 a[j] b[j] (addTo N a b gs k).2.2).1 (addTo N a b gs k).2.1 (gt N 1 a[j] b[j] (addTo N a b gs k).2.2).2).2) := by
            obtain rfl := HJ.out
            simp [addTo, List.getD, ha, hb, hkl, hk2]
          refine ⟨k + 1, j + 1, by unfold Hid; rw [HJ.out], by omega, by go_num, by rw [hx], by rw [hx]; exact m3, t3.row K1.out (by omega), t3.row K2.out (by omega), t3.row K3.out (by omega), by rw [hx]; exact t3.row K4.out (by omega), k6.drew.trans t3⟩
        case measure => simp [intOf]; omega
      · go_wp2_with fail
        go_roundw
        case rel =>
          have hx : addTo N a b gs (k + 1) = ((addTo N a b gs k).1 ++ [(gt N 1 (gt N 1 a[j] b[j] (addTo N a b gs k).2.2).1 (addTo N a b gs k).2.1 (gt N 1 a[j] b[j] (addTo N a b gs k).2.2).2).1],
              (addTo N a b gs k).2.1, (gt N 1 (gt N 1 a[j] b[j] (addTo N a b gs k).2.2).1 (addTo N a b gs k).2.1 (gt N 1 a[j] b[j] (addTo N a b gs k).2.2).2).2) := by
            obtain rfl := HJ.out
            simp [addTo, List.getD, ha, hb, hkl, hk2]
          refine ⟨k + 1, j + 1, by unfold Hid; rw [HJ.out], by omega, by go_num, by rw [hx], by rw [hx]; exact k5, K1.out, K2.out, K3.out, by rw [hx]; exact K4.out, k6⟩
        case measure => simp [intOf]; omega
    · obtain rfl : j = 64 := by omega
      obtain rfl : k = 63 := by have := HJ.out; omega
      have hl64 := (addTo_len N a b gs 63).1
      rw [pad_full _ hl64] at hR
      go_wp2_with (first | (refine wpList_load_row rfl 171 _ rfl (w.heap.size + 1 + 1 + 1) rfl 171 _ _ _ hR Tryz.underlying171 rfl (info_rowOf _ hl64) ?_) | (refine wpList_store_row rfl 171 _ _ rfl (w.heap.size + 1 + 1) _ rfl rfl 171 _ hZ (info_rowOf _ hl64) (by simp [ints_length, hl64, pad_len]) (row_one _) ?_))
      exact bodyPost_ret (results_cell_row rfl _ _ (w.heap.size + 1 + 1) 171 _ _ _ rfl (setRow_heap _ _ _ _ _ _ hZ) Tryz.underlying171 rfl (info_rowOf _ hl64)) rfl ⟨rfl, hm.setRow hZ _, hfr.setRow (by omega) _⟩
end Go.Proofs.YtjbhgimhcjcpmaaGreatDoor

/-
  WORDS for a block that holds two rows of wires, and for stores of rows into it.
-/
namespace Go.Proofs.YtjbhgimhcjcpmaaGreatDoor
open Go.RowKit

theorem heap_setCells {t : TypeId} {fr : Nat × Nat} : ∀ (vs A old C : List Value) (w : World) (b : Nat), old.length = vs.length → w.heap[b]? = some (.cells (A ++ old ++ C).toArray t fr) →
    (w.setCells b A.length vs).heap[b]? = some (.cells (A ++ vs ++ C).toArray t fr)
  | [], A, old, C, w, b, hl, h => by
    obtain rfl : old = [] := by simpa using hl
    simpa [World.setCells] using h
  | v :: vs, A, [], C, w, b, hl, h => by simp at hl
  | v :: vs, A, x :: old, C, w, b, hl, h => by
    have h1 := heap_setCell (j := A.length) h v
    have e : (A ++ x :: old ++ C).toArray.setIfInBounds A.length v = ((A ++ [v]) ++ old ++ C).toArray := by
      rw [List.setIfInBounds_toArray]; congr 1
      rw [List.append_assoc, List.set_append_right _ _ (Nat.le_refl _)]; simp
    rw [e] at h1
    have h2 := heap_setCells vs (A ++ [v]) old C (w.setCell ⟨b, A.length, none⟩ v) b (by simpa using hl) h1
    rw [World.setCells]
    simpa using h2
theorem heap_setCells_other : ∀ (vs : List Value) (w : World) (b o k : Nat), k ≠ b → (w.setCells b o vs).heap[k]? = w.heap[k]?
  | [], _, _, _, _, _ => rfl
  | v :: vs, w, b, o, k, h => by rw [World.setCells, heap_setCells_other vs _ b (o + 1) k h, heap_setCell_other' h]
theorem size_setCells : ∀ (vs : List Value) (w : World) (b o : Nat), (w.setCells b o vs).heap.size = w.heap.size
  | [], _, _, _ => rfl
  | v :: vs, w, b, o => by rw [World.setCells, size_setCells vs]; simp
theorem below_setCells {B : Nat} : ∀ (vs : List Value) (w0 w : World) (b o : Nat), B ≤ b → Below B w0 w → Below B w0 (w.setCells b o vs)
  | [], _, _, _, _, _, h => h
  | v :: vs, w0, w, b, o, hb, h => by rw [World.setCells]; exact below_setCells vs w0 _ b (o + 1) hb (h.setCell hb v)
theorem MkFr.keep {base bm : Nat} {w w' : World} (h : MkFr base bm w w') {b : Nat} {cs : Array Value} {t : TypeId} {fr : Nat × Nat} (hb : w.heap[b]? = some (.cells cs t fr)) (ht : t ≠ 180) (hne : b ≠ bm) :
    w'.heap[b]? = some (.cells cs t fr) := by
  rw [h.block b (lt_of_block hb) hne (.inr (fun cur fr' => by rw [hb]; simp; intro _ e; exact absurd e ht)), hb]
theorem MkFr.but {base bm : Nat} {w w' W : World} (h : MkFr base bm w w') {b : Nat} (hb : w.heap.size ≤ b) (hs : ∀ j, j ≠ b → W.heap[j]? = w'.heap[j]?) (hz : W.heap.size = w'.heap.size) (h1 : W.os = w'.os) (h2 : W.tape = w'.tape) (h3 : W.output = w'.output) : MkFr base bm w W :=
  ⟨h1.trans h.os, h2.trans h.tape, h3.trans h.output, by rw [hz]; exact h.size, fun i hi a c => (hs i (by omega)).trans (h.block i hi a c)⟩
theorem MkAt.but {base bm : Nat} {w W : World} {N : Nat} {gs : List Gate} (h : MkAt base bm w N gs) {b : Nat} {cs : Array Value} {t : TypeId} {fr : Nat × Nat} (hX : w.heap[b]? = some (.cells cs t fr)) (h1 : t ≠ 169) (h2 : t ≠ 180)
    (hs : ∀ j, j ≠ b → W.heap[j]? = w.heap[j]?) (hz : w.heap.size ≤ W.heap.size) : MkAt base bm W N gs := by
  obtain ⟨a1, a2, gv, hh, hown⟩ := h
  have hne : bm ≠ b := by intro e; subst e; rw [hX] at hh; simp at hh; exact h1 hh.2.1
  refine ⟨a1, by omega, gv, (hs _ hne).trans hh, ?_⟩
  rcases hown.2 with h0 | ⟨g, cap, cur, hv, hbg, hg, hr⟩
  · exact ⟨hown.1, .inl h0⟩
  · refine ⟨hown.1, .inr ⟨g, cap, cur, hv, hbg, (hs _ ?_).trans hg, hr⟩⟩
    intro e; subst e; rw [hX] at hg; simp at hg; exact h2 hg.2.1

/-- The wires of an operand, the gates behind it. -/
def mOperand (N : Nat) (bit : Bool) (i : Int) (gs : List Gate) : List Int × List Gate :=
  if bit then xorTo N (mInput (2 * i) 64) (mInput (2 * i + 1) 64) gs 64 else ((addTo N (mInput (2 * i) 64) (mInput (2 * i + 1) 64) gs 63).1, (addTo N (mInput (2 * i) 64) (mInput (2 * i + 1) 64) gs 63).2.2)
theorem mOperand_len (N : Nat) (bit : Bool) (i : Int) (gs : List Gate) : (mOperand N bit i gs).1.length = 64 ∧ (mOperand N bit i gs).2.length ≤ gs.length + 400 := by
  unfold mOperand
  split
  · have := xorTo_len N (mInput (2 * i) 64) (mInput (2 * i + 1) 64) gs 64; omega
  · have := addTo_len N (mInput (2 * i) 64) (mInput (2 * i + 1) 64) gs 63; simp only; omega

/-- The wires of the first operands, the gates. -/
def mOps (N f : Nat) : Nat → List Int × List Gate
  | 0 => ([], [])
  | k + 1 => let p := mOperand N (f / 2 ^ k % 2 == 1) k (mOps N f k).2; ((mOps N f k).1 ++ p.1, p.2)
theorem mOps_len (N f k : Nat) : (mOps N f k).1.length = 64 * k ∧ (mOps N f k).2.length ≤ 400 * k := by
  induction k with
  | zero => simp [mOps]
  | succ k ih =>
    have := mOperand_len N (f / 2 ^ k % 2 == 1) k (mOps N f k).2
    simp only [mOps, List.length_append]; omega
def pad2 (r : List Int) : List Int := r ++ List.replicate (128 - r.length) 0

theorem mOps_add (N f k : Nat) (t : List Int × List Gate) (ht : mOps N f k = t) (hbit : (f / 2 ^ k % 2 == 1) = false) (s : List Int × Int × List Gate) (hs : addTo N (mInput (2 * (k : Int)) 64) (mInput (2 * (k : Int) + 1) 64) t.2 63 = s) :
    mOps N f (k + 1) = (t.1 ++ s.1, s.2.2) := by
  simp only [mOps, ht, hbit, mOperand, Bool.false_eq_true, if_false, hs]
theorem mOps_xor (N f k : Nat) (t : List Int × List Gate) (ht : mOps N f k = t) (hbit : (f / 2 ^ k % 2 == 1) = true) (s : List Int × List Gate) (hs : xorTo N (mInput (2 * (k : Int)) 64) (mInput (2 * (k : Int) + 1) 64) t.2 64 = s) :
    mOps N f (k + 1) = (t.1 ++ s.1, s.2) := by
  simp only [mOps, ht, hbit, mOperand, if_true, hs]
theorem pad2_cell {w : World} {b : Nat} {r : List Int} {t : TypeId} {fr : Nat × Nat} {k : Nat} (h : w.heap[b]? = some (.cells (ints (pad2 r)).toArray t fr)) (hk : k < r.length) :
    w.cell? ⟨b, k, none⟩ = some (.int .i64 r[k]) := by
  rw [cell_of_row _ _ _ _ _ _ h]; simp [ints, pad2, List.getElem?_append, hk]

theorem rows2 (W : World) (Z R0 R1 : Array Value) : ((((W.alloc (.cells Z 171)).alloc (.cells Z 171)).setRow W.heap.size R0).setRow (W.heap.size + 1) R1).heap[W.heap.size]? = some (.cells R0 171 (0, 0)) ∧
    ((((W.alloc (.cells Z 171)).alloc (.cells Z 171)).setRow W.heap.size R0).setRow (W.heap.size + 1) R1).heap[W.heap.size + 1]? = some (.cells R1 171 (0, 0)) ∧
    Below W.heap.size W ((((W.alloc (.cells Z 171)).alloc (.cells Z 171)).setRow W.heap.size R0).setRow (W.heap.size + 1) R1) := by
  refine ⟨?_, ?_, below_setRow (below_setRow (((Below.refl _ _).alloc (Nat.le_refl _) _).alloc (by simp) _) (Nat.le_refl _) _) (by omega) _⟩
  · rw [setRow_other _ _ _ _ (by omega)]; exact setRow_heap _ _ _ _ _ _ (heap_alloc2_old _ _ _)
  · exact setRow_heap _ _ _ _ _ _ ((setRow_other _ _ _ _ (by omega)).trans (heap_alloc2_new _ _ _))

theorem wp_rows2 {ops : Array Oper} {rest : List Oper} {o1 o2 : Oper} {a : Act} {Q : Exit → Act → World → Prop} (x1 y1 x2 y2 : Operand) (hg1 : o1.guard = none) (hg2 : o2.guard = none) (ho1 : o1.op = .store 171 x1 y1) (ho2 : o2.op = .store 171 x2 y2)
    (hd : o1.dst = none) (W : World) (Z : Array Value) (r0 r1 : List Int) (hz : Z.size = 64) (h0 : r0.length = 64) (h1 : r1.length = 64)
    (e1 : a.eval x1 = .pointer (some ⟨W.heap.size, 0, none⟩)) (e2 : a.eval y1 = .agg (ints r0).toArray) (e3 : a.eval x2 = .pointer (some ⟨W.heap.size + 1, 0, none⟩)) (e4 : a.eval y2 = .agg (ints r1).toArray)
    (h : ∀ W4 : World, W4.heap[W.heap.size]? = some (.cells (ints r0).toArray 171 (0, 0)) → W4.heap[W.heap.size + 1]? = some (.cells (ints r1).toArray 171 (0, 0)) → Below W.heap.size W W4 → wpList Tryz.prog ops Q rest (a.put o2.dst undef) W4) :
    wpList Tryz.prog ops Q (o1 :: o2 :: rest) a ((W.alloc (.cells Z 171)).alloc (.cells Z 171)) := by
  have H := rows2 W Z (ints r0).toArray (ints r1).toArray
  refine wpList_store_row hg1 171 x1 y1 ho1 W.heap.size _ e1 e2 171 Z (heap_alloc2_old _ _ _) (info_rowOf _ h0) (by simp [hz, ints_length, h0]) (row_one _) ?_
  rw [hd]
  refine wpList_store_row hg2 171 x2 y2 ho2 (W.heap.size + 1) _ e3 e4 171 Z ((setRow_other _ _ _ _ (by omega)).trans (heap_alloc2_new _ _ _)) (info_rowOf _ h1) (by simp [hz, ints_length, h1]) (row_one _) ?_
  exact h _ H.1 H.2.1 H.2.2

/-- A row is stored into the block of two rows. -/
theorem wp_storeX {ops : Array Oper} {rest : List Oper} {o : Oper} {a : Act} {Q : Exit → Act → World → Prop} {w : World} (x y : Operand) (hgd : o.guard = none) (ho : o.op = .store 171 x y) (bx k : Nat) (r q : List Int) (hr : r.length = 64 * k) (hk : k < 2) (hq : q.length = 64)
    (hX : w.heap[bx]? = some (.cells (ints (pad2 r)).toArray 172 (0, 0))) (ex : a.eval x = .pointer (some ⟨bx, 64 * k, none⟩)) (ey : a.eval y = .agg (ints q).toArray)
    (h : ∀ W : World, W.heap[bx]? = some (.cells (ints (pad2 (r ++ q))).toArray 172 (0, 0)) → (∀ j, j ≠ bx → W.heap[j]? = w.heap[j]?) → W.heap.size = w.heap.size → (∀ B w0, B ≤ bx → Below B w0 w → Below B w0 W) →
      (∀ base bm N gs, MkAt base bm w N gs → MkAt base bm W N gs) → wpList Tryz.prog ops Q rest (a.put o.dst undef) W) : wpList Tryz.prog ops Q (o :: rest) a w := by
  have hl : (ints r).length = 64 * k := by rw [ints_length]; exact hr
  have e1 : ints (pad2 r) = ints r ++ ints (List.replicate 64 0) ++ ints (List.replicate (64 - 64 * k) 0) := by
    rw [← ints_append, ← ints_append, List.append_assoc, List.replicate_append_replicate, pad2, hr]; congr 3; omega
  have e2 : ints (pad2 (r ++ q)) = ints r ++ ints q ++ ints (List.replicate (64 - 64 * k) 0) := by
    rw [← ints_append, ← ints_append, pad2, List.length_append, hr, hq]; congr 3; omega
  have ht : w.there bx (64 * k) (ints q).toArray.size := by
    intro j hj
    have hj' : j < 64 := by simpa [ints_length, hq] using hj
    refine ⟨?_, frozen_of_row _ _ _ _ _ hX⟩
    rw [cell_of_row _ _ _ _ _ _ hX]
    have : 64 * k + j < (ints (pad2 r)).length := by rw [ints_length, pad2, List.length_append, List.length_replicate]; omega
    simp [this]
  refine wpList_store_mid hgd 171 x y ho bx (64 * k) _ ex ey ht (info_rowOf _ hq) (row_one _) ?_
  have hx := heap_setCells (ints q) (ints r) (ints (List.replicate 64 0)) (ints (List.replicate (64 - 64 * k) 0)) w bx (by simp [ints_length, hq]) (by rw [← e1]; exact hX)
  rw [hl, ← e2] at hx
  exact h _ hx (fun j hj => heap_setCells_other _ _ _ _ _ hj) (size_setCells _ _ _ _) (fun B w0 hB hb => below_setCells _ _ _ _ _ hB hb)
    (fun base bm N gs hm => hm.but hX (by decide) (by decide) (fun j hj => heap_setCells_other _ _ _ _ _ hj) (Nat.le_of_eq (size_setCells _ _ _ _).symm))
end Go.Proofs.YtjbhgimhcjcpmaaGreatDoor
