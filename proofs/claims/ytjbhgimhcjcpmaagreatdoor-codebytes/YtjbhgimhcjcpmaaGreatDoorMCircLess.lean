/-
  THE CONTRACT of a maker's method less.
-/
import Derived.Test.YtjbhgimhcjcpmaaGreatDoorMGate
import Derived.Test.YtjbhgimhcjcpmaaGreatDoorMCircAdd
set_option linter.unusedSimpArgs false
set_option linter.unusedVariables false
namespace Go.Proofs.YtjbhgimhcjcpmaaGreatDoor
open Go.RowKit

def lessTo (N : Nat) (a b : List Int) (gs : List Gate) : Nat → Int × List Gate
  | 0 => let p := gt N 3 (a.getD 0 0) 0 gs; gt N 2 p.1 (b.getD 0 0) p.2
  | n + 1 => let s := lessTo N a b gs n; let p := gt N 3 (a.getD (n + 1) 0) 0 s.2; mCarry N p.1 (b.getD (n + 1) 0) s.1 p.2
def mLess (N : Nat) (a b : List Int) (gs : List Gate) : Int × List Gate :=
  let s := lessTo N a b gs 62; let p := gt N 3 (b.getD 63 0) 0 s.2; mCarry N (a.getD 63 0) p.1 s.1 p.2
theorem lessTo_len (N : Nat) (a b : List Int) (gs : List Gate) (n : Nat) : (lessTo N a b gs n).2.length = gs.length + 2 + 5 * n := by
  induction n with
  | zero => simp [lessTo, gt]
  | succ n ih => simp only [lessTo, gt_len, mCarry_len, ih]; omega
theorem mLess_len (N : Nat) (a b : List Int) (gs : List Gate) : (mLess N a b gs).2.length = gs.length + 317 := by
  simp only [mLess, gt_len, mCarry_len, lessTo_len]

theorem mLess_eq (N : Nat) (a b : List Int) (gs : List Gate) (ha : a.length = 64) (hb : b.length = 64) (s : Int × List Gate) (hs : lessTo N a b gs 62 = s) :
    mLess N a b gs = mCarry N (a[63]'(by omega)) (gt N 3 (b[63]'(by omega)) 0 s.2).1 s.1 (gt N 3 (b[63]'(by omega)) 0 s.2).2 := by
  unfold mLess; rw [hs]; simp [List.getD, ha, hb]

theorem two (w : World) (o1 o2 : Obj) : ((w.alloc o1).alloc o2).heap[w.heap.size]? = some o1 ∧ ((w.alloc o1).alloc o2).heap[w.heap.size + 1]? = some o2 ∧ Below w.heap.size w ((w.alloc o1).alloc o2) :=
  ⟨heap_alloc2_old _ _ _, heap_alloc2_new _ _ _, ((Below.refl _ _).alloc (Nat.le_refl _) _).alloc (by simp) _⟩

set_option maxHeartbeats 2000000 in
set_option maxRecDepth 100000 in
theorem less_any (base bm N : Nat) (gs : List Gate) (a b : List Int) (w : World) (ha : a.length = 64) (hb : b.length = 64) (h : MkAt base bm w N gs) (hN : N ≤ 1000) (hg : gs.length ≤ 80000) :
    Calls Tryz.prog 102 #[.pointer (some ⟨bm, 0, none⟩), .agg (ints a).toArray, .agg (ints b).toArray] w fun e w' =>
      e = .returned (.int .i64 (mLess N a b gs).1) ∧ MkAt base bm w' N (mLess N a b gs).2 ∧ MkFr base bm w w' := by
  have H := two w (.cells (ints a).toArray 171) (.cells (ints b).toArray 171)
  have hm0 := h.below H.2.2
  have hf0 : MkFr base bm w _ := MkFr.of_below H.2.2
  have hbm : bm < w.heap.size := h.ne
  have HH := Lib.hid H
  have c1 := row_cell H.1 (k := 0) (by omega)
  have c2 := row_cell H.2.1 (k := 0) (by omega)
  have hmd : MkAt base bm ((w.alloc (.cells (ints a).toArray 171)).alloc (.cells (ints b).toArray 171)).drew N gs := hm0
  clear H
  go_enter Tryz.func102, Tryz.ntmps102
  go_wp2_with fail
  go_region_held3 (fun W => W.cell? ⟨w.heap.size, 0, none⟩ = some (.int .i64 a[0]) ∧ W.cell? ⟨w.heap.size + 1, 0, none⟩ = some (.int .i64 b[0])) (first | exact ⟨c1, c2⟩ | exact ⟨e3, e4⟩ | exact ⟨e1, e2⟩)
    (first | (have h1' := m1; go_at_call 101; refine (gt_any base bm N _ _ _ _ _ m1 hN (by rw [gt_len]; omega)).mono ?_; rintro e w2 ⟨rfl, m2, t2⟩; have e3 := row_cell (t2.row (t1.row HH.out.1 (by omega)) (by omega)) (k := 0) (by omega); have e4 := row_cell (t2.row (t1.row HH.out.2.1 (by omega)) (by omega)) (k := 0) (by omega)) | (go_at_call 101; refine (gt_any base bm N _ _ _ _ _ hmd hN (by omega)).mono ?_; rintro e w1 ⟨rfl, m1, t1⟩; have e1 := row_cell (t1.row HH.out.1 (by omega)) (k := 0) (by omega); have e2 := row_cell (t1.row HH.out.2.1 (by omega)) (k := 0) (by omega)))
  have q1 := t2.row (t1.row HH.out.1 (by omega)) (by omega)
  have q2 := t2.row (t1.row HH.out.2.1 (by omega)) (by omega)
  have fr2 := (hf0.drew.trans t1).trans t2
  have hs1 := fr2.size
  have hx0 : lessTo N a b gs 0 = gt N 2 (gt N 3 a[0] 0 gs).1 b[0] (gt N 3 a[0] 0 gs).2 := by simp [lessTo, List.getD, ha, hb]
  have HX0 := Lib.hid hx0
  clear hx0 c1 c2 e1 e2 e3 e4
  have Q1 := Lib.hid q1
  have Q2 := Lib.hid q2
  clear q1 q2 m1 t1 t2
  go_wp2_with fail
  go_loopw [7, 8] (fun c x wr => ∃ k j : Nat, Hid (j = k + 1) ∧ j ≤ 63 ∧ x = .int .i64 j ∧ c = .int .i64 (lessTo N a b gs k).1 ∧ MkAt base bm wr N (lessTo N a b gs k).2 ∧ wr.heap[w.heap.size]? = some (.cells (ints a).toArray 171 (0, 0)) ∧ wr.heap[w.heap.size + 1]? = some (.cells (ints b).toArray 171 (0, 0)) ∧ MkFr base bm w wr) (fun _ x _ => 63 - (intOf x).toNat)
  case atStart => exact ⟨0, 1, rfl, by omega, rfl, by rw [HX0.out], by rw [HX0.out]; exact m2, Q1.out, Q2.out, fr2⟩
  case round =>
    obtain ⟨k, j, HJ, hk, rfl, rfl, hm, hA, hB, hfr⟩ := hrel
    have hgl : (lessTo N a b gs k).2.length ≤ 81000 := by have := lessTo_len N a b gs k; have := HJ.out; omega
    have gA := Lib.hid hA
    have gB := Lib.hid hB
    have hmr : MkAt base bm wr.drew N (lessTo N a b gs k).2 := hm
    by_cases hkl : j < 63
    · have hj64 : (j : Int) < 64 := by omega
      have hj0 : (0 : Int) ≤ j := by omega
      have c1 := row_cell hA (k := j) (by omega)
      have c2 := row_cell hB (k := j) (by omega)
      clear hA hB
      go_wp2_with fail
      go_region_held3 (fun W => W.cell? ⟨w.heap.size, j, none⟩ = some (.int .i64 a[j]) ∧ W.cell? ⟨w.heap.size + 1, j, none⟩ = some (.int .i64 b[j])) (first | exact ⟨c1, c2⟩ | exact ⟨e3, e4⟩ | exact ⟨e1, e2⟩)
        (first | (go_at_call 123; refine (carry_any base bm N _ _ _ _ _ m1 hN (by rw [gt_len]; omega)).mono ?_; rintro e w2 ⟨rfl, m2, t2⟩; have e3 := row_cell (t2.row (t1.row gA.out (by omega)) (by omega)) (k := j) (by omega); have e4 := row_cell (t2.row (t1.row gB.out (by omega)) (by omega)) (k := j) (by omega)) | (go_at_call 101; refine (gt_any base bm N _ _ _ _ _ hmr hN (by omega)).mono ?_; rintro e w1 ⟨rfl, m1, t1⟩; have e1 := row_cell (t1.row gA.out (by omega)) (k := j) (by omega); have e2 := row_cell (t1.row gB.out (by omega)) (k := j) (by omega)))
      go_wp2_with fail
      go_roundw
      case rel =>
        have hx : lessTo N a b gs (k + 1) = mCarry N (gt N 3 a[j] 0 (lessTo N a b gs k).2).1 b[j] (lessTo N a b gs k).1 (gt N 3 a[j] 0 (lessTo N a b gs k).2).2 := by
          obtain rfl := HJ.out
          simp [lessTo, List.getD, show k + 1 < a.length by omega, show k + 1 < b.length by omega]
        refine ⟨k + 1, j + 1, by unfold Hid; rw [HJ.out], by omega, by go_num, by rw [hx], by rw [hx]; exact m2, t2.row (t1.row gA.out (by omega)) (by omega), t2.row (t1.row gB.out (by omega)) (by omega), (hfr.drew.trans t1).trans t2⟩
      case measure => simp [intOf]; omega
    · obtain rfl : j = 63 := by omega
      obtain rfl : k = 62 := by have := HJ.out; omega
      obtain ⟨s0, hs0⟩ : ∃ s0, lessTo N a b gs 62 = s0 := ⟨_, rfl⟩
      have hx := mLess_eq N a b gs ha hb s0 hs0
      rw [hs0] at hgl hmr ⊢
      have HX := Lib.hid hx
      have c1 := row_cell hA (k := 63) (by omega)
      have c2 := row_cell hB (k := 63) (by omega)
      clear hA hB hm hx hs0
      go_wp2_with fail
      go_region_held3 (fun W => W.cell? ⟨w.heap.size, 63, none⟩ = some (.int .i64 a[63]) ∧ W.cell? ⟨w.heap.size + 1, 63, none⟩ = some (.int .i64 b[63])) (first | exact ⟨c1, c2⟩ | exact ⟨e3, e4⟩ | exact ⟨e1, e2⟩)
        (first | (go_at_call 123; refine (carry_any base bm N _ _ _ _ _ m1 hN (by rw [gt_len]; omega)).mono ?_; rintro e w2 ⟨rfl, m2, t2⟩; have e3 := row_cell (t2.row (t1.row gA.out (by omega)) (by omega)) (k := 63) (by omega); have e4 := row_cell (t2.row (t1.row gB.out (by omega)) (by omega)) (k := 63) (by omega)) | (go_at_call 101; refine (gt_any base bm N _ _ _ _ _ hmr hN (by omega)).mono ?_; rintro e w1 ⟨rfl, m1, t1⟩; have e1 := row_cell (t1.row gA.out (by omega)) (k := 63) (by omega); have e2 := row_cell (t1.row gB.out (by omega)) (k := 63) (by omega)))
      go_wp2_with fail
      go_ret
      rw [HX.out]
      exact ⟨rfl, m2, (hfr.drew.trans t1).trans t2⟩
end Go.Proofs.YtjbhgimhcjcpmaaGreatDoor

/-
  THE CONTRACT of a maker's method pick.
-/
namespace Go.Proofs.YtjbhgimhcjcpmaaGreatDoor
open Go.RowKit

def pick1 (N : Nat) (s a b : Int) (gs : List Gate) : Int × List Gate :=
  let p := gt N 1 a b gs; let q := gt N 2 s p.1 p.2; gt N 1 b q.1 q.2
def pickTo (N : Nat) (s : Int) (a b : List Int) (gs : List Gate) : Nat → List Int × List Gate
  | 0 => ([], gs)
  | k + 1 => let t := pickTo N s a b gs k; let p := pick1 N s (a.getD k 0) (b.getD k 0) t.2; (t.1 ++ [p.1], p.2)
theorem pickTo_len (N : Nat) (s : Int) (a b : List Int) (gs : List Gate) (k : Nat) : (pickTo N s a b gs k).1.length = k ∧ (pickTo N s a b gs k).2.length = gs.length + 3 * k := by
  induction k with
  | zero => simp [pickTo]
  | succ k ih => simp [pickTo, pick1, gt, ih]; omega
theorem pickTo_succ (N : Nat) (s : Int) (a b : List Int) (gs : List Gate) (k : Nat) (ha : k < a.length) (hb : k < b.length) (t : List Int × List Gate) (ht : pickTo N s a b gs k = t) :
    pickTo N s a b gs (k + 1) = (t.1 ++ [(pick1 N s a[k] b[k] t.2).1], (pick1 N s a[k] b[k] t.2).2) := by
  simp [pickTo, ht, List.getD, ha, hb]

set_option maxHeartbeats 2000000 in
set_option maxRecDepth 100000 in
theorem pick_any (base bm N : Nat) (gs : List Gate) (s : Int) (a b : List Int) (w : World) (ha : a.length = 64) (hb : b.length = 64) (h : MkAt base bm w N gs) (hN : N ≤ 1000) (hg : gs.length ≤ 80000) :
    Calls Tryz.prog 103 #[.pointer (some ⟨bm, 0, none⟩), .int .i64 s, .agg (ints a).toArray, .agg (ints b).toArray] w fun e w' =>
      e = .returned (.agg (ints (pickTo N s a b gs 64).1).toArray) ∧ MkAt base bm w' N (pickTo N s a b gs 64).2 ∧ MkFr base bm w w' := by
  go_enter Tryz.func103, Tryz.ntmps103
  go_wp2_with fail
  go_loopw [11] (fun x wr => ∃ k : Nat, ∃ t : List Int × List Gate, k ≤ 64 ∧ x = .int .i64 k ∧ Hid (pickTo N s a b gs k = t) ∧ MkAt base bm wr N t.2 ∧ wr.heap[w.heap.size]? = some (.cells (ints a).toArray 171 (0, 0)) ∧ wr.heap[w.heap.size + 1]? = some (.cells (ints b).toArray 171 (0, 0)) ∧
      wr.heap[w.heap.size + 1 + 1]? = some (.cells (ints (pad [])).toArray 171 (0, 0)) ∧ wr.heap[w.heap.size + 1 + 1 + 1]? = some (.cells (ints (pad t.1)).toArray 171 (0, 0)) ∧ MkFr base bm w wr) (fun x _ => 64 - (intOf x).toNat)
  case atStart =>
    have H := four w (.cells (ints a).toArray 171) (.cells (ints b).toArray 171) (.cells (ints (pad [])).toArray 171) (.cells (ints (pad [])).toArray 171)
    exact ⟨0, _, by omega, rfl, rfl, h.below H.2.2.2.2, H.1, H.2.1, H.2.2.1, H.2.2.2.1, MkFr.of_below H.2.2.2.2⟩
  case round =>
    obtain ⟨k, t, hk, rfl, HT, hm, hA, hB, hZ, hR, hfr⟩ := hrel
    have hl : t.1.length = k ∧ t.2.length = gs.length + 3 * k := by have := pickTo_len N s a b gs k; rw [HT.out] at this; exact this
    have HL := Lib.hid hl
    have hgl : t.2.length ≤ 81000 := by omega
    clear hl
    have hsz := lt_of_block hR
    have hbm : bm < w.heap.size := h.ne
    by_cases hkl : k < 64
    · have c1 := row_cell hA (k := k) (by omega)
      have c2 := row_cell hB (k := k) (by omega)
      have c3 := pad_cell hR HL.out.1 hkl
      have f3 := frozen_of_row wr (w.heap.size + 1 + 1 + 1) k _ _ hR
      have gA := Lib.hid hA
      have gB := Lib.hid hB
      have gZ := Lib.hid hZ
      have gR := Lib.hid hR
      have hmd : MkAt base bm wr.drew N t.2 := hm
      clear hA hB hZ hR
      go_wp2_with fail
      go_region_held3 (fun W => W.cell? ⟨w.heap.size, k, none⟩ = some (.int .i64 a[k]) ∧ W.cell? ⟨w.heap.size + 1, k, none⟩ = some (.int .i64 b[k])) (first | exact ⟨c1, c2⟩ | exact ⟨e5, e6⟩ | exact ⟨e3, e4⟩ | exact ⟨e1, e2⟩ | exact ⟨(cell_set_other (by omega) _).trans e5, (cell_set_other (by omega) _).trans e6⟩)
        (first | (have h1' := m2; go_at_call 101; refine (gt_any base bm N _ _ _ _ _ m2 hN (by simp only [gt_len]; omega)).mono ?_; rintro e w5 ⟨rfl, m3, t3⟩; have e5 := row_cell (t3.row (t2.row (t1.row gA.out (by omega)) (by omega)) (by omega)) (k := k) (by omega); have e6 := row_cell (t3.row (t2.row (t1.row gB.out (by omega)) (by omega)) (by omega)) (k := k) (by omega); have d3 := pad_cell (t3.row (t2.row (t1.row gR.out (by omega)) (by omega)) (by omega)) HL.out.1 hkl; have d4 := frozen_of_row w5 (w.heap.size + 1 + 1 + 1) k _ _ (t3.row (t2.row (t1.row gR.out (by omega)) (by omega)) (by omega))) | (have h1' := m1; go_at_call 101; refine (gt_any base bm N _ _ _ _ _ m1 hN (by simp only [gt_len]; omega)).mono ?_; rintro e w4 ⟨rfl, m2, t2⟩; have e3 := row_cell (t2.row (t1.row gA.out (by omega)) (by omega)) (k := k) (by omega); have e4 := row_cell (t2.row (t1.row gB.out (by omega)) (by omega)) (k := k) (by omega)) | (go_at_call 101; refine (gt_any base bm N _ _ _ _ _ hmd hN (by omega)).mono ?_; rintro e w3 ⟨rfl, m1, t1⟩; have e1 := row_cell (t1.row gA.out (by omega)) (k := k) (by omega); have e2 := row_cell (t1.row gB.out (by omega)) (k := k) (by omega)))
      go_wp2_with fail
      go_roundw
      case rel =>
        have r3 := t3.row (t2.row (t1.row gR.out (by omega)) (by omega)) (by omega)
        have r1 := t3.row (t2.row (t1.row gA.out (by omega)) (by omega)) (by omega)
        have r2 := t3.row (t2.row (t1.row gB.out (by omega)) (by omega)) (by omega)
        have rz := t3.row (t2.row (t1.row gZ.out (by omega)) (by omega)) (by omega)
        have hx := pickTo_succ N s a b gs k (by omega) (by omega) t HT.out
        refine ⟨k + 1, _, by omega, by go_num, hx, m3.setCell r3 _ _, ?_, ?_, ?_, store_pad r3 k HL.out.1 hkl _, (((hfr.drew.trans t1).trans t2).trans t3).setCell (by omega) _ _⟩
        · rw [heap_setCell_other' (by omega)]; exact r1
        · rw [heap_setCell_other' (by omega)]; exact r2
        · rw [heap_setCell_other' (by omega)]; exact rz
      case measure => simp [intOf]; omega
    · obtain rfl : k = 64 := by omega
      have hl64 := HL.out.1
      rw [pad_full _ hl64] at hR
      go_wp2_with (first | (refine wpList_load_row rfl 171 _ rfl (w.heap.size + 1 + 1 + 1) rfl 171 _ _ _ hR Tryz.underlying171 rfl (info_rowOf _ hl64) ?_) | (refine wpList_store_row rfl 171 _ _ rfl (w.heap.size + 1 + 1) _ rfl rfl 171 _ hZ (info_rowOf _ hl64) (by simp [ints_length, hl64, pad_len]) (row_one _) ?_))
      refine bodyPost_ret (results_cell_row rfl _ _ (w.heap.size + 1 + 1) 171 _ _ _ rfl (setRow_heap _ _ _ _ _ _ hZ) Tryz.underlying171 rfl (info_rowOf _ hl64)) rfl ?_
      rw [HT.out]
      exact ⟨rfl, hm.setRow hZ _, hfr.setRow (by omega) _⟩
end Go.Proofs.YtjbhgimhcjcpmaaGreatDoor

/-
  WHAT circ.Make ANSWERS, for all kinds.
-/
namespace Go.Proofs.YtjbhgimhcjcpmaaGreatDoor
open Go.RowKit

theorem pad2_zero : (ints (pad2 [])).toArray = Tryz.zeroCells172 := by kernel_rfl

theorem three (w : World) (o1 o2 o3 : Obj) : (((w.alloc o1).alloc o2).alloc o3).heap[w.heap.size]? = some o1 ∧ (((w.alloc o1).alloc o2).alloc o3).heap[w.heap.size + 1]? = some o2 ∧
    (((w.alloc o1).alloc o2).alloc o3).heap[w.heap.size + 1 + 1]? = some o3 ∧ Below w.heap.size w (((w.alloc o1).alloc o2).alloc o3) := by
  have H := four w o1 o2 o3 (.cells #[] 0)
  have s3 : (((w.alloc o1).alloc o2).alloc o3).heap.size = w.heap.size + 1 + 1 + 1 := by simp
  refine ⟨?_, ?_, ?_, (((Below.refl _ _).alloc (Nat.le_refl _) _).alloc (by simp) _).alloc (by simp; omega) _⟩
  · exact (heap_alloc_old (((w.alloc o1).alloc o2).alloc o3) (.cells #[] 0) (by omega)).symm.trans H.1
  · exact (heap_alloc_old (((w.alloc o1).alloc o2).alloc o3) (.cells #[] 0) (by omega)).symm.trans H.2.1
  · exact (heap_alloc_old (((w.alloc o1).alloc o2).alloc o3) (.cells #[] 0) (by omega)).symm.trans H.2.2.1

theorem results_cell_tmp {P : Program} {fn : Func} {p q : Tmp} {ty : TypeId} (h : fn.results = #[.cell p ty, .tmp q]) (tmps : Array Value) (w : World) (g : Nat) (t : TypeId) (cs : Array Value) (fr : Nat × Nat) (d : TypeDesc)
    (hp : tmps.getD p undef = .pointer (some ⟨g, 0, none⟩)) (hg : w.heap[g]? = some (.cells cs t fr))
    (hu : P.underlying ty = some d) (hd : (match d with | .struct _ | .array _ _ => true | _ => false) = true) (hi : (P.info? ty).map (·.size) = some cs.size) :
    (results fn tmps).run P w = .ok (.tuple #[.agg cs, tmps.getD q undef]) w := by
  have hp' : tmps[p]?.getD undef = .pointer (some ⟨g, 0, none⟩) := by simpa using hp
  simp [results, h, hp', asAddr, run_loadVar_row w g t ty cs fr d hg hu hd hi]
theorem owns_one {w : World} {base : Nat} {e : TypeId} {k : Nat} {v : Value} {n : Nat} {xs : List Value} (h : w.ownsRow base e k v n xs) : v.oneCell' = true := by
  rcases h.2 with ⟨rfl, _⟩ | ⟨g, cap, cur, rfl, _⟩ <;> rfl
theorem owns_same {w W : World} {base : Nat} {e : TypeId} {k : Nat} {v : Value} {n : Nat} {xs : List Value} (h : w.ownsRow base e k v n xs) (hs : ∀ g cur, w.heap[g]? = some (.cells cur e (0, 0)) → base ≤ g → W.heap[g]? = w.heap[g]?) : W.ownsRow base e k v n xs := by
  rcases h.2 with h0 | ⟨g, cap, cur, hv, hbg, hg, hr⟩
  · exact ⟨h.1, .inl h0⟩
  · exact ⟨h.1, .inr ⟨g, cap, cur, hv, hbg, (hs g cur hg hbg).trans hg, hr⟩⟩
/-- Outs that lie in a row of wires. -/
theorem outs_arr {w : World} {br : Nat} {r : List Int} {t : TypeId} {fr : Nat × Nat} (h : w.heap[br]? = some (.cells (ints r).toArray t fr)) (hr : r.length = 64) : Arr w.heap.size w 1 (.slice (some ⟨br, 0, none⟩) 64 64) r.length (ints r) := by
  rw [hr]
  refine ⟨_, 64, rfl, Nat.le_refl _, by unfold maxLen; omega, (fun h => by cases h), by simp [ints_length, hr], .inr ⟨br, 0, rfl, lt_of_block h, fun i hi => ?_⟩⟩
  rw [cell_of_row _ _ _ _ _ _ h]; simp
theorem pad2_range {w : World} {b : Nat} {r : List Int} {t : TypeId} {fr : Nat × Nat} (h : w.heap[b]? = some (.cells (ints (pad2 r)).toArray t fr)) (hr : r.length = 128) :
    w.rangeAt b 0 (ints (r.take 64)) ∧ w.rangeAt b 64 (ints (r.drop 64)) := by
  have e : pad2 r = r := by simp [pad2, hr]
  rw [e] at h
  constructor
  · intro j v hj
    rw [cell_of_row _ _ _ _ _ _ h]
    simp only [ints, List.map_take] at hj
    have : j < 64 := by
      have := (List.getElem?_eq_some_iff.1 hj).1
      simp at this; omega
    rw [List.getElem?_take, if_pos this] at hj
    simpa [ints] using hj
  · intro j v hj
    rw [cell_of_row _ _ _ _ _ _ h]
    simp only [ints, List.map_drop] at hj
    rw [List.getElem?_drop] at hj
    simpa [ints] using hj
theorem info_rowL (r : List Int) (h : r.length = 64) : (Tryz.prog.info? 171).map (·.size) = some (ints r).length := by rw [info_row]; simp [ints, h]
theorem set_first (l z : Int) : (ints (List.replicate 64 z)).toArray.setIfInBounds 0 (.int .i64 l) = (ints (l :: List.replicate 63 z)).toArray := by
  simp [ints, List.replicate_succ]
theorem info_circuit : (Tryz.prog.info? 117).map (·.size) = some 3 := by kernel_rfl

/-- The And gates' wires of a relu. -/
def reluTo (N : Nat) (keep : Int) (x : List Int) (gs : List Gate) : Nat → List Int × List Gate
  | 0 => ([], gs)
  | k + 1 => let t := reluTo N keep x gs k; let p := gt N 2 keep (x.getD k 0) t.2; (t.1 ++ [p.1], p.2)
theorem reluTo_len (N : Nat) (keep : Int) (x : List Int) (gs : List Gate) (k : Nat) : (reluTo N keep x gs k).1.length = k ∧ (reluTo N keep x gs k).2.length = gs.length + k := by
  induction k with
  | zero => simp [reluTo]
  | succ k ih => simp [reluTo, gt, ih]; omega
theorem reluTo_succ (N : Nat) (keep : Int) (x : List Int) (gs : List Gate) (k : Nat) (hx : k < x.length) (t : List Int × List Gate) (ht : reluTo N keep x gs k = t) :
    reluTo N keep x gs (k + 1) = (t.1 ++ [(gt N 2 keep x[k] t.2).1], (gt N 2 keep x[k] t.2).2) := by
  simp [reluTo, ht, List.getD, hx]

/-- The circuit of a kind: its inputs, its gates, its outs. -/
def mMake (kind f : Nat) : Nat × List Gate × List Int :=
  if kind = 1 then
    let s := mOps 128 f 1; let z := gt 128 1 0 0 s.2; let keep := gt 128 3 (s.1.getD 63 0) 0 z.2; let r := reluTo 128 keep.1 s.1 keep.2 63
    (128, r.2, r.1 ++ [z.1])
  else
    let s := mOps 256 f 2; let z := gt 256 1 0 0 s.2; let l := mLess 256 (s.1.take 64) (s.1.drop 64) z.2
    if kind = 2 then (256, l.2, l.1 :: List.replicate 63 z.1)
    else let p := pickTo 256 l.1 (s.1.drop 64) (s.1.take 64) l.2 64; (256, p.2, p.1)

theorem mMake_relu (f : Nat) (t : List Int × List Gate) (ht : mOps 128 f 1 = t) (h63 : 63 < t.1.length) (z q : Int × List Gate) (hz : gt 128 1 0 0 t.2 = z) (hq : gt 128 3 t.1[63] 0 z.2 = q) (p : List Int × List Gate) (hp : reluTo 128 q.1 t.1 q.2 63 = p) :
    mMake 1 f = (128, p.2, p.1 ++ [z.1]) := by
  simp only [mMake, if_true, ht, hz]
  rw [show t.1.getD 63 0 = t.1[63] by simp [List.getD, h63], hq, hp]

theorem mMake_less (f : Nat) (t : List Int × List Gate) (ht : mOps 256 f 2 = t) (z l : Int × List Gate) (hz : gt 256 1 0 0 t.2 = z) (hl : mLess 256 (t.1.take 64) (t.1.drop 64) z.2 = l) :
    mMake 2 f = (256, l.2, l.1 :: List.replicate 63 z.1) := by
  have h21 : ¬ (2 = 1) := by decide
  simp only [mMake, if_neg h21, if_true, ht, hz, hl]
theorem mMake_max (f : Nat) (t : List Int × List Gate) (ht : mOps 256 f 2 = t) (z l p : _) (hz : gt 256 1 0 0 t.2 = z) (hl : mLess 256 (t.1.take 64) (t.1.drop 64) z.2 = l)
    (hp : pickTo 256 l.1 (t.1.drop 64) (t.1.take 64) l.2 64 = p) : mMake 3 f = (256, p.2, p.1) := by
  have h31 : ¬ (3 = 1) := by decide
  have h32 : ¬ (3 = 2) := by decide
  simp only [mMake, if_neg h31, if_neg h32, ht, hz, hl, hp]

/-- What circ.Make answers where it makes a circuit. -/
def MadeCirc (w : World) (kind f : Nat) (e : Ending) (w' : World) : Prop :=
  ∃ gv ov, e = .returned (.tuple #[.agg #[.int .i64 (mMake kind f).1, gv, ov], .nilIface]) ∧ w'.ownsRow w.heap.size 180 3 gv (mMake kind f).2.1.length (gcells (mMake kind f).2.1) ∧
    Arr w'.heap.size w' 1 ov (mMake kind f).2.2.length (ints (mMake kind f).2.2) ∧ Below w.heap.size w w'
end Go.Proofs.YtjbhgimhcjcpmaaGreatDoor
