/-
  THE CONTRACT of circ.Make at kind 1 and forms 0.
-/
import Derived.Test.YtjbhgimhcjcpmaaGreatDoorMCircLess
set_option linter.unusedSimpArgs false
set_option linter.unusedVariables false
namespace Go.Proofs.YtjbhgimhcjcpmaaGreatDoor
open Go.RowKit

set_option maxHeartbeats 4000000 in
set_option maxRecDepth 100000 in
theorem make_10 (w : World) :
    Calls Tryz.prog 67 #[.int .i64 1, .int .u64 0] w (MadeCirc w 1 0) := by
  go_enter Tryz.func67, Tryz.ntmps67
  go_wp2_with fail
  go_loopw [37] (fun x wr => ∃ k : Nat, ∃ t : List Int × List Gate, k ≤ 1 ∧ x = .int .i64 k ∧ Hid (mOps 128 0 k = t) ∧ MkAt (w.heap.size + 1 + 1) (w.heap.size + 1) wr 128 t.2 ∧ wr.heap[w.heap.size]? = some (.cells #[.int .i64 0, .slice none 0 0, .slice none 0 0] 117 (0, 0)) ∧
      wr.heap[w.heap.size + 1 + 1]? = some (.cells (ints (pad2 t.1)).toArray 172 (0, 0)) ∧ Below w.heap.size w wr) (fun x _ => 2 - (intOf x).toNat)
  case atStart =>
    have H := three w (.cells #[.int .i64 0, .slice none 0 0, .slice none 0 0] 117) (.cells #[.int .i64 128, .slice none 0 0, .slice none 0 0] 169) (.cells Tryz.zeroCells172 172)
    refine ⟨0, _, by omega, rfl, rfl, ⟨by omega, ?_, _, H.2.1, World.ownsRow_nil _ _ _ _⟩, H.1, ?_, H.2.2.2⟩
    · simp
    · show _ = some (Obj.cells (ints (pad2 [])).toArray _ _)
      rw [pad2_zero]; exact H.2.2.1
  case round =>
    obtain ⟨k, t, hk, rfl, HT, hm, hC, hX, hb⟩ := hrel
    have ht1 : t.1.length = 64 * k := by have := (mOps_len 128 0 k).1; rw [HT.out] at this; exact this
    have hlt : t.2.length ≤ 70000 := by have := (mOps_len 128 0 k).2; rw [HT.out] at this; omega
    have hsr := hb.size
    by_cases hk0 : k = 0
    · subst hk0
      go_wp2_with fail
      refine (input_any _ _ _ (by omega) (by omega)).mono ?_
      rintro e w1 ⟨rfl, hb1⟩
      go_wp2_with fail
      refine (input_any _ _ _ (by omega) (by omega)).mono ?_
      rintro e w2 ⟨rfl, hb2⟩
      go_wp2_with (first | ((with_reducible show wpList _ _ _ (⟨_, Op.store _ (.tmp 10) _, _, _, _, _⟩ :: _) _ _); refine wp_rows2 (.tmp 10) (.tmp 43) (.tmp 11) (.tmp 48) rfl rfl rfl rfl rfl _ _ _ _ rfl (mInput_len _ _) (mInput_len _ _) rfl rfl rfl rfl ?_; intro W4 k1 k2 kb) | ((with_reducible show wpList _ _ _ (⟨_, Op.load _ (.tmp 10), _, _, _, _⟩ :: _) _ _); refine wpList_load_row rfl 171 _ rfl w2.heap.size rfl 171 _ _ _ k1 Tryz.underlying171 rfl (info_rowOf _ (mInput_len _ _)) ?_) | ((with_reducible show wpList _ _ _ (⟨_, Op.load _ (.tmp 11), _, _, _, _⟩ :: _) _ _); refine wpList_load_row rfl 171 _ rfl (w2.heap.size + 1) rfl 171 _ _ _ k2 Tryz.underlying171 rfl (info_rowOf _ (mInput_len _ _)) ?_))
      have hmW := ((hm.below hb1).below hb2).below kb
      have hbl := ((hb1.trans (hb2.mono hb1.size)).trans (kb.mono (Nat.le_trans hb1.size hb2.size)))
      have hbW := (((hb.trans (hb1.mono hb.size)).trans (hb2.mono (Nat.le_trans hb.size hb1.size))).trans (kb.mono (Nat.le_trans (Nat.le_trans hb.size hb1.size) hb2.size)))
      have hs0 : ∃ s0, addTo 128 (mInput 0 64) (mInput 1 64) t.2 63 = s0 := ⟨_, rfl⟩
      obtain ⟨s0, hs0⟩ := hs0
      have A := add_any _ _ 128 t.2 (mInput 0 64) (mInput 1 64) W4 (mInput_len _ _) (mInput_len _ _) hmW (by omega) (Nat.le_trans hlt (by decide))
      have hl0 := (addTo_len 128 (mInput 0 64) (mInput 1 64) t.2 63).1
      rw [hs0] at A hl0
      have HS := Lib.hid hs0
      clear hs0
      refine A.mono ?_
      rintro e w5 ⟨rfl, m5, t5⟩
      have hsr := hb.size
      have x5 := t5.keep ((hbl.block _ (lt_of_block hX)).trans hX) (by decide) (by omega)
      have y5 := t5.keep ((hbl.block _ (lt_of_block hC)).trans hC) (by decide) (by omega)
      have hb5 := t5.below (B := w.heap.size) (by have := hbW.size; omega) (by omega) (by omega)
      clear A k1 k2 hb1 hb2 kb hX hC hm
      go_wp2_with ((with_reducible show wpList _ _ _ (⟨_, Op.store _ (.tmp 65) _, _, _, _, _⟩ :: _) _ _); refine wp_storeX (.tmp 65) (.tmp 64) rfl rfl (w.heap.size + 1 + 1) 0 t.1 s0.1 ht1 (by omega) hl0 x5 rfl rfl ?_; intro W6 x6 o6 z6 b6 g6)
      go_roundw
      case rel =>
        refine ⟨1, (t.1 ++ s0.1, s0.2.2), by omega, rfl, mOps_add 128 0 0 t HT.out rfl s0 HS.out, g6 _ _ _ _ m5, (o6 _ (by omega)).trans y5, x6, b6 _ _ (by omega) (hbW.trans hb5)⟩
      case measure => simp [intOf]
    obtain rfl : k = 1 := by omega
    have hsX := lt_of_block hX
    have hbm : MkAt (w.heap.size + 1 + 1) (w.heap.size + 1) (wr.alloc (.cells (ints (pad [])).toArray 171)) 128 t.2 := hm.below ((Below.refl _ _).alloc (Nat.le_refl _) _)
    have hX' := (heap_alloc_old wr (.cells (ints (pad [])).toArray 171) (lt_of_block hX)).trans hX
    have hC' := (heap_alloc_old wr (.cells (ints (pad [])).toArray 171) (lt_of_block hC)).trans hC
    have hR' := heap_alloc_new wr (.cells (ints (pad [])).toArray 171)
    have hb' := hb.alloc hsr (.cells (ints (pad [])).toArray 171)
    have A := gt_any _ _ 128 t.2 1 0 0 _ hbm (by omega) (by omega)
    clear hX hC hm hb
    go_wp2_with fail
    refine A.mono ?_
    have hlz := gt_len 128 1 0 0 t.2
    have hz : ∃ z, gt 128 1 0 0 t.2 = z := ⟨_, rfl⟩
    obtain ⟨z, hz⟩ := hz
    rw [hz] at hlz ⊢
    rintro e w1 ⟨rfl, m1, t1⟩
    have X1 := t1.keep hX' (by decide) (by omega)
    have C1 := t1.keep hC' (by decide) (by omega)
    have R1 := t1.row hR' (by omega)
    have B1 := hb'.trans (t1.below (B := w.heap.size) (by simp; omega) (by omega) (by omega))
    have s1 := t1.size
    simp only [World.size_alloc] at s1
    have c63 := pad2_cell X1 (k := 63) (by omega)
    have hz' := Lib.hid hz
    have HX1 := Lib.hid X1
    have HC1 := Lib.hid C1
    have HR1 := Lib.hid R1
    clear hz hX' hC' hR' hb' t1 A hbm X1 C1 R1
    go_wp2_with fail
    have A := gt_any _ _ 128 z.2 3 t.1[63] 0 _ m1 (by omega) (by omega)
    refine A.mono ?_
    have hlk := gt_len 128 3 t.1[63] 0 z.2
    have hq : ∃ q, gt 128 3 t.1[63] 0 z.2 = q := ⟨_, rfl⟩
    obtain ⟨q, hq⟩ := hq
    rw [hq] at hlk ⊢
    rintro e w2 ⟨rfl, m2, t2⟩
    have X2 := t2.keep HX1.out (by decide) (by omega)
    have C2 := t2.keep HC1.out (by decide) (by omega)
    have R2 := t2.row HR1.out (by omega)
    have B2 := B1.trans (t2.below (B := w.heap.size) (by omega) (by omega) (by omega))
    have s2 := t2.size
    have hq' := Lib.hid hq
    have H2 := Lib.hid (And.intro X2 (And.intro C2 R2))
    clear hq HX1 HC1 HR1 X2 C2 R2 c63 A m1
    go_wp2_with fail
    generalize hbr : wr.heap.size = br at s1 hsX H2 ⊢
    clear hbr
    go_loopw [77] (fun x wq => ∃ j : Nat, ∃ p : List Int × List Gate, j ≤ 63 ∧ x = .int .i64 j ∧ Hid (reluTo 128 q.1 t.1 q.2 j = p) ∧ MkAt (w.heap.size + 1 + 1) (w.heap.size + 1) wq 128 p.2 ∧ wq.heap[w.heap.size]? = some (.cells #[.int .i64 0, .slice none 0 0, .slice none 0 0] 117 (0, 0)) ∧
      wq.heap[w.heap.size + 1 + 1]? = some (.cells (ints (pad2 t.1)).toArray 172 (0, 0)) ∧ wq.heap[br]? = some (.cells (ints (pad p.1)).toArray 171 (0, 0)) ∧ Below w.heap.size w wq) (fun x _ => 63 - (intOf x).toNat)
    case atStart => exact ⟨0, _, by omega, rfl, rfl, m2, H2.out.2.1, H2.out.1, H2.out.2.2, B2⟩
    case round =>
      obtain ⟨j, p, hj, rfl, HP, hm, hC, hX, hR, hb⟩ := hrel
      have hjx : j ≤ 63 → j < t.1.length := by omega
      have hpl : p.1.length = j ∧ p.2.length = q.2.length + j := by have := reluTo_len 128 q.1 t.1 q.2 j; rw [HP.out] at this; exact this
      have hsr2 := hb.size
      by_cases hjl : j < 63
      · have c1 := pad2_cell hX (k := j) (hjx hj)
        have hp2 : p.2.length ≤ 90000 := by omega
        have HPL := Lib.hid hpl
        clear hpl
        have G := Lib.hid (And.intro hX (And.intro hC hR))
        clear hX hC hR
        go_wp2_with fail
        have A := gt_any _ _ 128 p.2 2 q.1 (t.1[j]'(hjx hj)) _ hm (by omega) (by omega)
        refine A.mono ?_
        rintro e w3 ⟨rfl, m3, t3⟩
        have X3 := t3.keep G.out.1 (by decide) (by omega)
        have C3 := t3.keep G.out.2.1 (by decide) (by omega)
        have R3 := t3.row G.out.2.2 (by omega)
        have B3 := hb.trans (t3.below (B := w.heap.size) (by omega) (by omega) (by omega))
        have d1 := pad_cell R3 HPL.out.1 (by omega)
        have d2 := frozen_of_row w3 br j _ _ R3
        have G3 := Lib.hid (And.intro X3 (And.intro C3 R3))
        clear X3 C3 R3 A
        go_wp2_with fail
        go_roundw
        case rel =>
          refine ⟨j + 1, _, by omega, by go_num, reluTo_succ 128 q.1 t.1 q.2 j (hjx (by omega)) p HP.out, m3.setCell G3.out.2.2 _ _, ?_, ?_, store_pad G3.out.2.2 j HPL.out.1 (by omega) _, B3.setCell (by simp; omega) _⟩
          · rw [heap_setCell_other' (by omega)]; exact G3.out.2.1
          · rw [heap_setCell_other' (by omega)]; exact G3.out.1
        case measure => simp [intOf]; omega
      · obtain rfl : j = 63 := by omega
        obtain ⟨_, _, gv, hh, hown⟩ := hm
        have d1 := pad_cell hR hpl.1 (by omega)
        have d2 := frozen_of_row wr br 63 _ _ hR
        have hgv1 := owns_one hown
        have hgl := hpl.2
        have hp1 := hpl.1
        have hw1 : ∀ v, (wr.setCell ⟨br, 63, none⟩ v).heap[w.heap.size + 1]? = some (.cells #[.int .i64 128, gv, .slice none 0 0] 169 (0, 0)) := fun v => (heap_setCell_other' (by omega) v).trans hh
        have hw0 : ∀ v, (wr.setCell ⟨br, 63, none⟩ v).heap[w.heap.size]? = some (.cells #[.int .i64 0, .slice none 0 0, .slice none 0 0] 117 (0, 0)) := fun v => (heap_setCell_other' (by omega) v).trans hC
        have e1 : ∀ v, (wr.setCell ⟨br, 63, none⟩ v).cell? ⟨w.heap.size + 1, 2, none⟩ = some (.slice none 0 0) := fun v => (cell_of_row _ _ _ _ _ _ (hw1 v)).trans rfl
        have e2 : ∀ v, (wr.setCell ⟨br, 63, none⟩ v).frozen? ⟨w.heap.size + 1, 2, none⟩ = false := fun v => frozen_of_row _ _ _ _ _ (hw1 v)
        have hv1 : ∀ v u, ((wr.setCell ⟨br, 63, none⟩ v).setCell ⟨w.heap.size + 1, 2, none⟩ u).heap[w.heap.size + 1]? = some (.cells #[.int .i64 128, gv, u] 169 (0, 0)) := fun v u => by have := heap_setCell (j := 2) (hw1 v) u; simpa using this
        have hv0 : ∀ v u, ((wr.setCell ⟨br, 63, none⟩ v).setCell ⟨w.heap.size + 1, 2, none⟩ u).heap[w.heap.size]? = some (.cells #[.int .i64 0, .slice none 0 0, .slice none 0 0] 117 (0, 0)) := fun v u => (heap_setCell_other' (by omega) u).trans (hw0 v)
        have HV := Lib.hid (And.intro hv1 hv0)
        have HK := Lib.hid (And.intro hR (And.intro hh hown))
        have HN := Lib.hid (And.intro hp1 hgl)
        clear hw1 hw0 hv1 hv0 hpl hp1 hgl hX hh hown hR hC
        go_wp2_with (first | ((with_reducible show wpList _ _ _ (⟨_, Op.load _ (.tmp 129), _, _, _, _⟩ :: _) _ _); refine wpList_load_row rfl 117 _ rfl (w.heap.size + 1) rfl 169 _ _ _ (HV.out.1 _ _) Tryz.underlying117 rfl info_circuit ?_) | ((with_reducible show wpList _ _ _ (⟨_, Op.store _ (.tmp 4) (.tmp 130), _, _, _, _⟩ :: _) _ _); refine wpList_store_row rfl 117 _ _ rfl w.heap.size _ rfl rfl 117 _ (HV.out.2 _ _) info_circuit rfl (all_oneCell_toArray (by intro u hu; simp at hu; rcases hu with rfl | rfl | rfl <;> first | rfl | exact hgv1)) ?_))
        refine bodyPost_ret (results_cell_tmp rfl _ _ w.heap.size 117 _ _ _ rfl (setRow_heap _ _ _ _ _ _ (HV.out.2 _ _)) Tryz.underlying117 rfl info_circuit) rfl ?_
        unfold MadeCirc
        rw [mMake_relu 0 t HT.out (by omega) z q hz'.out hq'.out p HP.out]
        have hlen : (p.1 ++ [z.1]).length = 64 := by simp [HN.out.1]
        have r1 := store_pad HK.out.1 63 HN.out.1 (by omega) z.1
        rw [pad_full _ hlen] at r1
        have hbr : br ≠ w.heap.size + 1 := by omega
        refine ⟨gv, _, rfl, ?_, outs_arr (br := br) (t := 171) (fr := (0, 0)) ?_ hlen, below_setRow ((hb.setCell (by simp; omega) _).setCell (by simp) _) (Nat.le_refl _) _⟩
        · refine owns_base (owns_same HK.out.2.2 (fun g cur hg hbg => ?_)) (by omega)
          have hgr : g ≠ br := by intro e; subst e; rw [HK.out.1] at hg; simp at hg
          rw [setRow_other _ _ _ _ (by omega), heap_setCell_other' (by omega), heap_setCell_other' hgr]
        · rw [setRow_other _ _ _ _ (by omega), heap_setCell_other' hbr]; exact r1
end Go.Proofs.YtjbhgimhcjcpmaaGreatDoor

/-
  THE CONTRACT of circ.Make at kind 1 and forms 1.
-/
namespace Go.Proofs.YtjbhgimhcjcpmaaGreatDoor
open Go.RowKit

set_option maxHeartbeats 4000000 in
set_option maxRecDepth 100000 in
theorem make_11 (w : World) :
    Calls Tryz.prog 67 #[.int .i64 1, .int .u64 1] w (MadeCirc w 1 1) := by
  go_enter Tryz.func67, Tryz.ntmps67
  go_wp2_with fail
  go_loopw [37] (fun x wr => ∃ k : Nat, ∃ t : List Int × List Gate, k ≤ 1 ∧ x = .int .i64 k ∧ Hid (mOps 128 1 k = t) ∧ MkAt (w.heap.size + 1 + 1) (w.heap.size + 1) wr 128 t.2 ∧ wr.heap[w.heap.size]? = some (.cells #[.int .i64 0, .slice none 0 0, .slice none 0 0] 117 (0, 0)) ∧
      wr.heap[w.heap.size + 1 + 1]? = some (.cells (ints (pad2 t.1)).toArray 172 (0, 0)) ∧ Below w.heap.size w wr) (fun x _ => 2 - (intOf x).toNat)
  case atStart =>
    have H := three w (.cells #[.int .i64 0, .slice none 0 0, .slice none 0 0] 117) (.cells #[.int .i64 128, .slice none 0 0, .slice none 0 0] 169) (.cells Tryz.zeroCells172 172)
    refine ⟨0, _, by omega, rfl, rfl, ⟨by omega, ?_, _, H.2.1, World.ownsRow_nil _ _ _ _⟩, H.1, ?_, H.2.2.2⟩
    · simp
    · show _ = some (Obj.cells (ints (pad2 [])).toArray _ _)
      rw [pad2_zero]; exact H.2.2.1
  case round =>
    obtain ⟨k, t, hk, rfl, HT, hm, hC, hX, hb⟩ := hrel
    have ht1 : t.1.length = 64 * k := by have := (mOps_len 128 1 k).1; rw [HT.out] at this; exact this
    have hlt : t.2.length ≤ 70000 := by have := (mOps_len 128 1 k).2; rw [HT.out] at this; omega
    have hsr := hb.size
    by_cases hk0 : k = 0
    · subst hk0
      go_wp2_with fail
      refine (input_any _ _ _ (by omega) (by omega)).mono ?_
      rintro e w1 ⟨rfl, hb1⟩
      go_wp2_with fail
      refine (input_any _ _ _ (by omega) (by omega)).mono ?_
      rintro e w2 ⟨rfl, hb2⟩
      go_wp2_with (first | ((with_reducible show wpList _ _ _ (⟨_, Op.store _ (.tmp 10) _, _, _, _, _⟩ :: _) _ _); refine wp_rows2 (.tmp 10) (.tmp 43) (.tmp 11) (.tmp 48) rfl rfl rfl rfl rfl _ _ _ _ rfl (mInput_len _ _) (mInput_len _ _) rfl rfl rfl rfl ?_; intro W4 k1 k2 kb) | ((with_reducible show wpList _ _ _ (⟨_, Op.load _ (.tmp 10), _, _, _, _⟩ :: _) _ _); refine wpList_load_row rfl 171 _ rfl w2.heap.size rfl 171 _ _ _ k1 Tryz.underlying171 rfl (info_rowOf _ (mInput_len _ _)) ?_) | ((with_reducible show wpList _ _ _ (⟨_, Op.load _ (.tmp 11), _, _, _, _⟩ :: _) _ _); refine wpList_load_row rfl 171 _ rfl (w2.heap.size + 1) rfl 171 _ _ _ k2 Tryz.underlying171 rfl (info_rowOf _ (mInput_len _ _)) ?_))
      have hmW := ((hm.below hb1).below hb2).below kb
      have hbl := ((hb1.trans (hb2.mono hb1.size)).trans (kb.mono (Nat.le_trans hb1.size hb2.size)))
      have hbW := (((hb.trans (hb1.mono hb.size)).trans (hb2.mono (Nat.le_trans hb.size hb1.size))).trans (kb.mono (Nat.le_trans (Nat.le_trans hb.size hb1.size) hb2.size)))
      have hs0 : ∃ s0, xorTo 128 (mInput 0 64) (mInput 1 64) t.2 64 = s0 := ⟨_, rfl⟩
      obtain ⟨s0, hs0⟩ := hs0
      have A := xor_any _ _ 128 t.2 (mInput 0 64) (mInput 1 64) W4 (mInput_len _ _) (mInput_len _ _) hmW (by omega) (Nat.le_trans hlt (by decide))
      have hl0 := (xorTo_len 128 (mInput 0 64) (mInput 1 64) t.2 64).1
      rw [hs0] at A hl0
      have HS := Lib.hid hs0
      clear hs0
      refine A.mono ?_
      rintro e w5 ⟨rfl, m5, t5⟩
      have hsr := hb.size
      have x5 := t5.keep ((hbl.block _ (lt_of_block hX)).trans hX) (by decide) (by omega)
      have y5 := t5.keep ((hbl.block _ (lt_of_block hC)).trans hC) (by decide) (by omega)
      have hb5 := t5.below (B := w.heap.size) (by have := hbW.size; omega) (by omega) (by omega)
      clear A k1 k2 hb1 hb2 kb hX hC hm
      go_wp2_with ((with_reducible show wpList _ _ _ (⟨_, Op.store _ (.tmp 59) _, _, _, _, _⟩ :: _) _ _); refine wp_storeX (.tmp 59) (.tmp 58) rfl rfl (w.heap.size + 1 + 1) 0 t.1 s0.1 ht1 (by omega) hl0 x5 rfl rfl ?_; intro W6 x6 o6 z6 b6 g6)
      go_roundw
      case rel =>
        refine ⟨1, (t.1 ++ s0.1, s0.2), by omega, rfl, mOps_xor 128 1 0 t HT.out rfl s0 HS.out, g6 _ _ _ _ m5, (o6 _ (by omega)).trans y5, x6, b6 _ _ (by omega) (hbW.trans hb5)⟩
      case measure => simp [intOf]
    obtain rfl : k = 1 := by omega
    have hsX := lt_of_block hX
    have hbm : MkAt (w.heap.size + 1 + 1) (w.heap.size + 1) (wr.alloc (.cells (ints (pad [])).toArray 171)) 128 t.2 := hm.below ((Below.refl _ _).alloc (Nat.le_refl _) _)
    have hX' := (heap_alloc_old wr (.cells (ints (pad [])).toArray 171) (lt_of_block hX)).trans hX
    have hC' := (heap_alloc_old wr (.cells (ints (pad [])).toArray 171) (lt_of_block hC)).trans hC
    have hR' := heap_alloc_new wr (.cells (ints (pad [])).toArray 171)
    have hb' := hb.alloc hsr (.cells (ints (pad [])).toArray 171)
    have A := gt_any _ _ 128 t.2 1 0 0 _ hbm (by omega) (by omega)
    clear hX hC hm hb
    go_wp2_with fail
    refine A.mono ?_
    have hlz := gt_len 128 1 0 0 t.2
    have hz : ∃ z, gt 128 1 0 0 t.2 = z := ⟨_, rfl⟩
    obtain ⟨z, hz⟩ := hz
    rw [hz] at hlz ⊢
    rintro e w1 ⟨rfl, m1, t1⟩
    have X1 := t1.keep hX' (by decide) (by omega)
    have C1 := t1.keep hC' (by decide) (by omega)
    have R1 := t1.row hR' (by omega)
    have B1 := hb'.trans (t1.below (B := w.heap.size) (by simp; omega) (by omega) (by omega))
    have s1 := t1.size
    simp only [World.size_alloc] at s1
    have c63 := pad2_cell X1 (k := 63) (by omega)
    have hz' := Lib.hid hz
    have HX1 := Lib.hid X1
    have HC1 := Lib.hid C1
    have HR1 := Lib.hid R1
    clear hz hX' hC' hR' hb' t1 A hbm X1 C1 R1
    go_wp2_with fail
    have A := gt_any _ _ 128 z.2 3 t.1[63] 0 _ m1 (by omega) (by omega)
    refine A.mono ?_
    have hlk := gt_len 128 3 t.1[63] 0 z.2
    have hq : ∃ q, gt 128 3 t.1[63] 0 z.2 = q := ⟨_, rfl⟩
    obtain ⟨q, hq⟩ := hq
    rw [hq] at hlk ⊢
    rintro e w2 ⟨rfl, m2, t2⟩
    have X2 := t2.keep HX1.out (by decide) (by omega)
    have C2 := t2.keep HC1.out (by decide) (by omega)
    have R2 := t2.row HR1.out (by omega)
    have B2 := B1.trans (t2.below (B := w.heap.size) (by omega) (by omega) (by omega))
    have s2 := t2.size
    have hq' := Lib.hid hq
    have H2 := Lib.hid (And.intro X2 (And.intro C2 R2))
    clear hq HX1 HC1 HR1 X2 C2 R2 c63 A m1
    go_wp2_with fail
    generalize hbr : wr.heap.size = br at s1 hsX H2 ⊢
    clear hbr
    go_loopw [77] (fun x wq => ∃ j : Nat, ∃ p : List Int × List Gate, j ≤ 63 ∧ x = .int .i64 j ∧ Hid (reluTo 128 q.1 t.1 q.2 j = p) ∧ MkAt (w.heap.size + 1 + 1) (w.heap.size + 1) wq 128 p.2 ∧ wq.heap[w.heap.size]? = some (.cells #[.int .i64 0, .slice none 0 0, .slice none 0 0] 117 (0, 0)) ∧
      wq.heap[w.heap.size + 1 + 1]? = some (.cells (ints (pad2 t.1)).toArray 172 (0, 0)) ∧ wq.heap[br]? = some (.cells (ints (pad p.1)).toArray 171 (0, 0)) ∧ Below w.heap.size w wq) (fun x _ => 63 - (intOf x).toNat)
    case atStart => exact ⟨0, _, by omega, rfl, rfl, m2, H2.out.2.1, H2.out.1, H2.out.2.2, B2⟩
    case round =>
      obtain ⟨j, p, hj, rfl, HP, hm, hC, hX, hR, hb⟩ := hrel
      have hjx : j ≤ 63 → j < t.1.length := by omega
      have hpl : p.1.length = j ∧ p.2.length = q.2.length + j := by have := reluTo_len 128 q.1 t.1 q.2 j; rw [HP.out] at this; exact this
      have hsr2 := hb.size
      by_cases hjl : j < 63
      · have c1 := pad2_cell hX (k := j) (hjx hj)
        have hp2 : p.2.length ≤ 90000 := by omega
        have HPL := Lib.hid hpl
        clear hpl
        have G := Lib.hid (And.intro hX (And.intro hC hR))
        clear hX hC hR
        go_wp2_with fail
        have A := gt_any _ _ 128 p.2 2 q.1 (t.1[j]'(hjx hj)) _ hm (by omega) (by omega)
        refine A.mono ?_
        rintro e w3 ⟨rfl, m3, t3⟩
        have X3 := t3.keep G.out.1 (by decide) (by omega)
        have C3 := t3.keep G.out.2.1 (by decide) (by omega)
        have R3 := t3.row G.out.2.2 (by omega)
        have B3 := hb.trans (t3.below (B := w.heap.size) (by omega) (by omega) (by omega))
        have d1 := pad_cell R3 HPL.out.1 (by omega)
        have d2 := frozen_of_row w3 br j _ _ R3
        have G3 := Lib.hid (And.intro X3 (And.intro C3 R3))
        clear X3 C3 R3 A
        go_wp2_with fail
        go_roundw
        case rel =>
          refine ⟨j + 1, _, by omega, by go_num, reluTo_succ 128 q.1 t.1 q.2 j (hjx (by omega)) p HP.out, m3.setCell G3.out.2.2 _ _, ?_, ?_, store_pad G3.out.2.2 j HPL.out.1 (by omega) _, B3.setCell (by simp; omega) _⟩
          · rw [heap_setCell_other' (by omega)]; exact G3.out.2.1
          · rw [heap_setCell_other' (by omega)]; exact G3.out.1
        case measure => simp [intOf]; omega
      · obtain rfl : j = 63 := by omega
        obtain ⟨_, _, gv, hh, hown⟩ := hm
        have d1 := pad_cell hR hpl.1 (by omega)
        have d2 := frozen_of_row wr br 63 _ _ hR
        have hgv1 := owns_one hown
        have hgl := hpl.2
        have hp1 := hpl.1
        have hw1 : ∀ v, (wr.setCell ⟨br, 63, none⟩ v).heap[w.heap.size + 1]? = some (.cells #[.int .i64 128, gv, .slice none 0 0] 169 (0, 0)) := fun v => (heap_setCell_other' (by omega) v).trans hh
        have hw0 : ∀ v, (wr.setCell ⟨br, 63, none⟩ v).heap[w.heap.size]? = some (.cells #[.int .i64 0, .slice none 0 0, .slice none 0 0] 117 (0, 0)) := fun v => (heap_setCell_other' (by omega) v).trans hC
        have e1 : ∀ v, (wr.setCell ⟨br, 63, none⟩ v).cell? ⟨w.heap.size + 1, 2, none⟩ = some (.slice none 0 0) := fun v => (cell_of_row _ _ _ _ _ _ (hw1 v)).trans rfl
        have e2 : ∀ v, (wr.setCell ⟨br, 63, none⟩ v).frozen? ⟨w.heap.size + 1, 2, none⟩ = false := fun v => frozen_of_row _ _ _ _ _ (hw1 v)
        have hv1 : ∀ v u, ((wr.setCell ⟨br, 63, none⟩ v).setCell ⟨w.heap.size + 1, 2, none⟩ u).heap[w.heap.size + 1]? = some (.cells #[.int .i64 128, gv, u] 169 (0, 0)) := fun v u => by have := heap_setCell (j := 2) (hw1 v) u; simpa using this
        have hv0 : ∀ v u, ((wr.setCell ⟨br, 63, none⟩ v).setCell ⟨w.heap.size + 1, 2, none⟩ u).heap[w.heap.size]? = some (.cells #[.int .i64 0, .slice none 0 0, .slice none 0 0] 117 (0, 0)) := fun v u => (heap_setCell_other' (by omega) u).trans (hw0 v)
        have HV := Lib.hid (And.intro hv1 hv0)
        have HK := Lib.hid (And.intro hR (And.intro hh hown))
        have HN := Lib.hid (And.intro hp1 hgl)
        clear hw1 hw0 hv1 hv0 hpl hp1 hgl hX hh hown hR hC
        go_wp2_with (first | ((with_reducible show wpList _ _ _ (⟨_, Op.load _ (.tmp 129), _, _, _, _⟩ :: _) _ _); refine wpList_load_row rfl 117 _ rfl (w.heap.size + 1) rfl 169 _ _ _ (HV.out.1 _ _) Tryz.underlying117 rfl info_circuit ?_) | ((with_reducible show wpList _ _ _ (⟨_, Op.store _ (.tmp 4) (.tmp 130), _, _, _, _⟩ :: _) _ _); refine wpList_store_row rfl 117 _ _ rfl w.heap.size _ rfl rfl 117 _ (HV.out.2 _ _) info_circuit rfl (all_oneCell_toArray (by intro u hu; simp at hu; rcases hu with rfl | rfl | rfl <;> first | rfl | exact hgv1)) ?_))
        refine bodyPost_ret (results_cell_tmp rfl _ _ w.heap.size 117 _ _ _ rfl (setRow_heap _ _ _ _ _ _ (HV.out.2 _ _)) Tryz.underlying117 rfl info_circuit) rfl ?_
        unfold MadeCirc
        rw [mMake_relu 1 t HT.out (by omega) z q hz'.out hq'.out p HP.out]
        have hlen : (p.1 ++ [z.1]).length = 64 := by simp [HN.out.1]
        have r1 := store_pad HK.out.1 63 HN.out.1 (by omega) z.1
        rw [pad_full _ hlen] at r1
        have hbr : br ≠ w.heap.size + 1 := by omega
        refine ⟨gv, _, rfl, ?_, outs_arr (br := br) (t := 171) (fr := (0, 0)) ?_ hlen, below_setRow ((hb.setCell (by simp; omega) _).setCell (by simp) _) (Nat.le_refl _) _⟩
        · refine owns_base (owns_same HK.out.2.2 (fun g cur hg hbg => ?_)) (by omega)
          have hgr : g ≠ br := by intro e; subst e; rw [HK.out.1] at hg; simp at hg
          rw [setRow_other _ _ _ _ (by omega), heap_setCell_other' (by omega), heap_setCell_other' hgr]
        · rw [setRow_other _ _ _ _ (by omega), heap_setCell_other' hbr]; exact r1
end Go.Proofs.YtjbhgimhcjcpmaaGreatDoor

/-
  THE CONTRACT of circ.Make at kind 2 and forms 0.
-/
namespace Go.Proofs.YtjbhgimhcjcpmaaGreatDoor
open Go.RowKit

set_option maxHeartbeats 4000000 in
set_option maxRecDepth 100000 in
theorem make_20 (w : World) :
    Calls Tryz.prog 67 #[.int .i64 2, .int .u64 0] w (MadeCirc w 2 0) := by
  go_enter Tryz.func67, Tryz.ntmps67
  go_wp2_with fail
  go_loopw [37] (fun x wr => ∃ k : Nat, ∃ t : List Int × List Gate, k ≤ 2 ∧ x = .int .i64 k ∧ Hid (mOps 256 0 k = t) ∧ MkAt (w.heap.size + 1 + 1) (w.heap.size + 1) wr 256 t.2 ∧ wr.heap[w.heap.size]? = some (.cells #[.int .i64 0, .slice none 0 0, .slice none 0 0] 117 (0, 0)) ∧
      wr.heap[w.heap.size + 1 + 1]? = some (.cells (ints (pad2 t.1)).toArray 172 (0, 0)) ∧ Below w.heap.size w wr) (fun x _ => 3 - (intOf x).toNat)
  case atStart =>
    have H := three w (.cells #[.int .i64 0, .slice none 0 0, .slice none 0 0] 117) (.cells #[.int .i64 256, .slice none 0 0, .slice none 0 0] 169) (.cells Tryz.zeroCells172 172)
    refine ⟨0, _, by omega, rfl, rfl, ⟨by omega, ?_, _, H.2.1, World.ownsRow_nil _ _ _ _⟩, H.1, ?_, H.2.2.2⟩
    · simp
    · show _ = some (Obj.cells (ints (pad2 [])).toArray _ _)
      rw [pad2_zero]; exact H.2.2.1
  case round =>
    obtain ⟨k, t, hk, rfl, HT, hm, hC, hX, hb⟩ := hrel
    have ht1 : t.1.length = 64 * k := by have := (mOps_len 256 0 k).1; rw [HT.out] at this; exact this
    have hlt : t.2.length ≤ 70000 := by have := (mOps_len 256 0 k).2; rw [HT.out] at this; omega
    have hsr := hb.size
    by_cases hk0 : k = 0
    · subst hk0
      go_wp2_with fail
      refine (input_any _ _ _ (by omega) (by omega)).mono ?_
      rintro e w1 ⟨rfl, hb1⟩
      go_wp2_with fail
      refine (input_any _ _ _ (by omega) (by omega)).mono ?_
      rintro e w2 ⟨rfl, hb2⟩
      go_wp2_with (first | ((with_reducible show wpList _ _ _ (⟨_, Op.store _ (.tmp 10) _, _, _, _, _⟩ :: _) _ _); refine wp_rows2 (.tmp 10) (.tmp 43) (.tmp 11) (.tmp 48) rfl rfl rfl rfl rfl _ _ _ _ rfl (mInput_len _ _) (mInput_len _ _) rfl rfl rfl rfl ?_; intro W4 k1 k2 kb) | ((with_reducible show wpList _ _ _ (⟨_, Op.load _ (.tmp 10), _, _, _, _⟩ :: _) _ _); refine wpList_load_row rfl 171 _ rfl w2.heap.size rfl 171 _ _ _ k1 Tryz.underlying171 rfl (info_rowOf _ (mInput_len _ _)) ?_) | ((with_reducible show wpList _ _ _ (⟨_, Op.load _ (.tmp 11), _, _, _, _⟩ :: _) _ _); refine wpList_load_row rfl 171 _ rfl (w2.heap.size + 1) rfl 171 _ _ _ k2 Tryz.underlying171 rfl (info_rowOf _ (mInput_len _ _)) ?_))
      have hmW := ((hm.below hb1).below hb2).below kb
      have hbl := ((hb1.trans (hb2.mono hb1.size)).trans (kb.mono (Nat.le_trans hb1.size hb2.size)))
      have hbW := (((hb.trans (hb1.mono hb.size)).trans (hb2.mono (Nat.le_trans hb.size hb1.size))).trans (kb.mono (Nat.le_trans (Nat.le_trans hb.size hb1.size) hb2.size)))
      have hs0 : ∃ s0, addTo 256 (mInput 0 64) (mInput 1 64) t.2 63 = s0 := ⟨_, rfl⟩
      obtain ⟨s0, hs0⟩ := hs0
      have A := add_any _ _ 256 t.2 (mInput 0 64) (mInput 1 64) W4 (mInput_len _ _) (mInput_len _ _) hmW (by omega) (Nat.le_trans hlt (by decide))
      have hl0 := (addTo_len 256 (mInput 0 64) (mInput 1 64) t.2 63).1
      rw [hs0] at A hl0
      have HS := Lib.hid hs0
      clear hs0
      refine A.mono ?_
      rintro e w5 ⟨rfl, m5, t5⟩
      have hsr := hb.size
      have x5 := t5.keep ((hbl.block _ (lt_of_block hX)).trans hX) (by decide) (by omega)
      have y5 := t5.keep ((hbl.block _ (lt_of_block hC)).trans hC) (by decide) (by omega)
      have hb5 := t5.below (B := w.heap.size) (by have := hbW.size; omega) (by omega) (by omega)
      clear A k1 k2 hb1 hb2 kb hX hC hm
      go_wp2_with ((with_reducible show wpList _ _ _ (⟨_, Op.store _ (.tmp 65) _, _, _, _, _⟩ :: _) _ _); refine wp_storeX (.tmp 65) (.tmp 64) rfl rfl (w.heap.size + 1 + 1) 0 t.1 s0.1 ht1 (by omega) hl0 x5 rfl rfl ?_; intro W6 x6 o6 z6 b6 g6)
      go_roundw
      case rel =>
        refine ⟨1, (t.1 ++ s0.1, s0.2.2), by omega, rfl, mOps_add 256 0 0 t HT.out rfl s0 HS.out, g6 _ _ _ _ m5, (o6 _ (by omega)).trans y5, x6, b6 _ _ (by omega) (hbW.trans hb5)⟩
      case measure => simp [intOf]
    by_cases hk1 : k = 1
    · subst hk1
      go_wp2_with fail
      refine (input_any _ _ _ (by omega) (by omega)).mono ?_
      rintro e w1 ⟨rfl, hb1⟩
      go_wp2_with fail
      refine (input_any _ _ _ (by omega) (by omega)).mono ?_
      rintro e w2 ⟨rfl, hb2⟩
      go_wp2_with (first | ((with_reducible show wpList _ _ _ (⟨_, Op.store _ (.tmp 10) _, _, _, _, _⟩ :: _) _ _); refine wp_rows2 (.tmp 10) (.tmp 43) (.tmp 11) (.tmp 48) rfl rfl rfl rfl rfl _ _ _ _ rfl (mInput_len _ _) (mInput_len _ _) rfl rfl rfl rfl ?_; intro W4 k1 k2 kb) | ((with_reducible show wpList _ _ _ (⟨_, Op.load _ (.tmp 10), _, _, _, _⟩ :: _) _ _); refine wpList_load_row rfl 171 _ rfl w2.heap.size rfl 171 _ _ _ k1 Tryz.underlying171 rfl (info_rowOf _ (mInput_len _ _)) ?_) | ((with_reducible show wpList _ _ _ (⟨_, Op.load _ (.tmp 11), _, _, _, _⟩ :: _) _ _); refine wpList_load_row rfl 171 _ rfl (w2.heap.size + 1) rfl 171 _ _ _ k2 Tryz.underlying171 rfl (info_rowOf _ (mInput_len _ _)) ?_))
      have hmW := ((hm.below hb1).below hb2).below kb
      have hbl := ((hb1.trans (hb2.mono hb1.size)).trans (kb.mono (Nat.le_trans hb1.size hb2.size)))
      have hbW := (((hb.trans (hb1.mono hb.size)).trans (hb2.mono (Nat.le_trans hb.size hb1.size))).trans (kb.mono (Nat.le_trans (Nat.le_trans hb.size hb1.size) hb2.size)))
      have hs0 : ∃ s0, addTo 256 (mInput 2 64) (mInput 3 64) t.2 63 = s0 := ⟨_, rfl⟩
      obtain ⟨s0, hs0⟩ := hs0
      have A := add_any _ _ 256 t.2 (mInput 2 64) (mInput 3 64) W4 (mInput_len _ _) (mInput_len _ _) hmW (by omega) (Nat.le_trans hlt (by decide))
      have hl0 := (addTo_len 256 (mInput 2 64) (mInput 3 64) t.2 63).1
      rw [hs0] at A hl0
      have HS := Lib.hid hs0
      clear hs0
      refine A.mono ?_
      rintro e w5 ⟨rfl, m5, t5⟩
      have hsr := hb.size
      have x5 := t5.keep ((hbl.block _ (lt_of_block hX)).trans hX) (by decide) (by omega)
      have y5 := t5.keep ((hbl.block _ (lt_of_block hC)).trans hC) (by decide) (by omega)
      have hb5 := t5.below (B := w.heap.size) (by have := hbW.size; omega) (by omega) (by omega)
      clear A k1 k2 hb1 hb2 kb hX hC hm
      go_wp2_with ((with_reducible show wpList _ _ _ (⟨_, Op.store _ (.tmp 65) _, _, _, _, _⟩ :: _) _ _); refine wp_storeX (.tmp 65) (.tmp 64) rfl rfl (w.heap.size + 1 + 1) 1 t.1 s0.1 ht1 (by omega) hl0 x5 rfl rfl ?_; intro W6 x6 o6 z6 b6 g6)
      go_roundw
      case rel =>
        refine ⟨2, (t.1 ++ s0.1, s0.2.2), by omega, rfl, mOps_add 256 0 1 t HT.out rfl s0 HS.out, g6 _ _ _ _ m5, (o6 _ (by omega)).trans y5, x6, b6 _ _ (by omega) (hbW.trans hb5)⟩
      case measure => simp [intOf]
    obtain rfl : k = 2 := by omega
    have hsX := lt_of_block hX
    have hbm : MkAt (w.heap.size + 1 + 1) (w.heap.size + 1) (wr.alloc (.cells (ints (pad [])).toArray 171)) 256 t.2 := hm.below ((Below.refl _ _).alloc (Nat.le_refl _) _)
    have hX' := (heap_alloc_old wr (.cells (ints (pad [])).toArray 171) (lt_of_block hX)).trans hX
    have hC' := (heap_alloc_old wr (.cells (ints (pad [])).toArray 171) (lt_of_block hC)).trans hC
    have hR' := heap_alloc_new wr (.cells (ints (pad [])).toArray 171)
    have hb' := hb.alloc hsr (.cells (ints (pad [])).toArray 171)
    have A := gt_any _ _ 256 t.2 1 0 0 _ hbm (by omega) (by omega)
    clear hX hC hm hb
    go_wp2_with fail
    refine A.mono ?_
    have hlz := gt_len 256 1 0 0 t.2
    have hz : ∃ z, gt 256 1 0 0 t.2 = z := ⟨_, rfl⟩
    obtain ⟨z, hz⟩ := hz
    rw [hz] at hlz ⊢
    rintro e w1 ⟨rfl, m1, t1⟩
    have X1 := t1.keep hX' (by decide) (by omega)
    have C1 := t1.keep hC' (by decide) (by omega)
    have R1 := t1.row hR' (by omega)
    have B1 := hb'.trans (t1.below (B := w.heap.size) (by simp; omega) (by omega) (by omega))
    have s1 := t1.size
    simp only [World.size_alloc] at s1
    have hz2 : z.2.length ≤ 80000 := by omega
    have hz' := Lib.hid hz
    have X1r := pad2_range X1 (by omega)
    have H2 := Lib.hid (And.intro X1 (And.intro C1 R1))
    clear hz hX' hC' hR' hb' t1 A hbm X1 C1 R1 X1r
    go_wp2_with fail
    generalize hbr : wr.heap.size = br at s1 hsX H2 ⊢
    clear hbr
    go_loopw [94] (fun x wq => ∃ j : Nat, j ≤ 64 ∧ x = .int .i64 j ∧ MkAt (w.heap.size + 1 + 1) (w.heap.size + 1) wq 256 z.2 ∧ wq.heap[w.heap.size]? = some (.cells #[.int .i64 0, .slice none 0 0, .slice none 0 0] 117 (0, 0)) ∧
      wq.heap[w.heap.size + 1 + 1]? = some (.cells (ints (pad2 t.1)).toArray 172 (0, 0)) ∧ wq.heap[br]? = some (.cells (ints (pad (List.replicate j z.1))).toArray 171 (0, 0)) ∧ Below w.heap.size w wq) (fun x _ => 64 - (intOf x).toNat)
    case atStart => exact ⟨0, by omega, rfl, m1, H2.out.2.1, H2.out.1, H2.out.2.2, B1⟩
    case round =>
      obtain ⟨j, hj, rfl, hm, hC, hX, hR, hb⟩ := hrel
      have hsr2 := hb.size
      by_cases hjl : j < 64
      · have d1 := pad_cell hR (List.length_replicate ..) hjl
        have d2 := frozen_of_row wr br j _ _ hR
        have G := Lib.hid (And.intro hX (And.intro hC hR))
        clear hX hC hR
        go_wp2_with fail
        go_roundw
        case rel =>
          have r1 := store_pad G.out.2.2 j (List.length_replicate ..) hjl z.1
          rw [← List.replicate_succ'] at r1
          refine ⟨j + 1, by omega, by go_num, hm.setCell G.out.2.2 _ _, ?_, ?_, r1, hb.setCell (by simp; omega) _⟩
          · rw [heap_setCell_other' (by omega)]; exact G.out.2.1
          · rw [heap_setCell_other' (by omega)]; exact G.out.1
        case measure => simp [intOf]; omega
      · obtain rfl : j = 64 := by omega
        rw [pad_full _ (List.length_replicate ..)] at hR
        have hr2 := pad2_range hX (by omega)
        have HR2 := Lib.hid hr2
        have G := Lib.hid (And.intro hX (And.intro hC hR))
        have hl1 : (t.1.take 64).length = 64 := by simp; omega
        have hl2 : (t.1.drop 64).length = 64 := by simp; omega
        have HL1 := Lib.hid hl1
        have HL2 := Lib.hid hl2
        clear hX hC hR hr2 hl1 hl2
        go_wp2_with (first | ((with_reducible show wpList _ _ _ (⟨_, Op.load _ (.tmp 102), _, _, _, _⟩ :: _) _ _); refine wpList_load_mid rfl 171 _ rfl (w.heap.size + 1 + 1) 0 rfl _ _ HR2.out.1 Tryz.underlying171 rfl (info_rowL _ HL1.out) ?_) | ((with_reducible show wpList _ _ _ (⟨_, Op.load _ (.tmp 104), _, _, _, _⟩ :: _) _ _); refine wpList_load_mid rfl 171 _ rfl (w.heap.size + 1 + 1) 64 rfl _ _ HR2.out.2 Tryz.underlying171 rfl (info_rowL _ HL2.out) ?_))
        have A := less_any _ _ 256 z.2 (t.1.take 64) (t.1.drop 64) _ HL1.out HL2.out hm (by omega) hz2
        have hll := mLess_len 256 (t.1.take 64) (t.1.drop 64) z.2
        obtain ⟨l, hl⟩ : ∃ l, mLess 256 (t.1.take 64) (t.1.drop 64) z.2 = l := ⟨_, rfl⟩
        rw [hl] at A hll
        have HLL := Lib.hid hl
        clear hl
        refine A.mono ?_
        rintro e w3 ⟨rfl, m3, t3⟩
        have X3 := t3.keep G.out.1 (by decide) (by omega)
        have hC := t3.keep G.out.2.1 (by decide) (by omega)
        have hR := t3.row G.out.2.2 (by omega)
        have B3 := hb.trans (t3.below (B := w.heap.size) (by omega) (by omega) (by omega))
        obtain ⟨_, _, gv, hh, hown⟩ := m3
        have d1 : w3.cell? ⟨br, 0, none⟩ = some (.int .i64 z.1) := row_cell hR (k := 0) (by simp)
        have d2 := frozen_of_row w3 br 0 _ _ hR
        clear A X3 hm
        have hgv1 := owns_one hown
        have hw1 : ∀ v, (w3.setCell ⟨br, 0, none⟩ v).heap[w.heap.size + 1]? = some (.cells #[.int .i64 256, gv, .slice none 0 0] 169 (0, 0)) := fun v => (heap_setCell_other' (by omega) v).trans hh
        have hw0 : ∀ v, (w3.setCell ⟨br, 0, none⟩ v).heap[w.heap.size]? = some (.cells #[.int .i64 0, .slice none 0 0, .slice none 0 0] 117 (0, 0)) := fun v => (heap_setCell_other' (by omega) v).trans hC
        have e1 : ∀ v, (w3.setCell ⟨br, 0, none⟩ v).cell? ⟨w.heap.size + 1, 2, none⟩ = some (.slice none 0 0) := fun v => (cell_of_row _ _ _ _ _ _ (hw1 v)).trans rfl
        have e2 : ∀ v, (w3.setCell ⟨br, 0, none⟩ v).frozen? ⟨w.heap.size + 1, 2, none⟩ = false := fun v => frozen_of_row _ _ _ _ _ (hw1 v)
        have hv1 : ∀ v u, ((w3.setCell ⟨br, 0, none⟩ v).setCell ⟨w.heap.size + 1, 2, none⟩ u).heap[w.heap.size + 1]? = some (.cells #[.int .i64 256, gv, u] 169 (0, 0)) := fun v u => by have := heap_setCell (j := 2) (hw1 v) u; simpa using this
        have hv0 : ∀ v u, ((w3.setCell ⟨br, 0, none⟩ v).setCell ⟨w.heap.size + 1, 2, none⟩ u).heap[w.heap.size]? = some (.cells #[.int .i64 0, .slice none 0 0, .slice none 0 0] 117 (0, 0)) := fun v u => (heap_setCell_other' (by omega) u).trans (hw0 v)
        have HV := Lib.hid (And.intro hv1 hv0)
        have HK := Lib.hid (And.intro hR (And.intro hh hown))
        clear hw1 hw0 hv1 hv0 hh hown hR hC
        go_wp2_with (first | ((with_reducible show wpList _ _ _ (⟨_, Op.load _ (.tmp 129), _, _, _, _⟩ :: _) _ _); refine wpList_load_row rfl 117 _ rfl (w.heap.size + 1) rfl 169 _ _ _ (HV.out.1 _ _) Tryz.underlying117 rfl info_circuit ?_) | ((with_reducible show wpList _ _ _ (⟨_, Op.store _ (.tmp 4) (.tmp 130), _, _, _, _⟩ :: _) _ _); refine wpList_store_row rfl 117 _ _ rfl w.heap.size _ rfl rfl 117 _ (HV.out.2 _ _) info_circuit rfl (all_oneCell_toArray (by intro u hu; simp at hu; rcases hu with rfl | rfl | rfl <;> first | rfl | exact hgv1)) ?_))
        refine bodyPost_ret (results_cell_tmp rfl _ _ w.heap.size 117 _ _ _ rfl (setRow_heap _ _ _ _ _ _ (HV.out.2 _ _)) Tryz.underlying117 rfl info_circuit) rfl ?_
        unfold MadeCirc
        rw [mMake_less 0 t HT.out z l hz'.out HLL.out]
        have hlen : (l.1 :: List.replicate 63 z.1).length = 64 := by simp
        have r1 := heap_setCell (j := 0) HK.out.1 (.int .i64 l.1)
        rw [set_first] at r1
        have hbr : br ≠ w.heap.size + 1 := by omega
        refine ⟨gv, _, rfl, ?_, outs_arr (br := br) (t := 171) (fr := (0, 0)) ?_ hlen, below_setRow ((B3.setCell (by simp; omega) _).setCell (by simp) _) (Nat.le_refl _) _⟩
        · refine owns_base (owns_same HK.out.2.2 (fun g cur hg hbg => ?_)) (by omega)
          have hgr : g ≠ br := by intro e; subst e; rw [HK.out.1] at hg; simp at hg
          rw [setRow_other _ _ _ _ (by omega), heap_setCell_other' (by omega), heap_setCell_other' hgr]
        · rw [setRow_other _ _ _ _ (by omega), heap_setCell_other' hbr]; exact r1
end Go.Proofs.YtjbhgimhcjcpmaaGreatDoor

/-
  THE CONTRACT of circ.Make at kind 2 and forms 1.
-/
namespace Go.Proofs.YtjbhgimhcjcpmaaGreatDoor
open Go.RowKit

set_option maxHeartbeats 4000000 in
set_option maxRecDepth 100000 in
theorem make_21 (w : World) :
    Calls Tryz.prog 67 #[.int .i64 2, .int .u64 1] w (MadeCirc w 2 1) := by
  go_enter Tryz.func67, Tryz.ntmps67
  go_wp2_with fail
  go_loopw [37] (fun x wr => ∃ k : Nat, ∃ t : List Int × List Gate, k ≤ 2 ∧ x = .int .i64 k ∧ Hid (mOps 256 1 k = t) ∧ MkAt (w.heap.size + 1 + 1) (w.heap.size + 1) wr 256 t.2 ∧ wr.heap[w.heap.size]? = some (.cells #[.int .i64 0, .slice none 0 0, .slice none 0 0] 117 (0, 0)) ∧
      wr.heap[w.heap.size + 1 + 1]? = some (.cells (ints (pad2 t.1)).toArray 172 (0, 0)) ∧ Below w.heap.size w wr) (fun x _ => 3 - (intOf x).toNat)
  case atStart =>
    have H := three w (.cells #[.int .i64 0, .slice none 0 0, .slice none 0 0] 117) (.cells #[.int .i64 256, .slice none 0 0, .slice none 0 0] 169) (.cells Tryz.zeroCells172 172)
    refine ⟨0, _, by omega, rfl, rfl, ⟨by omega, ?_, _, H.2.1, World.ownsRow_nil _ _ _ _⟩, H.1, ?_, H.2.2.2⟩
    · simp
    · show _ = some (Obj.cells (ints (pad2 [])).toArray _ _)
      rw [pad2_zero]; exact H.2.2.1
  case round =>
    obtain ⟨k, t, hk, rfl, HT, hm, hC, hX, hb⟩ := hrel
    have ht1 : t.1.length = 64 * k := by have := (mOps_len 256 1 k).1; rw [HT.out] at this; exact this
    have hlt : t.2.length ≤ 70000 := by have := (mOps_len 256 1 k).2; rw [HT.out] at this; omega
    have hsr := hb.size
    by_cases hk0 : k = 0
    · subst hk0
      go_wp2_with fail
      refine (input_any _ _ _ (by omega) (by omega)).mono ?_
      rintro e w1 ⟨rfl, hb1⟩
      go_wp2_with fail
      refine (input_any _ _ _ (by omega) (by omega)).mono ?_
      rintro e w2 ⟨rfl, hb2⟩
      go_wp2_with (first | ((with_reducible show wpList _ _ _ (⟨_, Op.store _ (.tmp 10) _, _, _, _, _⟩ :: _) _ _); refine wp_rows2 (.tmp 10) (.tmp 43) (.tmp 11) (.tmp 48) rfl rfl rfl rfl rfl _ _ _ _ rfl (mInput_len _ _) (mInput_len _ _) rfl rfl rfl rfl ?_; intro W4 k1 k2 kb) | ((with_reducible show wpList _ _ _ (⟨_, Op.load _ (.tmp 10), _, _, _, _⟩ :: _) _ _); refine wpList_load_row rfl 171 _ rfl w2.heap.size rfl 171 _ _ _ k1 Tryz.underlying171 rfl (info_rowOf _ (mInput_len _ _)) ?_) | ((with_reducible show wpList _ _ _ (⟨_, Op.load _ (.tmp 11), _, _, _, _⟩ :: _) _ _); refine wpList_load_row rfl 171 _ rfl (w2.heap.size + 1) rfl 171 _ _ _ k2 Tryz.underlying171 rfl (info_rowOf _ (mInput_len _ _)) ?_))
      have hmW := ((hm.below hb1).below hb2).below kb
      have hbl := ((hb1.trans (hb2.mono hb1.size)).trans (kb.mono (Nat.le_trans hb1.size hb2.size)))
      have hbW := (((hb.trans (hb1.mono hb.size)).trans (hb2.mono (Nat.le_trans hb.size hb1.size))).trans (kb.mono (Nat.le_trans (Nat.le_trans hb.size hb1.size) hb2.size)))
      have hs0 : ∃ s0, xorTo 256 (mInput 0 64) (mInput 1 64) t.2 64 = s0 := ⟨_, rfl⟩
      obtain ⟨s0, hs0⟩ := hs0
      have A := xor_any _ _ 256 t.2 (mInput 0 64) (mInput 1 64) W4 (mInput_len _ _) (mInput_len _ _) hmW (by omega) (Nat.le_trans hlt (by decide))
      have hl0 := (xorTo_len 256 (mInput 0 64) (mInput 1 64) t.2 64).1
      rw [hs0] at A hl0
      have HS := Lib.hid hs0
      clear hs0
      refine A.mono ?_
      rintro e w5 ⟨rfl, m5, t5⟩
      have hsr := hb.size
      have x5 := t5.keep ((hbl.block _ (lt_of_block hX)).trans hX) (by decide) (by omega)
      have y5 := t5.keep ((hbl.block _ (lt_of_block hC)).trans hC) (by decide) (by omega)
      have hb5 := t5.below (B := w.heap.size) (by have := hbW.size; omega) (by omega) (by omega)
      clear A k1 k2 hb1 hb2 kb hX hC hm
      go_wp2_with ((with_reducible show wpList _ _ _ (⟨_, Op.store _ (.tmp 59) _, _, _, _, _⟩ :: _) _ _); refine wp_storeX (.tmp 59) (.tmp 58) rfl rfl (w.heap.size + 1 + 1) 0 t.1 s0.1 ht1 (by omega) hl0 x5 rfl rfl ?_; intro W6 x6 o6 z6 b6 g6)
      go_roundw
      case rel =>
        refine ⟨1, (t.1 ++ s0.1, s0.2), by omega, rfl, mOps_xor 256 1 0 t HT.out rfl s0 HS.out, g6 _ _ _ _ m5, (o6 _ (by omega)).trans y5, x6, b6 _ _ (by omega) (hbW.trans hb5)⟩
      case measure => simp [intOf]
    by_cases hk1 : k = 1
    · subst hk1
      go_wp2_with fail
      refine (input_any _ _ _ (by omega) (by omega)).mono ?_
      rintro e w1 ⟨rfl, hb1⟩
      go_wp2_with fail
      refine (input_any _ _ _ (by omega) (by omega)).mono ?_
      rintro e w2 ⟨rfl, hb2⟩
      go_wp2_with (first | ((with_reducible show wpList _ _ _ (⟨_, Op.store _ (.tmp 10) _, _, _, _, _⟩ :: _) _ _); refine wp_rows2 (.tmp 10) (.tmp 43) (.tmp 11) (.tmp 48) rfl rfl rfl rfl rfl _ _ _ _ rfl (mInput_len _ _) (mInput_len _ _) rfl rfl rfl rfl ?_; intro W4 k1 k2 kb) | ((with_reducible show wpList _ _ _ (⟨_, Op.load _ (.tmp 10), _, _, _, _⟩ :: _) _ _); refine wpList_load_row rfl 171 _ rfl w2.heap.size rfl 171 _ _ _ k1 Tryz.underlying171 rfl (info_rowOf _ (mInput_len _ _)) ?_) | ((with_reducible show wpList _ _ _ (⟨_, Op.load _ (.tmp 11), _, _, _, _⟩ :: _) _ _); refine wpList_load_row rfl 171 _ rfl (w2.heap.size + 1) rfl 171 _ _ _ k2 Tryz.underlying171 rfl (info_rowOf _ (mInput_len _ _)) ?_))
      have hmW := ((hm.below hb1).below hb2).below kb
      have hbl := ((hb1.trans (hb2.mono hb1.size)).trans (kb.mono (Nat.le_trans hb1.size hb2.size)))
      have hbW := (((hb.trans (hb1.mono hb.size)).trans (hb2.mono (Nat.le_trans hb.size hb1.size))).trans (kb.mono (Nat.le_trans (Nat.le_trans hb.size hb1.size) hb2.size)))
      have hs0 : ∃ s0, addTo 256 (mInput 2 64) (mInput 3 64) t.2 63 = s0 := ⟨_, rfl⟩
      obtain ⟨s0, hs0⟩ := hs0
      have A := add_any _ _ 256 t.2 (mInput 2 64) (mInput 3 64) W4 (mInput_len _ _) (mInput_len _ _) hmW (by omega) (Nat.le_trans hlt (by decide))
      have hl0 := (addTo_len 256 (mInput 2 64) (mInput 3 64) t.2 63).1
      rw [hs0] at A hl0
      have HS := Lib.hid hs0
      clear hs0
      refine A.mono ?_
      rintro e w5 ⟨rfl, m5, t5⟩
      have hsr := hb.size
      have x5 := t5.keep ((hbl.block _ (lt_of_block hX)).trans hX) (by decide) (by omega)
      have y5 := t5.keep ((hbl.block _ (lt_of_block hC)).trans hC) (by decide) (by omega)
      have hb5 := t5.below (B := w.heap.size) (by have := hbW.size; omega) (by omega) (by omega)
      clear A k1 k2 hb1 hb2 kb hX hC hm
      go_wp2_with ((with_reducible show wpList _ _ _ (⟨_, Op.store _ (.tmp 65) _, _, _, _, _⟩ :: _) _ _); refine wp_storeX (.tmp 65) (.tmp 64) rfl rfl (w.heap.size + 1 + 1) 1 t.1 s0.1 ht1 (by omega) hl0 x5 rfl rfl ?_; intro W6 x6 o6 z6 b6 g6)
      go_roundw
      case rel =>
        refine ⟨2, (t.1 ++ s0.1, s0.2.2), by omega, rfl, mOps_add 256 1 1 t HT.out rfl s0 HS.out, g6 _ _ _ _ m5, (o6 _ (by omega)).trans y5, x6, b6 _ _ (by omega) (hbW.trans hb5)⟩
      case measure => simp [intOf]
    obtain rfl : k = 2 := by omega
    have hsX := lt_of_block hX
    have hbm : MkAt (w.heap.size + 1 + 1) (w.heap.size + 1) (wr.alloc (.cells (ints (pad [])).toArray 171)) 256 t.2 := hm.below ((Below.refl _ _).alloc (Nat.le_refl _) _)
    have hX' := (heap_alloc_old wr (.cells (ints (pad [])).toArray 171) (lt_of_block hX)).trans hX
    have hC' := (heap_alloc_old wr (.cells (ints (pad [])).toArray 171) (lt_of_block hC)).trans hC
    have hR' := heap_alloc_new wr (.cells (ints (pad [])).toArray 171)
    have hb' := hb.alloc hsr (.cells (ints (pad [])).toArray 171)
    have A := gt_any _ _ 256 t.2 1 0 0 _ hbm (by omega) (by omega)
    clear hX hC hm hb
    go_wp2_with fail
    refine A.mono ?_
    have hlz := gt_len 256 1 0 0 t.2
    have hz : ∃ z, gt 256 1 0 0 t.2 = z := ⟨_, rfl⟩
    obtain ⟨z, hz⟩ := hz
    rw [hz] at hlz ⊢
    rintro e w1 ⟨rfl, m1, t1⟩
    have X1 := t1.keep hX' (by decide) (by omega)
    have C1 := t1.keep hC' (by decide) (by omega)
    have R1 := t1.row hR' (by omega)
    have B1 := hb'.trans (t1.below (B := w.heap.size) (by simp; omega) (by omega) (by omega))
    have s1 := t1.size
    simp only [World.size_alloc] at s1
    have hz2 : z.2.length ≤ 80000 := by omega
    have hz' := Lib.hid hz
    have X1r := pad2_range X1 (by omega)
    have H2 := Lib.hid (And.intro X1 (And.intro C1 R1))
    clear hz hX' hC' hR' hb' t1 A hbm X1 C1 R1 X1r
    go_wp2_with fail
    generalize hbr : wr.heap.size = br at s1 hsX H2 ⊢
    clear hbr
    go_loopw [94] (fun x wq => ∃ j : Nat, j ≤ 64 ∧ x = .int .i64 j ∧ MkAt (w.heap.size + 1 + 1) (w.heap.size + 1) wq 256 z.2 ∧ wq.heap[w.heap.size]? = some (.cells #[.int .i64 0, .slice none 0 0, .slice none 0 0] 117 (0, 0)) ∧
      wq.heap[w.heap.size + 1 + 1]? = some (.cells (ints (pad2 t.1)).toArray 172 (0, 0)) ∧ wq.heap[br]? = some (.cells (ints (pad (List.replicate j z.1))).toArray 171 (0, 0)) ∧ Below w.heap.size w wq) (fun x _ => 64 - (intOf x).toNat)
    case atStart => exact ⟨0, by omega, rfl, m1, H2.out.2.1, H2.out.1, H2.out.2.2, B1⟩
    case round =>
      obtain ⟨j, hj, rfl, hm, hC, hX, hR, hb⟩ := hrel
      have hsr2 := hb.size
      by_cases hjl : j < 64
      · have d1 := pad_cell hR (List.length_replicate ..) hjl
        have d2 := frozen_of_row wr br j _ _ hR
        have G := Lib.hid (And.intro hX (And.intro hC hR))
        clear hX hC hR
        go_wp2_with fail
        go_roundw
        case rel =>
          have r1 := store_pad G.out.2.2 j (List.length_replicate ..) hjl z.1
          rw [← List.replicate_succ'] at r1
          refine ⟨j + 1, by omega, by go_num, hm.setCell G.out.2.2 _ _, ?_, ?_, r1, hb.setCell (by simp; omega) _⟩
          · rw [heap_setCell_other' (by omega)]; exact G.out.2.1
          · rw [heap_setCell_other' (by omega)]; exact G.out.1
        case measure => simp [intOf]; omega
      · obtain rfl : j = 64 := by omega
        rw [pad_full _ (List.length_replicate ..)] at hR
        have hr2 := pad2_range hX (by omega)
        have HR2 := Lib.hid hr2
        have G := Lib.hid (And.intro hX (And.intro hC hR))
        have hl1 : (t.1.take 64).length = 64 := by simp; omega
        have hl2 : (t.1.drop 64).length = 64 := by simp; omega
        have HL1 := Lib.hid hl1
        have HL2 := Lib.hid hl2
        clear hX hC hR hr2 hl1 hl2
        go_wp2_with (first | ((with_reducible show wpList _ _ _ (⟨_, Op.load _ (.tmp 102), _, _, _, _⟩ :: _) _ _); refine wpList_load_mid rfl 171 _ rfl (w.heap.size + 1 + 1) 0 rfl _ _ HR2.out.1 Tryz.underlying171 rfl (info_rowL _ HL1.out) ?_) | ((with_reducible show wpList _ _ _ (⟨_, Op.load _ (.tmp 104), _, _, _, _⟩ :: _) _ _); refine wpList_load_mid rfl 171 _ rfl (w.heap.size + 1 + 1) 64 rfl _ _ HR2.out.2 Tryz.underlying171 rfl (info_rowL _ HL2.out) ?_))
        have A := less_any _ _ 256 z.2 (t.1.take 64) (t.1.drop 64) _ HL1.out HL2.out hm (by omega) hz2
        have hll := mLess_len 256 (t.1.take 64) (t.1.drop 64) z.2
        obtain ⟨l, hl⟩ : ∃ l, mLess 256 (t.1.take 64) (t.1.drop 64) z.2 = l := ⟨_, rfl⟩
        rw [hl] at A hll
        have HLL := Lib.hid hl
        clear hl
        refine A.mono ?_
        rintro e w3 ⟨rfl, m3, t3⟩
        have X3 := t3.keep G.out.1 (by decide) (by omega)
        have hC := t3.keep G.out.2.1 (by decide) (by omega)
        have hR := t3.row G.out.2.2 (by omega)
        have B3 := hb.trans (t3.below (B := w.heap.size) (by omega) (by omega) (by omega))
        obtain ⟨_, _, gv, hh, hown⟩ := m3
        have d1 : w3.cell? ⟨br, 0, none⟩ = some (.int .i64 z.1) := row_cell hR (k := 0) (by simp)
        have d2 := frozen_of_row w3 br 0 _ _ hR
        clear A X3 hm
        have hgv1 := owns_one hown
        have hw1 : ∀ v, (w3.setCell ⟨br, 0, none⟩ v).heap[w.heap.size + 1]? = some (.cells #[.int .i64 256, gv, .slice none 0 0] 169 (0, 0)) := fun v => (heap_setCell_other' (by omega) v).trans hh
        have hw0 : ∀ v, (w3.setCell ⟨br, 0, none⟩ v).heap[w.heap.size]? = some (.cells #[.int .i64 0, .slice none 0 0, .slice none 0 0] 117 (0, 0)) := fun v => (heap_setCell_other' (by omega) v).trans hC
        have e1 : ∀ v, (w3.setCell ⟨br, 0, none⟩ v).cell? ⟨w.heap.size + 1, 2, none⟩ = some (.slice none 0 0) := fun v => (cell_of_row _ _ _ _ _ _ (hw1 v)).trans rfl
        have e2 : ∀ v, (w3.setCell ⟨br, 0, none⟩ v).frozen? ⟨w.heap.size + 1, 2, none⟩ = false := fun v => frozen_of_row _ _ _ _ _ (hw1 v)
        have hv1 : ∀ v u, ((w3.setCell ⟨br, 0, none⟩ v).setCell ⟨w.heap.size + 1, 2, none⟩ u).heap[w.heap.size + 1]? = some (.cells #[.int .i64 256, gv, u] 169 (0, 0)) := fun v u => by have := heap_setCell (j := 2) (hw1 v) u; simpa using this
        have hv0 : ∀ v u, ((w3.setCell ⟨br, 0, none⟩ v).setCell ⟨w.heap.size + 1, 2, none⟩ u).heap[w.heap.size]? = some (.cells #[.int .i64 0, .slice none 0 0, .slice none 0 0] 117 (0, 0)) := fun v u => (heap_setCell_other' (by omega) u).trans (hw0 v)
        have HV := Lib.hid (And.intro hv1 hv0)
        have HK := Lib.hid (And.intro hR (And.intro hh hown))
        clear hw1 hw0 hv1 hv0 hh hown hR hC
        go_wp2_with (first | ((with_reducible show wpList _ _ _ (⟨_, Op.load _ (.tmp 129), _, _, _, _⟩ :: _) _ _); refine wpList_load_row rfl 117 _ rfl (w.heap.size + 1) rfl 169 _ _ _ (HV.out.1 _ _) Tryz.underlying117 rfl info_circuit ?_) | ((with_reducible show wpList _ _ _ (⟨_, Op.store _ (.tmp 4) (.tmp 130), _, _, _, _⟩ :: _) _ _); refine wpList_store_row rfl 117 _ _ rfl w.heap.size _ rfl rfl 117 _ (HV.out.2 _ _) info_circuit rfl (all_oneCell_toArray (by intro u hu; simp at hu; rcases hu with rfl | rfl | rfl <;> first | rfl | exact hgv1)) ?_))
        refine bodyPost_ret (results_cell_tmp rfl _ _ w.heap.size 117 _ _ _ rfl (setRow_heap _ _ _ _ _ _ (HV.out.2 _ _)) Tryz.underlying117 rfl info_circuit) rfl ?_
        unfold MadeCirc
        rw [mMake_less 1 t HT.out z l hz'.out HLL.out]
        have hlen : (l.1 :: List.replicate 63 z.1).length = 64 := by simp
        have r1 := heap_setCell (j := 0) HK.out.1 (.int .i64 l.1)
        rw [set_first] at r1
        have hbr : br ≠ w.heap.size + 1 := by omega
        refine ⟨gv, _, rfl, ?_, outs_arr (br := br) (t := 171) (fr := (0, 0)) ?_ hlen, below_setRow ((B3.setCell (by simp; omega) _).setCell (by simp) _) (Nat.le_refl _) _⟩
        · refine owns_base (owns_same HK.out.2.2 (fun g cur hg hbg => ?_)) (by omega)
          have hgr : g ≠ br := by intro e; subst e; rw [HK.out.1] at hg; simp at hg
          rw [setRow_other _ _ _ _ (by omega), heap_setCell_other' (by omega), heap_setCell_other' hgr]
        · rw [setRow_other _ _ _ _ (by omega), heap_setCell_other' hbr]; exact r1
end Go.Proofs.YtjbhgimhcjcpmaaGreatDoor
