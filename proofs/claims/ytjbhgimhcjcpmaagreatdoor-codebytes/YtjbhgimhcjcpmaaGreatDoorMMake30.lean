/-
  THE CONTRACT of circ.Make at kind 3 and forms 0.
-/
import Derived.Test.YtjbhgimhcjcpmaaGreatDoorMCircLess
set_option linter.unusedSimpArgs false
set_option linter.unusedVariables false
namespace Go.Proofs.YtjbhgimhcjcpmaaGreatDoor
open Go.RowKit

set_option maxHeartbeats 4000000 in
set_option maxRecDepth 100000 in
theorem make_30 (w : World) :
    Calls Tryz.prog 67 #[.int .i64 3, .int .u64 0] w (MadeCirc w 3 0) := by
  go_enter Tryz.func67, Tryz.ntmps67
  go_wp2_with fail
  go_loopw [37] (fun x wr => ∃ k : Nat, ∃ t : List Int × List Gate, k ≤ 2 ∧ x = .int .i64 k ∧ Hid (mOps 256 0 k = t) ∧ MkAt (w.heap.size + 1 + 1) (w.heap.size + 1) wr 256 t.2 ∧ wr.heap[w.heap.size]? = some (.cells #[.int .i64 0, .slice none 0 0, .slice none 0 0] 117 (0, 0)) ∧
      wr.heap[w.heap.size + 1 + 1]? = some (.cells (ints (pad2 t.1)).toArray 172 (0, 0)) ∧ Below w.heap.size w wr) (fun x _ => 3 - (intOf x).toNat)
  case atStart =>
    have H := three w (.cells #[.int .i64 0, .slice none 0 0, .slice none 0 0] 117) (.cells #[.int .i64 256, .slice none 0 0, .slice none 0 0] 169) (.cells Tryz.zeroCells172 172)
    refine ⟨0, _, by omega, rfl, rfl, ⟨by omega, ?_, _, H.2.1, World.ownsRow_nil _ _ _ _⟩, H.1, ?_, H.2.2.2⟩
    · simp
    · show _ = some (Obj.cells (ints (pad2 [])).toArray _ _)
      rw [pad2_zero]; exact H.2.2.1
  case round =>
    obtain ⟨k, t, hk, rfl, HT, hm, hC, hX, hb⟩ := hrel
    have ht1 : t.1.length = 64 * k := by have := (mOps_len 256 0 k).1; rw [HT.out] at this; exact this
    have hlt : t.2.length ≤ 70000 := by have := (mOps_len 256 0 k).2; rw [HT.out] at this; omega
    have hsr := hb.size
    by_cases hk0 : k = 0
    · subst hk0
      go_wp2_with fail
      refine (input_any _ _ _ (by omega) (by omega)).mono ?_
      rintro e w1 ⟨rfl, hb1⟩
      go_wp2_with fail
      refine (input_any _ _ _ (by omega) (by omega)).mono ?_
      rintro e w2 ⟨rfl, hb2⟩
      go_wp2_with (first | ((with_reducible show wpList _ _ _ (⟨_, Op.store _ (.tmp 10) _, _, _, _, _⟩ :: _) _ _); refine wp_rows2 (.tmp 10) (.tmp 43) (.tmp 11) (.tmp 48) rfl rfl rfl rfl rfl _ _ _ _ rfl (mInput_len _ _) (mInput_len _ _) rfl rfl rfl rfl ?_; intro W4 k1 k2 kb) | ((with_reducible show wpList _ _ _ (⟨_, Op.load _ (.tmp 10), _, _, _, _⟩ :: _) _ _); refine wpList_load_row rfl 171 _ rfl w2.heap.size rfl 171 _ _ _ k1 Tryz.underlying171 rfl (info_rowOf _ (mInput_len _ _)) ?_) | ((with_reducible show wpList _ _ _ (⟨_, Op.load _ (.tmp 11), _, _, _, _⟩ :: _) _ _); refine wpList_load_row rfl 171 _ rfl (w2.heap.size + 1) rfl 171 _ _ _ k2 Tryz.underlying171 rfl (info_rowOf _ (mInput_len _ _)) ?_))
      have hmW := ((hm.below hb1).below hb2).below kb
      have hbl := ((hb1.trans (hb2.mono hb1.size)).trans (kb.mono (Nat.le_trans hb1.size hb2.size)))
      have hbW := (((hb.trans (hb1.mono hb.size)).trans (hb2.mono (Nat.le_trans hb.size hb1.size))).trans (kb.mono (Nat.le_trans (Nat.le_trans hb.size hb1.size) hb2.size)))
      have hs0 : ∃ s0, addTo 256 (mInput 0 64) (mInput 1 64) t.2 63 = s0 := ⟨_, rfl⟩
      obtain ⟨s0, hs0⟩ := hs0
      have A := add_any _ _ 256 t.2 (mInput 0 64) (mInput 1 64) W4 (mInput_len _ _) (mInput_len _ _) hmW (by omega) (Nat.le_trans hlt (by decide))
      have hl0 := (addTo_len 256 (mInput 0 64) (mInput 1 64) t.2 63).1
      rw [hs0] at A hl0
      have HS := Lib.hid hs0
      clear hs0
      refine A.mono ?_
      rintro e w5 ⟨rfl, m5, t5⟩
      have hsr := hb.size
      have x5 := t5.keep ((hbl.block _ (lt_of_block hX)).trans hX) (by decide) (by omega)
      have y5 := t5.keep ((hbl.block _ (lt_of_block hC)).trans hC) (by decide) (by omega)
      have hb5 := t5.below (B := w.heap.size) (by have := hbW.size; omega) (by omega) (by omega)
      clear A k1 k2 hb1 hb2 kb hX hC hm
      go_wp2_with ((with_reducible show wpList _ _ _ (⟨_, Op.store _ (.tmp 65) _, _, _, _, _⟩ :: _) _ _); refine wp_storeX (.tmp 65) (.tmp 64) rfl rfl (w.heap.size + 1 + 1) 0 t.1 s0.1 ht1 (by omega) hl0 x5 rfl rfl ?_; intro W6 x6 o6 z6 b6 g6)
      go_roundw
      case rel =>
        refine ⟨1, (t.1 ++ s0.1, s0.2.2), by omega, rfl, mOps_add 256 0 0 t HT.out rfl s0 HS.out, g6 _ _ _ _ m5, (o6 _ (by omega)).trans y5, x6, b6 _ _ (by omega) (hbW.trans hb5)⟩
      case measure => simp [intOf]
    by_cases hk1 : k = 1
    · subst hk1
      go_wp2_with fail
      refine (input_any _ _ _ (by omega) (by omega)).mono ?_
      rintro e w1 ⟨rfl, hb1⟩
      go_wp2_with fail
      refine (input_any _ _ _ (by omega) (by omega)).mono ?_
      rintro e w2 ⟨rfl, hb2⟩
      go_wp2_with (first | ((with_reducible show wpList _ _ _ (⟨_, Op.store _ (.tmp 10) _, _, _, _, _⟩ :: _) _ _); refine wp_rows2 (.tmp 10) (.tmp 43) (.tmp 11) (.tmp 48) rfl rfl rfl rfl rfl _ _ _ _ rfl (mInput_len _ _) (mInput_len _ _) rfl rfl rfl rfl ?_; intro W4 k1 k2 kb) | ((with_reducible show wpList _ _ _ (⟨_, Op.load _ (.tmp 10), _, _, _, _⟩ :: _) _ _); refine wpList_load_row rfl 171 _ rfl w2.heap.size rfl 171 _ _ _ k1 Tryz.underlying171 rfl (info_rowOf _ (mInput_len _ _)) ?_) | ((with_reducible show wpList _ _ _ (⟨_, Op.load _ (.tmp 11), _, _, _, _⟩ :: _) _ _); refine wpList_load_row rfl 171 _ rfl (w2.heap.size + 1) rfl 171 _ _ _ k2 Tryz.underlying171 rfl (info_rowOf _ (mInput_len _ _)) ?_))
      have hmW := ((hm.below hb1).below hb2).below kb
      have hbl := ((hb1.trans (hb2.mono hb1.size)).trans (kb.mono (Nat.le_trans hb1.size hb2.size)))
      have hbW := (((hb.trans (hb1.mono hb.size)).trans (hb2.mono (Nat.le_trans hb.size hb1.size))).trans (kb.mono (Nat.le_trans (Nat.le_trans hb.size hb1.size) hb2.size)))
      have hs0 : ∃ s0, addTo 256 (mInput 2 64) (mInput 3 64) t.2 63 = s0 := ⟨_, rfl⟩
      obtain ⟨s0, hs0⟩ := hs0
      have A := add_any _ _ 256 t.2 (mInput 2 64) (mInput 3 64) W4 (mInput_len _ _) (mInput_len _ _) hmW (by omega) (Nat.le_trans hlt (by decide))
      have hl0 := (addTo_len 256 (mInput 2 64) (mInput 3 64) t.2 63).1
      rw [hs0] at A hl0
      have HS := Lib.hid hs0
      clear hs0
      refine A.mono ?_
      rintro e w5 ⟨rfl, m5, t5⟩
      have hsr := hb.size
      have x5 := t5.keep ((hbl.block _ (lt_of_block hX)).trans hX) (by decide) (by omega)
      have y5 := t5.keep ((hbl.block _ (lt_of_block hC)).trans hC) (by decide) (by omega)
      have hb5 := t5.below (B := w.heap.size) (by have := hbW.size; omega) (by omega) (by omega)
      clear A k1 k2 hb1 hb2 kb hX hC hm
      go_wp2_with ((with_reducible show wpList _ _ _ (⟨_, Op.store _ (.tmp 65) _, _, _, _, _⟩ :: _) _ _); refine wp_storeX (.tmp 65) (.tmp 64) rfl rfl (w.heap.size + 1 + 1) 1 t.1 s0.1 ht1 (by omega) hl0 x5 rfl rfl ?_; intro W6 x6 o6 z6 b6 g6)
      go_roundw
      case rel =>
        refine ⟨2, (t.1 ++ s0.1, s0.2.2), by omega, rfl, mOps_add 256 0 1 t HT.out rfl s0 HS.out, g6 _ _ _ _ m5, (o6 _ (by omega)).trans y5, x6, b6 _ _ (by omega) (hbW.trans hb5)⟩
      case measure => simp [intOf]
    obtain rfl : k = 2 := by omega
    have hsX := lt_of_block hX
    have hbm : MkAt (w.heap.size + 1 + 1) (w.heap.size + 1) (wr.alloc (.cells (ints (pad [])).toArray 171)) 256 t.2 := hm.below ((Below.refl _ _).alloc (Nat.le_refl _) _)
    have hX' := (heap_alloc_old wr (.cells (ints (pad [])).toArray 171) (lt_of_block hX)).trans hX
    have hC' := (heap_alloc_old wr (.cells (ints (pad [])).toArray 171) (lt_of_block hC)).trans hC
    have hR' := heap_alloc_new wr (.cells (ints (pad [])).toArray 171)
    have hb' := hb.alloc hsr (.cells (ints (pad [])).toArray 171)
    have A := gt_any _ _ 256 t.2 1 0 0 _ hbm (by omega) (by omega)
    clear hX hC hm hb
    go_wp2_with fail
    refine A.mono ?_
    have hlz := gt_len 256 1 0 0 t.2
    have hz : ∃ z, gt 256 1 0 0 t.2 = z := ⟨_, rfl⟩
    obtain ⟨z, hz⟩ := hz
    rw [hz] at hlz ⊢
    rintro e w1 ⟨rfl, m1, t1⟩
    have X1 := t1.keep hX' (by decide) (by omega)
    have C1 := t1.keep hC' (by decide) (by omega)
    have R1 := t1.row hR' (by omega)
    have B1 := hb'.trans (t1.below (B := w.heap.size) (by simp; omega) (by omega) (by omega))
    have s1 := t1.size
    simp only [World.size_alloc] at s1
    have hz2 : z.2.length ≤ 80000 := by omega
    have hz' := Lib.hid hz
    have X1r := pad2_range X1 (by omega)
    have HX1 := Lib.hid X1
    have H2 := Lib.hid (And.intro X1 (And.intro C1 R1))
    have hl1 : (t.1.take 64).length = 64 := by simp; omega
    have hl2 : (t.1.drop 64).length = 64 := by simp; omega
    have hrowu := Tryz.underlying171
    have hi1 := info_rowL _ hl1
    have hi2 := info_rowL _ hl2
    have m1d : MkAt (w.heap.size + 1 + 1) (w.heap.size + 1) w1.drew 256 z.2 := m1
    have HL1 := Lib.hid hl1
    have HL2 := Lib.hid hl2
    clear hl1 hl2
    obtain ⟨xr1, xr2⟩ := X1r
    clear hz hX' hC' hR' hb' t1 A hbm X1 C1 R1
    generalize hbr : wr.heap.size = br at s1 hsX H2 ⊢
    clear hbr
    go_wp2_with fail
    refine wp_region_held_drew (S := fun W => W.rangeAt (w.heap.size + 1 + 1) 0 (ints (t.1.take 64)) ∧ W.rangeAt (w.heap.size + 1 + 1) 64 (ints (t.1.drop 64))) (by kernel_rfl) ⟨xr1, xr2⟩ (fun hHeld => ?_)
    refine wpAnyH_take (i := 0) (oi := _) (v := ?_) rfl (by kernel_rfl) (by kernel_rfl) (by kernel_rfl) (fun _ _ _ h => h) (Or.inl ⟨by rfl, ?_⟩) hHeld ?_
    rotate_left
    · intro W hSw; go_simp; try with_reducible rfl
    try simp only [Act.put, List.setIfInBounds_toArray, List.set_cons_zero, List.set_cons_succ]
    refine wpAnyH_take (i := 1) (oi := _) (v := ?_) rfl (by kernel_rfl) (by kernel_rfl) (by kernel_rfl) (fun _ _ _ h => h) (Or.inl ⟨by rfl, ?_⟩) hHeld ?_
    rotate_left
    · intro W hSw; go_simp; try with_reducible rfl
    try simp only [Act.put, List.setIfInBounds_toArray, List.set_cons_zero, List.set_cons_succ]
    refine wpAnyH_take (i := 2) (oi := _) (v := ?_) rfl (by kernel_rfl) (by kernel_rfl) (by kernel_rfl) (fun _ _ _ h => h) (Or.inl ⟨by rfl, ?_⟩) hHeld ?_
    rotate_left
    · intro W hSw; go_simp; try with_reducible rfl
    try simp only [Act.put, List.setIfInBounds_toArray, List.set_cons_zero, List.set_cons_succ]
    refine wpAnyH_take (i := 4) (oi := _) (v := ?_) rfl (by kernel_rfl) (by kernel_rfl) (by kernel_rfl) (fun _ _ _ h => h) (Or.inl ⟨by rfl, ?_⟩) hHeld ?_
    rotate_left
    · intro W hSw; go_simp; try with_reducible rfl
    try simp only [Act.put, List.setIfInBounds_toArray, List.set_cons_zero, List.set_cons_succ]
    refine wpAnyH_take (i := 7) (oi := _) (v := ?_) rfl (by kernel_rfl) (by kernel_rfl) (by kernel_rfl) (fun _ _ _ h => h) (Or.inl ⟨by rfl, ?_⟩) hHeld ?_
    rotate_left
    · intro W hSw; go_simp; try with_reducible rfl
    try simp only [Act.put, List.setIfInBounds_toArray, List.set_cons_zero, List.set_cons_succ]
    refine wpAnyH_take (i := 9) (oi := _) (v := ?_) rfl (by kernel_rfl) (by kernel_rfl) (by kernel_rfl) (fun _ _ _ h => h) (Or.inl ⟨by rfl, ?_⟩) hHeld ?_
    rotate_left
    · intro W hSw; go_simp; try with_reducible rfl
    try simp only [Act.put, List.setIfInBounds_toArray, List.set_cons_zero, List.set_cons_succ]
    refine wpAnyH_take (i := 3) (oi := _) (v := ?_) rfl (by kernel_rfl) (by kernel_rfl) (by kernel_rfl) (fun _ _ _ h => h) ?_ hHeld ?_
    · exact .agg (ints (t.1.take 64)).toArray
    · refine yieldsIf_load_mid ?_ 171 (.tmp 112) ?_ (w.heap.size + 1 + 1) 0 ?_ (ints (t.1.take 64)) _ ?_ hrowu ?_ hi1
      · rfl
      · rfl
      · kernel_rfl
      · exact fun W h => h.1
      · rfl
    try simp only [Act.put, List.setIfInBounds_toArray, List.set_cons_zero, List.set_cons_succ]
    refine wpAnyH_take (i := 5) (oi := _) (v := ?_) rfl (by kernel_rfl) (by kernel_rfl) (by kernel_rfl) (fun _ _ _ h => h) ?_ hHeld ?_
    · exact .agg (ints (t.1.drop 64)).toArray
    · refine yieldsIf_load_mid ?_ 171 (.tmp 114) ?_ (w.heap.size + 1 + 1) 64 ?_ (ints (t.1.drop 64)) _ ?_ hrowu ?_ hi2
      · rfl
      · rfl
      · kernel_rfl
      · exact fun W h => h.2
      · rfl
    try simp only [Act.put, List.setIfInBounds_toArray, List.set_cons_zero, List.set_cons_succ]
    refine wpAnyH_take (i := 8) (oi := _) (v := ?_) rfl (by kernel_rfl) (by kernel_rfl) (by kernel_rfl) (fun _ _ _ h => h) ?_ hHeld ?_
    · exact .agg (ints (t.1.drop 64)).toArray
    · refine yieldsIf_load_mid ?_ 171 (.tmp 117) ?_ (w.heap.size + 1 + 1) 64 ?_ (ints (t.1.drop 64)) _ ?_ hrowu ?_ hi2
      · rfl
      · rfl
      · kernel_rfl
      · exact fun W h => h.2
      · rfl
    try simp only [Act.put, List.setIfInBounds_toArray, List.set_cons_zero, List.set_cons_succ]
    refine wpAnyH_take (i := 10) (oi := _) (v := ?_) rfl (by kernel_rfl) (by kernel_rfl) (by kernel_rfl) (fun _ _ _ h => h) ?_ hHeld ?_
    · exact .agg (ints (t.1.take 64)).toArray
    · refine yieldsIf_load_mid ?_ 171 (.tmp 119) ?_ (w.heap.size + 1 + 1) 0 ?_ (ints (t.1.take 64)) _ ?_ hrowu ?_ hi1
      · rfl
      · rfl
      · kernel_rfl
      · exact fun W h => h.1
      · rfl
    try simp only [Act.put, List.setIfInBounds_toArray, List.set_cons_zero, List.set_cons_succ]
    have A := less_any _ _ 256 z.2 (t.1.take 64) (t.1.drop 64) _ HL1.out HL2.out m1d (by omega) hz2
    have hll := mLess_len 256 (t.1.take 64) (t.1.drop 64) z.2
    obtain ⟨l, hl⟩ : ∃ l, mLess 256 (t.1.take 64) (t.1.drop 64) z.2 = l := ⟨_, rfl⟩
    rw [hl] at A hll
    have hl80 : l.2.length ≤ 80000 := by omega
    have HLL := Lib.hid hl
    clear hl hll
    refine wpAnyH_ready (rs := [6]) (by kernel_rfl) (by simp) ?_
    refine AllReadyH.cons (o := _) rfl (fun K hK => ?_) AllReadyH.nil
    go_simp
    refine A.mono ?_
    rintro e w3 ⟨rfl, m3, t3⟩
    have X3 := t3.keep H2.out.1 (by decide) (by omega)
    have C3 := t3.keep H2.out.2.1 (by decide) (by omega)
    have R3 := t3.row H2.out.2.2 (by omega)
    have B3 := B1.drew.trans (t3.below (B := w.heap.size) (by simp; omega) (by omega) (by omega))
    clear A
    refine hK.out _ _ (pad2_range X3 (by omega)) (fun hHeld => ?_)
    clear hK K
    try simp only [Act.put, List.setIfInBounds_toArray, List.set_cons_zero, List.set_cons_succ]
    refine wpAnyH_ready (rs := [11]) (by kernel_rfl) (by simp) ?_
    refine AllReadyH.cons (o := _) rfl (fun K hK => ?_) AllReadyH.nil
    go_simp
    have A := pick_any _ _ 256 l.2 l.1 (t.1.drop 64) (t.1.take 64) _ HL2.out HL1.out m3 (by omega) hl80
    have hpl := (pickTo_len 256 l.1 (t.1.drop 64) (t.1.take 64) l.2 64).1
    obtain ⟨p, hp⟩ : ∃ p, pickTo 256 l.1 (t.1.drop 64) (t.1.take 64) l.2 64 = p := ⟨_, rfl⟩
    rw [hp] at A hpl
    have HP := Lib.hid hp
    clear hp
    refine A.mono ?_
    rintro e w4 ⟨rfl, m4, t4⟩
    have X4 := t4.keep X3 (by decide) (by omega)
    have hC := t4.keep C3 (by decide) (by omega)
    have R4 := t4.row R3 (by omega)
    have s3 := t3.size
    have B4 := B3.trans (t4.below (B := w.heap.size) (by simp at s3; omega) (by omega) (by omega))
    clear A
    refine hK.out _ _ (pad2_range X4 (by omega)) (fun hHeld => ?_)
    clear hK K
    try simp only [Act.put, List.setIfInBounds_toArray, List.set_cons_zero, List.set_cons_succ]
    refine wpAnyH_ready (rs := [12]) (by kernel_rfl) (by simp) ?_
    refine AllReadyH.cons (o := _) rfl (fun K hK => ?_) AllReadyH.nil
    rw [if_pos (by rfl)]
    refine wp_store_row 171 (.tmp 12) (.tmp 121) rfl br (ints p.1).toArray (by kernel_rfl) (by kernel_rfl) 171 _ R4 (info_rowOf _ hpl) (by simp [ints_length, hpl, pad_len]) (row_one _) ?_
    have hR := setRow_heap _ _ _ (ints p.1).toArray _ _ R4
    have m5 := m4.setRow R4 (ints p.1).toArray
    have B5 := below_setRow (g := br) B4 (by omega) (ints p.1).toArray
    have X5 := (setRow_other w4 br _ (ints p.1).toArray (by omega)).trans X4
    have hC5 := (setRow_other w4 br _ (ints p.1).toArray (by omega)).trans hC
    refine hK.out _ _ (pad2_range X5 (by omega)) (fun hHeld => ?_)
    clear hK K
    try simp only [Act.put, List.setIfInBounds_toArray, List.set_cons_zero, List.set_cons_succ]
    refine wpAnyH_done (by kernel_rfl) ?_ _
    generalize w4.setRow br (ints p.1).toArray = w6 at hR m5 B5 X5 hC5 ⊢
    have hgv1 : ∃ gv, w6.heap[w.heap.size + 1]? = some (.cells #[.int .i64 256, gv, .slice none 0 0] 169 (0, 0)) ∧ w6.ownsRow (w.heap.size + 1 + 1) 180 3 gv p.2.length (gcells p.2) := m5.2.2
    obtain ⟨gv, hh, hown⟩ := hgv1
    have hg1 := owns_one hown
    have e1 : w6.cell? ⟨w.heap.size + 1, 2, none⟩ = some (.slice none 0 0) := (cell_of_row _ _ _ _ _ _ hh).trans rfl
    have e2 := frozen_of_row w6 (w.heap.size + 1) 2 _ _ hh
    have hv1 : ∀ u, (w6.setCell ⟨w.heap.size + 1, 2, none⟩ u).heap[w.heap.size + 1]? = some (.cells #[.int .i64 256, gv, u] 169 (0, 0)) := fun u => by have := heap_setCell (j := 2) hh u; simpa using this
    have hv0 : ∀ u, (w6.setCell ⟨w.heap.size + 1, 2, none⟩ u).heap[w.heap.size]? = some (.cells #[.int .i64 0, .slice none 0 0, .slice none 0 0] 117 (0, 0)) := fun u => (heap_setCell_other' (by omega) u).trans hC5
    have HV := Lib.hid (And.intro hv1 hv0)
    have HK := Lib.hid (And.intro hR (And.intro hh hown))
    have HPL := Lib.hid hpl
    clear hv1 hv0 hh hown hR hC5 X5 hpl hHeld
    go_wp2_with (first | ((with_reducible show wpList _ _ _ (⟨_, Op.load _ (.tmp 129), _, _, _, _⟩ :: _) _ _); refine wpList_load_row rfl 117 _ rfl (w.heap.size + 1) rfl 169 _ _ _ (HV.out.1 _) Tryz.underlying117 rfl info_circuit ?_) | ((with_reducible show wpList _ _ _ (⟨_, Op.store _ (.tmp 4) (.tmp 130), _, _, _, _⟩ :: _) _ _); refine wpList_store_row rfl 117 _ _ rfl w.heap.size _ rfl rfl 117 _ (HV.out.2 _) info_circuit rfl (all_oneCell_toArray (by intro u hu; simp at hu; rcases hu with rfl | rfl | rfl <;> first | rfl | exact hg1)) ?_))
    refine bodyPost_ret (results_cell_tmp rfl _ _ w.heap.size 117 _ _ _ rfl (setRow_heap _ _ _ _ _ _ (HV.out.2 _)) Tryz.underlying117 rfl info_circuit) rfl ?_
    unfold MadeCirc
    rw [mMake_max 0 t HT.out z l p hz'.out HLL.out HP.out]
    have hbr : br ≠ w.heap.size + 1 := by omega
    refine ⟨gv, _, rfl, ?_, outs_arr (br := br) (t := 171) (fr := (0, 0)) ?_ HPL.out, below_setRow (B5.setCell (by simp) _) (Nat.le_refl _) _⟩
    · refine owns_base (owns_same HK.out.2.2 (fun g cur hg hbg => ?_)) (by omega)
      rw [setRow_other _ _ _ _ (by omega), heap_setCell_other' (by omega)]
    · rw [setRow_other _ _ _ _ (by omega), heap_setCell_other' hbr]; exact HK.out.1
end Go.Proofs.YtjbhgimhcjcpmaaGreatDoor

/-
  THE CONTRACT of circ.Make at kind 3 and forms 1.
-/
namespace Go.Proofs.YtjbhgimhcjcpmaaGreatDoor
open Go.RowKit

set_option maxHeartbeats 4000000 in
set_option maxRecDepth 100000 in
theorem make_31 (w : World) :
    Calls Tryz.prog 67 #[.int .i64 3, .int .u64 1] w (MadeCirc w 3 1) := by
  go_enter Tryz.func67, Tryz.ntmps67
  go_wp2_with fail
  go_loopw [37] (fun x wr => ∃ k : Nat, ∃ t : List Int × List Gate, k ≤ 2 ∧ x = .int .i64 k ∧ Hid (mOps 256 1 k = t) ∧ MkAt (w.heap.size + 1 + 1) (w.heap.size + 1) wr 256 t.2 ∧ wr.heap[w.heap.size]? = some (.cells #[.int .i64 0, .slice none 0 0, .slice none 0 0] 117 (0, 0)) ∧
      wr.heap[w.heap.size + 1 + 1]? = some (.cells (ints (pad2 t.1)).toArray 172 (0, 0)) ∧ Below w.heap.size w wr) (fun x _ => 3 - (intOf x).toNat)
  case atStart =>
    have H := three w (.cells #[.int .i64 0, .slice none 0 0, .slice none 0 0] 117) (.cells #[.int .i64 256, .slice none 0 0, .slice none 0 0] 169) (.cells Tryz.zeroCells172 172)
    refine ⟨0, _, by omega, rfl, rfl, ⟨by omega, ?_, _, H.2.1, World.ownsRow_nil _ _ _ _⟩, H.1, ?_, H.2.2.2⟩
    · simp
    · show _ = some (Obj.cells (ints (pad2 [])).toArray _ _)
      rw [pad2_zero]; exact H.2.2.1
  case round =>
    obtain ⟨k, t, hk, rfl, HT, hm, hC, hX, hb⟩ := hrel
    have ht1 : t.1.length = 64 * k := by have := (mOps_len 256 1 k).1; rw [HT.out] at this; exact this
    have hlt : t.2.length ≤ 70000 := by have := (mOps_len 256 1 k).2; rw [HT.out] at this; omega
    have hsr := hb.size
    by_cases hk0 : k = 0
    · subst hk0
      go_wp2_with fail
      refine (input_any _ _ _ (by omega) (by omega)).mono ?_
      rintro e w1 ⟨rfl, hb1⟩
      go_wp2_with fail
      refine (input_any _ _ _ (by omega) (by omega)).mono ?_
      rintro e w2 ⟨rfl, hb2⟩
      go_wp2_with (first | ((with_reducible show wpList _ _ _ (⟨_, Op.store _ (.tmp 10) _, _, _, _, _⟩ :: _) _ _); refine wp_rows2 (.tmp 10) (.tmp 43) (.tmp 11) (.tmp 48) rfl rfl rfl rfl rfl _ _ _ _ rfl (mInput_len _ _) (mInput_len _ _) rfl rfl rfl rfl ?_; intro W4 k1 k2 kb) | ((with_reducible show wpList _ _ _ (⟨_, Op.load _ (.tmp 10), _, _, _, _⟩ :: _) _ _); refine wpList_load_row rfl 171 _ rfl w2.heap.size rfl 171 _ _ _ k1 Tryz.underlying171 rfl (info_rowOf _ (mInput_len _ _)) ?_) | ((with_reducible show wpList _ _ _ (⟨_, Op.load _ (.tmp 11), _, _, _, _⟩ :: _) _ _); refine wpList_load_row rfl 171 _ rfl (w2.heap.size + 1) rfl 171 _ _ _ k2 Tryz.underlying171 rfl (info_rowOf _ (mInput_len _ _)) ?_))
      have hmW := ((hm.below hb1).below hb2).below kb
      have hbl := ((hb1.trans (hb2.mono hb1.size)).trans (kb.mono (Nat.le_trans hb1.size hb2.size)))
      have hbW := (((hb.trans (hb1.mono hb.size)).trans (hb2.mono (Nat.le_trans hb.size hb1.size))).trans (kb.mono (Nat.le_trans (Nat.le_trans hb.size hb1.size) hb2.size)))
      have hs0 : ∃ s0, xorTo 256 (mInput 0 64) (mInput 1 64) t.2 64 = s0 := ⟨_, rfl⟩
      obtain ⟨s0, hs0⟩ := hs0
      have A := xor_any _ _ 256 t.2 (mInput 0 64) (mInput 1 64) W4 (mInput_len _ _) (mInput_len _ _) hmW (by omega) (Nat.le_trans hlt (by decide))
      have hl0 := (xorTo_len 256 (mInput 0 64) (mInput 1 64) t.2 64).1
      rw [hs0] at A hl0
      have HS := Lib.hid hs0
      clear hs0
      refine A.mono ?_
      rintro e w5 ⟨rfl, m5, t5⟩
      have hsr := hb.size
      have x5 := t5.keep ((hbl.block _ (lt_of_block hX)).trans hX) (by decide) (by omega)
      have y5 := t5.keep ((hbl.block _ (lt_of_block hC)).trans hC) (by decide) (by omega)
      have hb5 := t5.below (B := w.heap.size) (by have := hbW.size; omega) (by omega) (by omega)
      clear A k1 k2 hb1 hb2 kb hX hC hm
      go_wp2_with ((with_reducible show wpList _ _ _ (⟨_, Op.store _ (.tmp 59) _, _, _, _, _⟩ :: _) _ _); refine wp_storeX (.tmp 59) (.tmp 58) rfl rfl (w.heap.size + 1 + 1) 0 t.1 s0.1 ht1 (by omega) hl0 x5 rfl rfl ?_; intro W6 x6 o6 z6 b6 g6)
      go_roundw
      case rel =>
        refine ⟨1, (t.1 ++ s0.1, s0.2), by omega, rfl, mOps_xor 256 1 0 t HT.out rfl s0 HS.out, g6 _ _ _ _ m5, (o6 _ (by omega)).trans y5, x6, b6 _ _ (by omega) (hbW.trans hb5)⟩
      case measure => simp [intOf]
    by_cases hk1 : k = 1
    · subst hk1
      go_wp2_with fail
      refine (input_any _ _ _ (by omega) (by omega)).mono ?_
      rintro e w1 ⟨rfl, hb1⟩
      go_wp2_with fail
      refine (input_any _ _ _ (by omega) (by omega)).mono ?_
      rintro e w2 ⟨rfl, hb2⟩
      go_wp2_with (first | ((with_reducible show wpList _ _ _ (⟨_, Op.store _ (.tmp 10) _, _, _, _, _⟩ :: _) _ _); refine wp_rows2 (.tmp 10) (.tmp 43) (.tmp 11) (.tmp 48) rfl rfl rfl rfl rfl _ _ _ _ rfl (mInput_len _ _) (mInput_len _ _) rfl rfl rfl rfl ?_; intro W4 k1 k2 kb) | ((with_reducible show wpList _ _ _ (⟨_, Op.load _ (.tmp 10), _, _, _, _⟩ :: _) _ _); refine wpList_load_row rfl 171 _ rfl w2.heap.size rfl 171 _ _ _ k1 Tryz.underlying171 rfl (info_rowOf _ (mInput_len _ _)) ?_) | ((with_reducible show wpList _ _ _ (⟨_, Op.load _ (.tmp 11), _, _, _, _⟩ :: _) _ _); refine wpList_load_row rfl 171 _ rfl (w2.heap.size + 1) rfl 171 _ _ _ k2 Tryz.underlying171 rfl (info_rowOf _ (mInput_len _ _)) ?_))
      have hmW := ((hm.below hb1).below hb2).below kb
      have hbl := ((hb1.trans (hb2.mono hb1.size)).trans (kb.mono (Nat.le_trans hb1.size hb2.size)))
      have hbW := (((hb.trans (hb1.mono hb.size)).trans (hb2.mono (Nat.le_trans hb.size hb1.size))).trans (kb.mono (Nat.le_trans (Nat.le_trans hb.size hb1.size) hb2.size)))
      have hs0 : ∃ s0, addTo 256 (mInput 2 64) (mInput 3 64) t.2 63 = s0 := ⟨_, rfl⟩
      obtain ⟨s0, hs0⟩ := hs0
      have A := add_any _ _ 256 t.2 (mInput 2 64) (mInput 3 64) W4 (mInput_len _ _) (mInput_len _ _) hmW (by omega) (Nat.le_trans hlt (by decide))
      have hl0 := (addTo_len 256 (mInput 2 64) (mInput 3 64) t.2 63).1
      rw [hs0] at A hl0
      have HS := Lib.hid hs0
      clear hs0
      refine A.mono ?_
      rintro e w5 ⟨rfl, m5, t5⟩
      have hsr := hb.size
      have x5 := t5.keep ((hbl.block _ (lt_of_block hX)).trans hX) (by decide) (by omega)
      have y5 := t5.keep ((hbl.block _ (lt_of_block hC)).trans hC) (by decide) (by omega)
      have hb5 := t5.below (B := w.heap.size) (by have := hbW.size; omega) (by omega) (by omega)
      clear A k1 k2 hb1 hb2 kb hX hC hm
      go_wp2_with ((with_reducible show wpList _ _ _ (⟨_, Op.store _ (.tmp 65) _, _, _, _, _⟩ :: _) _ _); refine wp_storeX (.tmp 65) (.tmp 64) rfl rfl (w.heap.size + 1 + 1) 1 t.1 s0.1 ht1 (by omega) hl0 x5 rfl rfl ?_; intro W6 x6 o6 z6 b6 g6)
      go_roundw
      case rel =>
        refine ⟨2, (t.1 ++ s0.1, s0.2.2), by omega, rfl, mOps_add 256 1 1 t HT.out rfl s0 HS.out, g6 _ _ _ _ m5, (o6 _ (by omega)).trans y5, x6, b6 _ _ (by omega) (hbW.trans hb5)⟩
      case measure => simp [intOf]
    obtain rfl : k = 2 := by omega
    have hsX := lt_of_block hX
    have hbm : MkAt (w.heap.size + 1 + 1) (w.heap.size + 1) (wr.alloc (.cells (ints (pad [])).toArray 171)) 256 t.2 := hm.below ((Below.refl _ _).alloc (Nat.le_refl _) _)
    have hX' := (heap_alloc_old wr (.cells (ints (pad [])).toArray 171) (lt_of_block hX)).trans hX
    have hC' := (heap_alloc_old wr (.cells (ints (pad [])).toArray 171) (lt_of_block hC)).trans hC
    have hR' := heap_alloc_new wr (.cells (ints (pad [])).toArray 171)
    have hb' := hb.alloc hsr (.cells (ints (pad [])).toArray 171)
    have A := gt_any _ _ 256 t.2 1 0 0 _ hbm (by omega) (by omega)
    clear hX hC hm hb
    go_wp2_with fail
    refine A.mono ?_
    have hlz := gt_len 256 1 0 0 t.2
    have hz : ∃ z, gt 256 1 0 0 t.2 = z := ⟨_, rfl⟩
    obtain ⟨z, hz⟩ := hz
    rw [hz] at hlz ⊢
    rintro e w1 ⟨rfl, m1, t1⟩
    have X1 := t1.keep hX' (by decide) (by omega)
    have C1 := t1.keep hC' (by decide) (by omega)
    have R1 := t1.row hR' (by omega)
    have B1 := hb'.trans (t1.below (B := w.heap.size) (by simp; omega) (by omega) (by omega))
    have s1 := t1.size
    simp only [World.size_alloc] at s1
    have hz2 : z.2.length ≤ 80000 := by omega
    have hz' := Lib.hid hz
    have X1r := pad2_range X1 (by omega)
    have HX1 := Lib.hid X1
    have H2 := Lib.hid (And.intro X1 (And.intro C1 R1))
    have hl1 : (t.1.take 64).length = 64 := by simp; omega
    have hl2 : (t.1.drop 64).length = 64 := by simp; omega
    have hrowu := Tryz.underlying171
    have hi1 := info_rowL _ hl1
    have hi2 := info_rowL _ hl2
    have m1d : MkAt (w.heap.size + 1 + 1) (w.heap.size + 1) w1.drew 256 z.2 := m1
    have HL1 := Lib.hid hl1
    have HL2 := Lib.hid hl2
    clear hl1 hl2
    obtain ⟨xr1, xr2⟩ := X1r
    clear hz hX' hC' hR' hb' t1 A hbm X1 C1 R1
    generalize hbr : wr.heap.size = br at s1 hsX H2 ⊢
    clear hbr
    go_wp2_with fail
    refine wp_region_held_drew (S := fun W => W.rangeAt (w.heap.size + 1 + 1) 0 (ints (t.1.take 64)) ∧ W.rangeAt (w.heap.size + 1 + 1) 64 (ints (t.1.drop 64))) (by kernel_rfl) ⟨xr1, xr2⟩ (fun hHeld => ?_)
    refine wpAnyH_take (i := 0) (oi := _) (v := ?_) rfl (by kernel_rfl) (by kernel_rfl) (by kernel_rfl) (fun _ _ _ h => h) (Or.inl ⟨by rfl, ?_⟩) hHeld ?_
    rotate_left
    · intro W hSw; go_simp; try with_reducible rfl
    try simp only [Act.put, List.setIfInBounds_toArray, List.set_cons_zero, List.set_cons_succ]
    refine wpAnyH_take (i := 1) (oi := _) (v := ?_) rfl (by kernel_rfl) (by kernel_rfl) (by kernel_rfl) (fun _ _ _ h => h) (Or.inl ⟨by rfl, ?_⟩) hHeld ?_
    rotate_left
    · intro W hSw; go_simp; try with_reducible rfl
    try simp only [Act.put, List.setIfInBounds_toArray, List.set_cons_zero, List.set_cons_succ]
    refine wpAnyH_take (i := 2) (oi := _) (v := ?_) rfl (by kernel_rfl) (by kernel_rfl) (by kernel_rfl) (fun _ _ _ h => h) (Or.inl ⟨by rfl, ?_⟩) hHeld ?_
    rotate_left
    · intro W hSw; go_simp; try with_reducible rfl
    try simp only [Act.put, List.setIfInBounds_toArray, List.set_cons_zero, List.set_cons_succ]
    refine wpAnyH_take (i := 4) (oi := _) (v := ?_) rfl (by kernel_rfl) (by kernel_rfl) (by kernel_rfl) (fun _ _ _ h => h) (Or.inl ⟨by rfl, ?_⟩) hHeld ?_
    rotate_left
    · intro W hSw; go_simp; try with_reducible rfl
    try simp only [Act.put, List.setIfInBounds_toArray, List.set_cons_zero, List.set_cons_succ]
    refine wpAnyH_take (i := 7) (oi := _) (v := ?_) rfl (by kernel_rfl) (by kernel_rfl) (by kernel_rfl) (fun _ _ _ h => h) (Or.inl ⟨by rfl, ?_⟩) hHeld ?_
    rotate_left
    · intro W hSw; go_simp; try with_reducible rfl
    try simp only [Act.put, List.setIfInBounds_toArray, List.set_cons_zero, List.set_cons_succ]
    refine wpAnyH_take (i := 9) (oi := _) (v := ?_) rfl (by kernel_rfl) (by kernel_rfl) (by kernel_rfl) (fun _ _ _ h => h) (Or.inl ⟨by rfl, ?_⟩) hHeld ?_
    rotate_left
    · intro W hSw; go_simp; try with_reducible rfl
    try simp only [Act.put, List.setIfInBounds_toArray, List.set_cons_zero, List.set_cons_succ]
    refine wpAnyH_take (i := 3) (oi := _) (v := ?_) rfl (by kernel_rfl) (by kernel_rfl) (by kernel_rfl) (fun _ _ _ h => h) ?_ hHeld ?_
    · exact .agg (ints (t.1.take 64)).toArray
    · refine yieldsIf_load_mid ?_ 171 (.tmp 112) ?_ (w.heap.size + 1 + 1) 0 ?_ (ints (t.1.take 64)) _ ?_ hrowu ?_ hi1
      · rfl
      · rfl
      · kernel_rfl
      · exact fun W h => h.1
      · rfl
    try simp only [Act.put, List.setIfInBounds_toArray, List.set_cons_zero, List.set_cons_succ]
    refine wpAnyH_take (i := 5) (oi := _) (v := ?_) rfl (by kernel_rfl) (by kernel_rfl) (by kernel_rfl) (fun _ _ _ h => h) ?_ hHeld ?_
    · exact .agg (ints (t.1.drop 64)).toArray
    · refine yieldsIf_load_mid ?_ 171 (.tmp 114) ?_ (w.heap.size + 1 + 1) 64 ?_ (ints (t.1.drop 64)) _ ?_ hrowu ?_ hi2
      · rfl
      · rfl
      · kernel_rfl
      · exact fun W h => h.2
      · rfl
    try simp only [Act.put, List.setIfInBounds_toArray, List.set_cons_zero, List.set_cons_succ]
    refine wpAnyH_take (i := 8) (oi := _) (v := ?_) rfl (by kernel_rfl) (by kernel_rfl) (by kernel_rfl) (fun _ _ _ h => h) ?_ hHeld ?_
    · exact .agg (ints (t.1.drop 64)).toArray
    · refine yieldsIf_load_mid ?_ 171 (.tmp 117) ?_ (w.heap.size + 1 + 1) 64 ?_ (ints (t.1.drop 64)) _ ?_ hrowu ?_ hi2
      · rfl
      · rfl
      · kernel_rfl
      · exact fun W h => h.2
      · rfl
    try simp only [Act.put, List.setIfInBounds_toArray, List.set_cons_zero, List.set_cons_succ]
    refine wpAnyH_take (i := 10) (oi := _) (v := ?_) rfl (by kernel_rfl) (by kernel_rfl) (by kernel_rfl) (fun _ _ _ h => h) ?_ hHeld ?_
    · exact .agg (ints (t.1.take 64)).toArray
    · refine yieldsIf_load_mid ?_ 171 (.tmp 119) ?_ (w.heap.size + 1 + 1) 0 ?_ (ints (t.1.take 64)) _ ?_ hrowu ?_ hi1
      · rfl
      · rfl
      · kernel_rfl
      · exact fun W h => h.1
      · rfl
    try simp only [Act.put, List.setIfInBounds_toArray, List.set_cons_zero, List.set_cons_succ]
    have A := less_any _ _ 256 z.2 (t.1.take 64) (t.1.drop 64) _ HL1.out HL2.out m1d (by omega) hz2
    have hll := mLess_len 256 (t.1.take 64) (t.1.drop 64) z.2
    obtain ⟨l, hl⟩ : ∃ l, mLess 256 (t.1.take 64) (t.1.drop 64) z.2 = l := ⟨_, rfl⟩
    rw [hl] at A hll
    have hl80 : l.2.length ≤ 80000 := by omega
    have HLL := Lib.hid hl
    clear hl hll
    refine wpAnyH_ready (rs := [6]) (by kernel_rfl) (by simp) ?_
    refine AllReadyH.cons (o := _) rfl (fun K hK => ?_) AllReadyH.nil
    go_simp
    refine A.mono ?_
    rintro e w3 ⟨rfl, m3, t3⟩
    have X3 := t3.keep H2.out.1 (by decide) (by omega)
    have C3 := t3.keep H2.out.2.1 (by decide) (by omega)
    have R3 := t3.row H2.out.2.2 (by omega)
    have B3 := B1.drew.trans (t3.below (B := w.heap.size) (by simp; omega) (by omega) (by omega))
    clear A
    refine hK.out _ _ (pad2_range X3 (by omega)) (fun hHeld => ?_)
    clear hK K
    try simp only [Act.put, List.setIfInBounds_toArray, List.set_cons_zero, List.set_cons_succ]
    refine wpAnyH_ready (rs := [11]) (by kernel_rfl) (by simp) ?_
    refine AllReadyH.cons (o := _) rfl (fun K hK => ?_) AllReadyH.nil
    go_simp
    have A := pick_any _ _ 256 l.2 l.1 (t.1.drop 64) (t.1.take 64) _ HL2.out HL1.out m3 (by omega) hl80
    have hpl := (pickTo_len 256 l.1 (t.1.drop 64) (t.1.take 64) l.2 64).1
    obtain ⟨p, hp⟩ : ∃ p, pickTo 256 l.1 (t.1.drop 64) (t.1.take 64) l.2 64 = p := ⟨_, rfl⟩
    rw [hp] at A hpl
    have HP := Lib.hid hp
    clear hp
    refine A.mono ?_
    rintro e w4 ⟨rfl, m4, t4⟩
    have X4 := t4.keep X3 (by decide) (by omega)
    have hC := t4.keep C3 (by decide) (by omega)
    have R4 := t4.row R3 (by omega)
    have s3 := t3.size
    have B4 := B3.trans (t4.below (B := w.heap.size) (by simp at s3; omega) (by omega) (by omega))
    clear A
    refine hK.out _ _ (pad2_range X4 (by omega)) (fun hHeld => ?_)
    clear hK K
    try simp only [Act.put, List.setIfInBounds_toArray, List.set_cons_zero, List.set_cons_succ]
    refine wpAnyH_ready (rs := [12]) (by kernel_rfl) (by simp) ?_
    refine AllReadyH.cons (o := _) rfl (fun K hK => ?_) AllReadyH.nil
    rw [if_pos (by rfl)]
    refine wp_store_row 171 (.tmp 12) (.tmp 121) rfl br (ints p.1).toArray (by kernel_rfl) (by kernel_rfl) 171 _ R4 (info_rowOf _ hpl) (by simp [ints_length, hpl, pad_len]) (row_one _) ?_
    have hR := setRow_heap _ _ _ (ints p.1).toArray _ _ R4
    have m5 := m4.setRow R4 (ints p.1).toArray
    have B5 := below_setRow (g := br) B4 (by omega) (ints p.1).toArray
    have X5 := (setRow_other w4 br _ (ints p.1).toArray (by omega)).trans X4
    have hC5 := (setRow_other w4 br _ (ints p.1).toArray (by omega)).trans hC
    refine hK.out _ _ (pad2_range X5 (by omega)) (fun hHeld => ?_)
    clear hK K
    try simp only [Act.put, List.setIfInBounds_toArray, List.set_cons_zero, List.set_cons_succ]
    refine wpAnyH_done (by kernel_rfl) ?_ _
    generalize w4.setRow br (ints p.1).toArray = w6 at hR m5 B5 X5 hC5 ⊢
    have hgv1 : ∃ gv, w6.heap[w.heap.size + 1]? = some (.cells #[.int .i64 256, gv, .slice none 0 0] 169 (0, 0)) ∧ w6.ownsRow (w.heap.size + 1 + 1) 180 3 gv p.2.length (gcells p.2) := m5.2.2
    obtain ⟨gv, hh, hown⟩ := hgv1
    have hg1 := owns_one hown
    have e1 : w6.cell? ⟨w.heap.size + 1, 2, none⟩ = some (.slice none 0 0) := (cell_of_row _ _ _ _ _ _ hh).trans rfl
    have e2 := frozen_of_row w6 (w.heap.size + 1) 2 _ _ hh
    have hv1 : ∀ u, (w6.setCell ⟨w.heap.size + 1, 2, none⟩ u).heap[w.heap.size + 1]? = some (.cells #[.int .i64 256, gv, u] 169 (0, 0)) := fun u => by have := heap_setCell (j := 2) hh u; simpa using this
    have hv0 : ∀ u, (w6.setCell ⟨w.heap.size + 1, 2, none⟩ u).heap[w.heap.size]? = some (.cells #[.int .i64 0, .slice none 0 0, .slice none 0 0] 117 (0, 0)) := fun u => (heap_setCell_other' (by omega) u).trans hC5
    have HV := Lib.hid (And.intro hv1 hv0)
    have HK := Lib.hid (And.intro hR (And.intro hh hown))
    have HPL := Lib.hid hpl
    clear hv1 hv0 hh hown hR hC5 X5 hpl hHeld
    go_wp2_with (first | ((with_reducible show wpList _ _ _ (⟨_, Op.load _ (.tmp 129), _, _, _, _⟩ :: _) _ _); refine wpList_load_row rfl 117 _ rfl (w.heap.size + 1) rfl 169 _ _ _ (HV.out.1 _) Tryz.underlying117 rfl info_circuit ?_) | ((with_reducible show wpList _ _ _ (⟨_, Op.store _ (.tmp 4) (.tmp 130), _, _, _, _⟩ :: _) _ _); refine wpList_store_row rfl 117 _ _ rfl w.heap.size _ rfl rfl 117 _ (HV.out.2 _) info_circuit rfl (all_oneCell_toArray (by intro u hu; simp at hu; rcases hu with rfl | rfl | rfl <;> first | rfl | exact hg1)) ?_))
    refine bodyPost_ret (results_cell_tmp rfl _ _ w.heap.size 117 _ _ _ rfl (setRow_heap _ _ _ _ _ _ (HV.out.2 _)) Tryz.underlying117 rfl info_circuit) rfl ?_
    unfold MadeCirc
    rw [mMake_max 1 t HT.out z l p hz'.out HLL.out HP.out]
    have hbr : br ≠ w.heap.size + 1 := by omega
    refine ⟨gv, _, rfl, ?_, outs_arr (br := br) (t := 171) (fr := (0, 0)) ?_ HPL.out, below_setRow (B5.setCell (by simp) _) (Nat.le_refl _) _⟩
    · refine owns_base (owns_same HK.out.2.2 (fun g cur hg hbg => ?_)) (by omega)
      rw [setRow_other _ _ _ _ (by omega), heap_setCell_other' (by omega)]
    · rw [setRow_other _ _ _ _ (by omega), heap_setCell_other' hbr]; exact HK.out.1
end Go.Proofs.YtjbhgimhcjcpmaaGreatDoor
