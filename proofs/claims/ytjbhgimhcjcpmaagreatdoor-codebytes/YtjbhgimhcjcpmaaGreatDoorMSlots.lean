/-
  THE CONTRACT of plan.Slots.
-/
import Derived.Test.YtjbhgimhcjcpmaaGreatDoorMSort2
import Derived.Deep.Light
set_option linter.unusedSimpArgs false
set_option linter.unusedVariables false
namespace Go.Proofs.YtjbhgimhcjcpmaaGreatDoor
open Go.RowKit

/-- The cells and marks of a row of numbers that is known whole. -/
theorem row_at {w : World} {b : Nat} {l : List Int} (h : w.heap[b]? = some (.cells (ints l).toArray 3 (0, 0))) (k : Nat) (hk : k < l.length) :
    w.cell? ⟨b, k, none⟩ = some (.int .i64 (l.getD k 0)) ∧ w.frozen? ⟨b, k, none⟩ = false := by
  constructor
  · rw [cell_of_row _ _ _ _ _ _ h]; simp [ints, List.getD, hk]
  · simp [World.frozen?, h]
theorem row_set {w : World} {b : Nat} {l : List Int} (h : w.heap[b]? = some (.cells (ints l).toArray 3 (0, 0))) (k : Nat) (x : Int) :
    (w.setCell ⟨b, k, none⟩ (.int .i64 x)).heap[b]? = some (.cells (ints (l.set k x)).toArray 3 (0, 0)) := by
  rw [heap_setCell h]; simp [ints, List.map_set]

theorem own_keep {w w' : World} {base : Nat} {e : TypeId} {k : Nat} {v : Value} {n : Nat} {xs : List Value} (h : w.ownsRow base e k v n xs) (hk : ∀ j, v.ownBlock = some j → w'.heap[j]? = w.heap[j]?) : w'.ownsRow base e k v n xs := by
  rcases h.2 with h0 | ⟨g, cap, cur, hv, hb, hg, hr⟩
  · exact ⟨h.1, .inl h0⟩
  · exact ⟨h.1, .inr ⟨g, cap, cur, hv, hb, (hk g (by rw [hv]; rfl)).trans hg, hr⟩⟩

/-- The state of a round of Slots: last in block bl, slots in block bs, the free list in block bf, its row from base on. -/
structure SSt (w : World) (bl bs bf base : Nat) (last slots f : List Int) (v : Value) (wr : World) : Prop where
  lastb : wr.heap[bl]? = some (.cells (ints last).toArray 3 (0, 0))
  slotb : wr.heap[bs]? = some (.cells (ints slots).toArray 3 (0, 0))
  fat : FAt base bf wr f v
  below : Below w.heap.size w wr
  l1 : w.heap.size ≤ bl
  l2 : bl < bs
  l3 : bs < base
  l4 : base ≤ bf
theorem SSt.lt {w : World} {bl bs bf base : Nat} {last slots f : List Int} {v : Value} {wr : World} (h : SSt w bl bs bf base last slots f v wr) : bf < wr.heap.size := lt_of_block' h.fat.1
theorem SSt.own {w : World} {bl bs bf base : Nat} {last slots f : List Int} {v : Value} {wr : World} (h : SSt w bl bs bf base last slots f v wr) (j : Nat) (hj : v.ownBlock = some j) : base ≤ j ∧ j < wr.heap.size ∧ j ≠ bf :=
  ⟨(h.fat.2.1.lt j hj).1, (h.fat.2.1.lt j hj).2, fun e => own_ne h.fat.2.1 h.fat.1 (by decide) (by rw [hj, e])⟩
theorem SSt.later {w : World} {bl bs bf base : Nat} {last slots f : List Int} {v : Value} {wr W : World} (h : SSt w bl bs bf base last slots f v wr) (hb : Below wr.heap.size wr W) : SSt w bl bs bf base last slots f v W where
  lastb := (hb.block _ (lt_of_block' h.lastb)).trans h.lastb
  slotb := (hb.block _ (lt_of_block' h.slotb)).trans h.slotb
  fat := ⟨(hb.block _ h.lt).trans h.fat.1, Below.owns h.fat.2.1 hb, Nat.le_trans h.fat.2.2 hb.size⟩
  below := h.below.trans (hb.mono h.below.size)
  l1 := h.l1
  l2 := h.l2
  l3 := h.l3
  l4 := h.l4
theorem SSt.heap {w : World} {bl bs bf base : Nat} {last slots f f' : List Int} {v v' : Value} {wr W : World} (h : SSt w bl bs bf base last slots f v wr) (hf : FAt base bf W f' v') (hr : FFr bf v wr W) : SSt w bl bs bf base last slots f' v' W where
  lastb := (hr.block _ (lt_of_block' h.lastb) (by have := h.l2; have := h.l3; have := h.l4; omega) (fun e => by have := (h.own _ e).1; have := h.l2; have := h.l3; omega)).trans h.lastb
  slotb := (hr.block _ (lt_of_block' h.slotb) (by have := h.l3; have := h.l4; omega) (fun e => by have := (h.own _ e).1; have := h.l3; omega)).trans h.slotb
  fat := hf
  below := h.below.trans (hr.below (base := 0) (by have := h.l1; have := h.l2; have := h.l3; have := h.l4; omega) (fun k hk => by have := (h.own _ hk).1; have := h.l1; have := h.l2; have := h.l3; omega) h.below.size)
  l1 := h.l1
  l2 := h.l2
  l3 := h.l3
  l4 := h.l4
theorem SSt.last_at {w : World} {bl bs bf base : Nat} {last slots f : List Int} {v : Value} {wr : World} (h : SSt w bl bs bf base last slots f v wr) (k : Nat) (hk : k < last.length) : wr.cell? ⟨bl, k, none⟩ = some (.int .i64 (last.getD k 0)) := (row_at h.lastb k hk).1
theorem SSt.slot_at {w : World} {bl bs bf base : Nat} {last slots f : List Int} {v : Value} {wr : World} (h : SSt w bl bs bf base last slots f v wr) (k : Nat) (hk : k < slots.length) : wr.cell? ⟨bs, k, none⟩ = some (.int .i64 (slots.getD k 0)) ∧ wr.frozen? ⟨bs, k, none⟩ = false := row_at h.slotb k hk
theorem SSt.drewN {w : World} {bl bs bf base : Nat} {last slots f : List Int} {v : Value} {wr : World} (h : SSt w bl bs bf base last slots f v wr) (n : Nat) : SSt w bl bs bf base last slots f v (wr.drewN n) := ⟨h.lastb, h.slotb, h.fat, ⟨h.below.os, h.below.tape, h.below.output, h.below.size, h.below.block⟩, h.l1, h.l2, h.l3, h.l4⟩
/-- A row that is new is written. -/
theorem SSt.ofr {w : World} {bl bs bf base : Nat} {last slots f : List Int} {v v2 : Value} {wr W : World} (h : SSt w bl bs bf base last slots f v wr) (hr : OFr v2 wr W) (hn : ∀ j, v2.ownBlock = some j → bf < j ∧ v.ownBlock ≠ some j) : SSt w bl bs bf base last slots f v W where
  lastb := (hr.block _ (lt_of_block' h.lastb) (by have := lt_of_block' h.lastb; omega) (fun e => by have := (hn _ e).1; have := h.l2; have := h.l3; have := h.l4; omega)).trans h.lastb
  slotb := (hr.block _ (lt_of_block' h.slotb) (by have := lt_of_block' h.slotb; omega) (fun e => by have := (hn _ e).1; have := h.l3; have := h.l4; omega)).trans h.slotb
  fat := ⟨(hr.block _ h.lt (by have := h.lt; omega) (fun e => by have := (hn _ e).1; omega)).trans h.fat.1, own_keep h.fat.2.1 (fun j hj => hr.block j (h.own j hj).2.1 (by have := (h.own j hj).2.1; omega) (fun e => (hn j e).2 hj)), Nat.le_trans h.fat.2.2 hr.size⟩
  below := h.below.trans (hr.below (base := 0) h.below.size (fun k hk => by have := (hn _ hk).1; have := h.l1; have := h.l2; have := h.l3; have := h.l4; omega) h.below.size)
  l1 := h.l1
  l2 := h.l2
  l3 := h.l3
  l4 := h.l4
theorem SSt.setSlot {w : World} {bl bs bf base : Nat} {last slots f : List Int} {v : Value} {wr : World} (h : SSt w bl bs bf base last slots f v wr) (k : Nat) (x : Int) : SSt w bl bs bf base last (slots.set k x) f v (wr.setCell ⟨bs, k, none⟩ (.int .i64 x)) where
  lastb := (heap_setCell_other' (by have := h.l2; omega) _).trans h.lastb
  slotb := row_set h.slotb k x
  fat := ⟨(heap_setCell_other' (by have := h.l3; have := h.l4; omega) _).trans h.fat.1, ownsRow_setCell_other h.fat.2.1 (fun e => by have := (h.own bs e).1; have := h.l3; omega) _, by simpa using h.fat.2.2⟩
  below := h.below.setCell (p := ⟨bs, k, none⟩) (by have := h.l1; have := h.l2; show w.heap.size ≤ bs; omega) _
  l1 := h.l1
  l2 := h.l2
  l3 := h.l3
  l4 := h.l4
theorem SSt.start {w wr : World} {bl n : Nat} {last : List Int} (h : wr.heap[bl]? = some (.cells (ints last).toArray 3 (0, 0))) (hb : Below w.heap.size w wr) (hl : w.heap.size ≤ bl) :
    SSt w bl wr.heap.size (wr.heap.size + 1 + 1) (wr.heap.size + 1) last (List.replicate n 0) [] (.slice (some ⟨wr.heap.size + 1, 0, none⟩) 0 0)
      (((wr.alloc (.cells (ints (List.replicate n 0)).toArray 3)).alloc (.cells #[] 3)).alloc (.cells #[.slice (some ⟨wr.heap.size + 1, 0, none⟩) 0 0] 109)) where
  lastb := old3 _ _ _ h
  slotb := old1 _ (heap_alloc2_old _ _ _)
  fat := by
    have hs : ((wr.alloc (.cells (ints (List.replicate n 0)).toArray 3)).alloc (.cells #[] 3)).heap.size = wr.heap.size + 1 + 1 := by rw [World.size_alloc, World.size_alloc]
    refine ⟨?_, ⟨rfl, .inr ⟨wr.heap.size + 1, 0, #[], rfl, Nat.le_refl _, old1 _ (heap_alloc2_new _ _ _), Nat.le_refl _, Nat.zero_le _, rfl, rfl⟩⟩, by rw [World.size_alloc, hs]; omega⟩
    rw [← hs]; exact heap_alloc_new _ _
  below := ((hb.alloc hb.size _).alloc (by have := hb.size; rw [World.size_alloc]; omega) _).alloc (by have := hb.size; rw [World.size_alloc, World.size_alloc]; omega) _
  l1 := hl
  l2 := lt_of_block' h
  l3 := Nat.lt_succ_self _
  l4 := Nat.le_succ _

set_option maxHeartbeats 1000000 in
set_option maxRecDepth 100000 in
theorem slots_no (v : Value) (ops : List MOp) (w : World) (h : mCheck ops 65536 65536 = false) (hv : Arr w.heap.size w 6 v ops.length (ocells ops)) (hl : ops.length ≤ 1000000) (hc : ∀ o ∈ ops, o.c < 18446744073709551616) (hE : ErrT w) :
    Calls Tryz.prog 33 #[v] w fun e w' => e = .returned (.tuple #[.slice none 0 0, .int .i64 0]) ∧ Below w.heap.size w w' := by
  obtain ⟨ao, cc, rfl, hcc, hm, hx, hy⟩ := hv.open
  have h0 : 0 < ops.length := by
    rcases Nat.eq_zero_or_pos ops.length with h0 | h0
    · have : ops = [] := List.length_eq_zero_iff.1 h0
      subst this; exact absurd h (by decide)
    · exact h0
  have hne : ((0 : Int) != (ops.length : Int)) = true := by simp; omega
  have HV := Lib.hid hv
  have HE := Lib.hid hE
  have HC := Lib.hid hc
  have HH := Lib.hid h
  clear hv hE hc h hx hy hm
  go_enter Tryz.func33, Tryz.ntmps33
  go_wp2_with (go_at_call 54; go_must (refine (rounds_no _ ops _ HH.out HV.out hl HC.out HE.out).mono ?_; rintro e w1 ⟨rfl, hb1⟩; have HB1 := Lib.hid hb1; clear hb1))
  go_ret2
  exact ⟨rfl, HB1.out⟩

set_option maxHeartbeats 8000000 in
set_option maxRecDepth 100000 in
theorem slots_yes (v : Value) (ops : List MOp) (w : World) (h : mCheck ops 65536 65536 = true) (hv : Arr w.heap.size w 6 v ops.length (ocells ops)) (hl : ops.length ≤ 16384) (hc : ∀ o ∈ ops, o.c < 18446744073709551616) (hE : ErrT w) :
    Calls Tryz.prog 33 #[v] w fun e w' => ∃ u, e = .returned (.tuple #[u, .int .i64 (mSlots ops).2]) ∧ w'.ownsRow w.heap.size 3 1 u (mSlots ops).1.length (ints (mSlots ops).1) ∧ Below w.heap.size w w' := by
  have hpl := places_ahead h
  have hrn := mRounds_len ops
  rw [if_pos h] at hrn
  obtain ⟨ao, cc, rfl, hcc, hm, hx, hy⟩ := hv.open
  obtain ⟨i0, hi0, hz0, hs0, hb0⟩ := info_parts info_int
  have HV := Lib.hid hv
  have HE := Lib.hid hE
  have HC := Lib.hid hc
  have HH := Lib.hid h
  have HY := Lib.hid hy
  have HPL := Lib.hid hpl
  have HRN := Lib.hid hrn
  have hmk0 := fun (w : World) => run_make (P := Tryz.prog) w 24 3 i0 (.int .i64 0) Tryz.underlying24 hi0 hz0 .i64 .i64 ops.length ops.length (by omega) (by omega) (by rw [hb0]; omega) (by omega)
  have hmk : ∀ (w : World), (Instr.makeSlice 24 (.int .i64 ops.length) (.int .i64 ops.length)).run Tryz.prog w = .ok (.slice (some ⟨w.heap.size, 0, none⟩) ops.length ops.length) (w.alloc (.cells (ints (List.replicate ops.length 0)).toArray 3)) := by
    intro w
    have := hmk0 w
    rw [hs0, Int.toNat_natCast, Nat.mul_one, made_zero] at this
    exact this
  clear hv hE hc h hx hy hm hpl hrn hmk0 hi0 hz0 hs0 hb0
  go_enter Tryz.func33, Tryz.ntmps33
  go_wp2_with (go_at_call 54; go_must (refine (rounds_yes _ ops _ HH.out HV.out hl HC.out HE.out).mono ?_; rintro e w1 ⟨u, rfl, hown1, hb1⟩; rw [HRN.out] at hown1; obtain ⟨ao1, cc1, rfl, hcc1, hy1⟩ := own_open hown1; have HB1 := Lib.hid hb1; clear hb1 hown1 hy1))
  have hbl0 : w.heap.size ≤ w1.heap.size := HB1.out.size
  have HL0 := Lib.hid (heap_alloc_new w1 (.cells (ints (List.replicate ops.length 0)).toArray 3))
  have HB2 := Lib.hid (HB1.out.alloc hbl0 (.cells (ints (List.replicate ops.length 0)).toArray 3))
  generalize w1.heap.size = bl at HL0 hbl0 ⊢
  generalize w1.alloc (.cells (ints (List.replicate ops.length 0)).toArray 3) = W1 at HL0 HB2 ⊢
  go_loopg [28] ops.length (fun g i wr => ∃ (k : Nat) (L : List Int), k ≤ ops.length ∧ g = ops.length - k ∧ i = .int .i64 k ∧ Hid (L.length = ops.length) ∧ Hid (lastGo (ops.drop k) k L = mLast ops) ∧ Hid (wr.heap[bl]? = some (.cells (ints L).toArray 3 (0, 0))) ∧ Hid (Below w.heap.size w wr))
  case atStart => exact ⟨0, _, Nat.zero_le _, rfl, rfl, by simp [Hid], rfl, HL0.out, HB2.out⟩
  case round =>
    obtain ⟨k, L, hk, hg, rfl, HLL, HLG, HLB, HB⟩ := hrel
    clear HL0 HB2
    by_cases hkl : k < ops.length
    · obtain ⟨b, off, rfl, hbl, hcells⟩ := HY.out (by omega)
      obtain ⟨c0, c1, c2, c3, c4, c5⟩ := op_cells hcells HB.out hbl rfl k hkl
      have HD := Lib.hid (List.drop_eq_getElem_cons hkl)
      have HP := Lib.hid (HPL.out k hkl)
      generalize ops[k] = o at c0 c1 c2 c3 c4 c5 HD HP
      obtain ⟨x1, x2⟩ := row_at HLB.out k (by have := HLL.out; omega)
      have hlt := lt_of_block' HLB.out
      clear hcells
      go_wp2_with (go_at_call 60; go_must (refine (wantsL_any o _).mono ?_; unfold RetInts; rintro e w2 ⟨v2, rfl, hown2, hb2⟩; obtain ⟨ao2, cc2, rfl, hcc2, hy2⟩ := own_open hown2; have HY2 := Lib.hid hy2; have HB2 := Lib.hid (after1 hb2); clear hy2 hown2 hb2))
      have hX := HB2.out
      have hsx : (wr.setCell ⟨bl, k, none⟩ (.int .i64 k)).heap.size = wr.heap.size := by simp
      have HL2 := Lib.hid ((hX.2.1.block bl (by rw [hsx]; exact hlt)).trans (row_set HLB.out k k))
      have HBW2 := Lib.hid ((HB.out.setCell (p := ⟨bl, k, none⟩) hbl0 (.int .i64 k)).trans (hX.2.1.mono (by rw [hsx]; exact HB.out.size)))
      have hge : ∀ (g : Nat), (wr.setCell ⟨bl, k, none⟩ (.int .i64 k)).heap.size + 1 ≤ g → bl < g := fun g hg => by rw [hsx] at hg; omega
      have HGE := Lib.hid hge
      have hLk : (L.set k (k : Int)).length = ops.length := by simp; exact HLL.out
      have HLK := Lib.hid hLk
      obtain ⟨L1, hL1⟩ : ∃ L1, L.set k (k : Int) = L1 := ⟨_, rfl⟩
      rw [hL1] at HL2 HLK
      have HL1 := Lib.hid hL1
      obtain ⟨q, hq⟩ : ∃ q, mWantsL o = q := ⟨_, rfl⟩
      rw [hq] at HY2 hcc2 HP ⊢
      have HQ := Lib.hid hq
      have hq2 : q.length ≤ 2 := by rw [← hq]; exact mWantsL_len o
      clear hX hsx hge hLk hL1 hq c0 c1 c2 c3 c4 c5 x1 x2
      go_loopg [40] q.length (fun g i wq => ∃ (j : Nat) (M : List Int), j ≤ q.length ∧ g = q.length - j ∧ i = .int .i64 j ∧ Hid (M = (q.take j).foldl (fun L a => L.set a.toNat k) L1) ∧ Hid (M.length = ops.length) ∧ Hid (wq.heap[bl]? = some (.cells (ints M).toArray 3 (0, 0))) ∧ Hid (∀ b, b ≠ bl → wq.heap[b]? = w2.heap[b]?) ∧ Hid (Below w.heap.size w wq))
      case atStart => exact ⟨0, L1, Nat.zero_le _, rfl, rfl, rfl, HLK.out, HL2.out, fun _ _ => rfl, HBW2.out⟩
      case round =>
        obtain ⟨j, M, hj, hgj, rfl, HM, HML, HMB, HFR, HBQ⟩ := hrel
        by_cases hjl : j < q.length
        · obtain ⟨g2, rfl, hg2, hg3, hc2⟩ := HY2.out (by omega)
          have hgl := HGE.out g2 (by simpa using hg2)
          have hpj := HP.out q[j] (List.getElem_mem _)
          have hcx : wr.cell? ⟨g2, j, none⟩ = some (.int .i64 q[j]) := by
            have h1 := hc2 j (by omega)
            rw [ints_get q j hjl] at h1
            simp only [World.cell?] at h1 ⊢
            rw [HFR.out g2 (by omega)]; exact h1
          have HT := Lib.hid (show (q.take (j + 1)).foldl (fun L a => L.set a.toNat (k : Int)) L1 = M.set q[j].toNat k by rw [List.take_succ_eq_append_getElem hjl, List.foldl_append, ← HM.out]; rfl)
          generalize q[j] = a at hcx hpj HT
          obtain ⟨hp0, hp1⟩ := hpj
          obtain ⟨ja, rfl⟩ := Int.eq_ofNat_of_zero_le hp0
          have hjM : ja < M.length := by have := HML.out; omega
          obtain ⟨y1, y2⟩ := row_at HMB.out ja hjM
          have hjn : ja < ops.length := by have := HML.out; omega
          rw [Int.toNat_natCast] at HT
          clear hc2 hg2 hg3 hp0
          as_aux_lemma =>
            go_wp2_with fail
            go_roundg (q.length - (j + 1))
            case measure => omega
            case rel =>
              refine ⟨j + 1, _, by omega, rfl, by go_num, HT.out.symm, by simp [Hid]; exact HML.out, row_set HMB.out ja k, fun b hb => (heap_setCell_other' hb _).trans (HFR.out b hb), HBQ.out.setCell (p := ⟨bl, ja, none⟩) hbl0 _⟩
        · obtain rfl : j = q.length := by omega
          have HMM := Lib.hid (show M = lastStep L k o by rw [HM.out, List.take_length, lastStep, HQ.out, HL1.out])
          as_aux_lemma =>
            go_wp2_with fail
            go_roundg (ops.length - (k + 1))
            case measure => omega
            case rel =>
              refine ⟨k + 1, M, by omega, rfl, by go_num, HML.out, ?_, HMB.out, HBQ.out⟩
              unfold Hid
              rw [← HLG.out, HD.out, lastGo, HMM.out]
    · obtain rfl : k = ops.length := by omega
      have HLA := Lib.hid (show L = mLast ops by rw [← HLG.out, List.drop_length, lastGo])
      have HS0 := Lib.hid (SSt.start (n := ops.length) HLB.out HB.out hbl0)
      rw [HLA.out] at HS0
      have hcl0 := HS0.out.fat.cell
      clear HLB HLG HLL HB HLA
      go_wp2_with fail
      generalize wr.heap.size = bs at HS0 hcl0 ⊢
      clear hcl0
      go_loopg [10, 57] ops.length (fun g x i wq => ∃ (k : Nat) (s : SlotSt) (v : Value), k ≤ ops.length ∧ g = ops.length - k ∧ i = .int .i64 k ∧ x = .int .i64 s.arena ∧ 0 ≤ s.arena ∧ s.arena ≤ k ∧ s.slots.length = ops.length ∧ s.free.length ≤ 3 * k ∧
        Hid (slotGo (mLast ops) (ops.drop k) k s = slotGo (mLast ops) ops 0 (slots0 ops.length)) ∧ Hid (SSt w bl bs (bs + 1 + 1) (bs + 1) (mLast ops) s.slots s.free v wq))
      case atStart => exact ⟨0, slots0 ops.length, _, Nat.zero_le _, rfl, rfl, rfl, by simp [slots0], by simp [slots0], by simp [slots0], by simp [slots0], rfl, HS0.out⟩
      case round =>
        obtain ⟨k, s, vf, hk, hg, rfl, rfl, ha0, hak, hsl, hfl, HG, HS⟩ := hrel
        have hll := mLast_len ops
        by_cases hkl : k < ops.length
        · obtain ⟨b, off, rfl, hbl, hcells⟩ := HY.out (by omega)
          obtain ⟨c0, c1, c2, c3, c4, c5⟩ := op_cells hcells HS.out.below hbl rfl k hkl
          have HD := Lib.hid (List.drop_eq_getElem_cons hkl)
          have HP := Lib.hid (fun x hx => HPL.out k hkl x (mPlaces_sub _ x hx))
          generalize ops[k] = o at c0 c1 c2 c3 c4 c5 HD HP
          clear hcells
          have hbase := HS.out.lt
          go_wp2_with (first | (go_at_call 60; go_must (refine (wantsL_any o _).mono ?_; unfold RetInts; rintro e w2 ⟨v2, rfl, hown2, hb2⟩; have HO2 := Lib.hid hown2; have HA2 := Lib.hid (after1 hb2); clear hown2 hb2 c0 c1 c2 c3 c4 c5)) | (go_at_call 61; go_must (refine (sort_any v2 (mWantsL o) _ _ (mWantsL_len o) HO2.out).mono ?_; rintro e w3 ⟨rfl, hown3, hr3⟩; have HO3 := Lib.hid hown3; have HR3 := Lib.hid hr3; clear hown3 hr3)) | (go_at_call 62; go_must (refine (compact_any v2 (srt (mWantsL o)) _ _ (by rw [srt_len]; exact mWantsL_len o) HO3.out).mono ?_; rintro e w4 ⟨v4, rfl, hown4, hr4, hob4⟩; obtain ⟨ao4, cc4, rfl, hcc4, hy4⟩ := own_open hown4; have HO4 := Lib.hid hown4; have HR4 := Lib.hid hr4; have HOB := Lib.hid hob4; have HY4 := Lib.hid hy4; clear hown4 hr4 hob4 hy4)))
          have hS2 := HS.out.later HA2.out.2.1
          have hfar : ∀ j, v2.ownBlock = some j → bs + 1 + 1 < j ∧ vf.ownBlock ≠ some j := fun j hj => by
            have h1 := (HO2.out.lt j hj).1
            rw [World.size_alloc] at h1
            exact ⟨by omega, fun e => by have := (HS.out.own j e).2.1; omega⟩
          have hS4 := (hS2.ofr HR3.out hfar).ofr HR4.out hfar
          have hv4 : ∀ j, (Value.slice ao4 (cmp2 (srt (mWantsL o))).length cc4).ownBlock = some j → bs + 1 + 1 < j ∧ j < w4.heap.size ∧ vf.ownBlock ≠ some j := fun j hj => by
            rw [HOB.out] at hj
            have h1 := hfar j hj
            have h2 := (HO4.out.lt j (by rw [HOB.out]; exact hj)).2
            exact ⟨h1.1, h2, h1.2⟩
          have HS4 := Lib.hid hS4
          have HV4 := Lib.hid hv4
          clear hS2 hfar hS4 hv4
          obtain ⟨pl, hpl⟩ : ∃ pl, mPlaces o = pl := ⟨_, rfl⟩
          have hpl2 : cmp2 (srt (mWantsL o)) = pl := hpl
          rw [hpl2] at HY4 HV4 HO4 hcc4 ⊢
          rw [hpl] at HP
          have hp2 : pl.length ≤ 2 := by rw [← hpl]; exact mPlaces_len o
          have HPLE := Lib.hid hpl
          clear hpl hpl2 HO2 HA2 HO3 HR3 HR4 HOB
          go_loopg [69] pl.length (fun g i wq => ∃ (j : Nat) (f : List Int) (v : Value), j ≤ pl.length ∧ g = pl.length - j ∧ i = .int .i64 j ∧ f.length ≤ s.free.length + j ∧ Hid (f = (pl.take j).foldl (freed (mLast ops) s.slots k) s.free) ∧ Hid (SSt w bl bs (bs + 1 + 1) (bs + 1) (mLast ops) s.slots f v wq) ∧
            Hid (∀ x, (Value.slice ao4 pl.length cc4).ownBlock = some x → x < wq.heap.size ∧ v.ownBlock ≠ some x ∧ wq.heap[x]? = w4.heap[x]?))
          case atStart => exact ⟨0, s.free, vf, Nat.zero_le _, rfl, rfl, by omega, rfl, HS4.out, fun x hx => ⟨(HV4.out x hx).2.1, (HV4.out x hx).2.2, rfl⟩⟩
          case round =>
            obtain ⟨j, f, v, hj, hgj, rfl, hfj, HF, HSJ, HFR⟩ := hrel
            by_cases hjl : j < pl.length
            · obtain ⟨g4, rfl, hg4, hg5, hc4⟩ := HY4.out (by omega)
              have hfr := HFR.out g4 rfl
              have hcx : wr.cell? ⟨g4, j, none⟩ = some (.int .i64 pl[j]) := by
                have h1 := hc4 j (by omega)
                rw [ints_get pl j hjl] at h1
                simp only [World.cell?] at h1 ⊢
                rw [hfr.2.2]; exact h1
              have hpj := HP.out pl[j] (List.getElem_mem _)
              have HT := Lib.hid (show (pl.take (j + 1)).foldl (freed (mLast ops) s.slots k) s.free = freed (mLast ops) s.slots k f pl[j] by rw [List.take_succ_eq_append_getElem hjl, List.foldl_append, ← HF.out]; rfl)
              generalize pl[j] = a at hcx hpj HT
              obtain ⟨hp0, hp1⟩ := hpj
              obtain ⟨ja, rfl⟩ := Int.eq_ofNat_of_zero_le hp0
              have hjn : ja < ops.length := by omega
              have hla := HSJ.out.last_at ja (by rw [hll]; exact hjn)
              have hsa := (HSJ.out.slot_at ja (by rw [hsl]; exact hjn)).1
              have hcf := HSJ.out.fat.cell
              unfold freed at HT
              rw [Int.toNat_natCast] at HT
              obtain ⟨y, hy⟩ : ∃ y, (mLast ops).getD ja 0 = y := ⟨_, rfl⟩
              obtain ⟨z, hz⟩ : ∃ z, s.slots.getD ja 0 = z := ⟨_, rfl⟩
              rw [hy] at hla HT
              rw [hz] at hsa HT
              clear hc4 hg4 hg5 hfr hp0 hy hz
              by_cases hyk : y = k
              · subst hyk
                have HTT := Lib.hid (show _ = fPush f z from HT.out.trans (if_pos rfl))
                clear HT
                as_aux_lemma =>
                  go_wp2_with (go_at_call 63; go_must (refine (heapPush_any (bs + 1) (bs + 1 + 1) v f z _ HSJ.out.fat (by omega)).mono ?_; rintro e w5 ⟨rfl, v5, hf5, hr5, hl5⟩; have HF5 := Lib.hid hf5; have HR5 := Lib.hid hr5; have HL5 := Lib.hid hl5; clear hf5 hr5 hl5))
                  go_roundg (pl.length - (j + 1))
                  case measure => omega
                  case rel =>
                    refine ⟨j + 1, fPush f z, v5, by omega, rfl, by go_num, by rw [fPush_len]; omega, HTT.out.symm, HSJ.out.heap HF5.out HR5.out, fun x hx => ?_⟩
                    have h1 := HFR.out x hx
                    have h2 := HV4.out x hx
                    refine ⟨Nat.lt_of_lt_of_le h1.1 HR5.out.size, fun e => ?_, (HR5.out.block x h1.1 (by omega) h1.2.1).trans h1.2.2⟩
                    rcases HL5.out x e with h3 | h3
                    · exact h1.2.1 h3
                    · omega
              · have HTT := Lib.hid (show _ = f from HT.out.trans (if_neg hyk))
                have hyk' : (y == (k : Int)) = false := by simpa using hyk
                clear HT hyk
                as_aux_lemma =>
                  go_wp2_with fail
                  go_roundg (pl.length - (j + 1))
                  case measure => omega
                  case rel =>
                    exact ⟨j + 1, f, v, by omega, rfl, by go_num, by omega, HTT.out.symm, HSJ.out, HFR.out⟩
            · obtain rfl : j = pl.length := by omega
              have HFT := Lib.hid (show f = slotTake (mLast ops) k o s by rw [HF.out, List.take_length, slotTake, HPLE.out])
              have hcf := HSJ.out.fat.cell
              have hla := HSJ.out.last_at k (by rw [hll]; exact hkl)
              obtain ⟨y, hy⟩ : ∃ y, (mLast ops).getD k 0 = y := ⟨_, rfl⟩
              rw [hy] at hla
              have HYL := Lib.hid hy
              have hsk := HSJ.out.slot_at k (by rw [hsl]; exact hkl)
              obtain ⟨hsk1, hsk2⟩ := hsk
              clear hy HFR HF
              by_cases hf0 : 0 < f.length
              · obtain ⟨g5, cap5, rfl, hg5, hg6⟩ := HSJ.out.fat.2.1.form hf0
                have hc5 : wr.cell? ⟨g5, 0, none⟩ = some (.int .i64 (f.getD 0 0)) := by
                  have := HSJ.out.fat.2.1.cellAt 0 (by omega)
                  rw [ints_get f 0 hf0] at this
                  simpa [List.getD, hf0] using this
                have hf1 : (0 : Int) < f.length := by omega
                obtain ⟨x0, hx0⟩ : ∃ x0, f.getD 0 0 = x0 := ⟨_, rfl⟩
                rw [hx0] at hc5
                have HX0 := Lib.hid hx0
                have HSX := Lib.hid (HSJ.out.setSlot k x0)
                have hcx6 := HSX.out.fat.cell
                have HGV := Lib.hid (show slotGive k s f = ⟨s.slots.set k x0, s.arena, fPop f⟩ by rw [slotGive, if_pos hf0, hx0])
                clear hx0
                go_upto_region 33 with (first | (go_at_call 64; go_must (refine (len_any _ f.length _ _ HSJ.out.fat.arr).mono ?_; rintro e w' ⟨rfl, rfl⟩)) | (go_at_call 65; go_must (refine (heapPop_any (bs + 1) (bs + 1 + 1) _ f _ HSX.out.fat hf0 (by omega)).mono ?_; rintro e w6 ⟨⟨r6, rfl⟩, v6, hf6, hr6, hl6⟩; have HS6 := Lib.hid (HSX.out.heap hf6 hr6); clear hf6 hr6 hl6)))
                have hla6 := HS6.out.last_at k (by rw [hll]; exact hkl)
                rw [HYL.out] at hla6
                have hsk6 := (HS6.out.slot_at k (by rw [List.length_set, hsl]; exact hkl)).1
                have hgx : (s.slots.set k x0).getD k 0 = x0 := by simp [List.getD, hsl, hkl]
                rw [hgx] at hsk6
                have hcf6 := HS6.out.fat.cell
                clear hgx hcx6 hc5 hla hsk1 hsk2 hcf
                by_cases hyk : y = k
                · subst hyk
                  as_aux_lemma =>
                    go_wp2_with (go_at_call 63; go_must (refine (heapPush_any (bs + 1) (bs + 1 + 1) v6 (fPop f) x0 _ HS6.out.fat (by rw [fPop_len]; omega)).mono ?_; rintro e w7 ⟨rfl, v7, hf7, hr7, hl7⟩; have HF7 := Lib.hid hf7; have HR7 := Lib.hid hr7; clear hf7 hr7 hl7))
                    go_roundg (ops.length - (k + 1))
                    case measure => omega
                    case rel =>
                      refine ⟨k + 1, ⟨s.slots.set k x0, s.arena, fPush (fPop f) x0⟩, v7, by omega, rfl, by go_num, rfl, by simp only; omega, by simp only; omega, by simp only [List.length_set]; exact hsl, by simp only [fPush_len, fPop_len]; omega, ?_, HS6.out.heap HF7.out HR7.out⟩
                      unfold Hid
                      rw [← HG.out, HD.out, slotGo, slotStep, ← HFT.out]
                      rw [HGV.out, slotDone, if_pos HYL.out]; simp [List.getD, hsl, hkl]
                · have hyk' : (y == (k : Int)) = false := by simpa using hyk
                  have HNE := Lib.hid hyk
                  clear hyk
                  as_aux_lemma =>
                    go_wp2_with fail
                    go_roundg (ops.length - (k + 1))
                    case measure => omega
                    case rel =>
                      refine ⟨k + 1, ⟨s.slots.set k x0, s.arena, fPop f⟩, v6, by omega, rfl, by go_num, rfl, by simp only; omega, by simp only; omega, by simp only [List.length_set]; exact hsl, by simp only [fPop_len]; omega, ?_, HS6.out⟩
                      unfold Hid
                      rw [← HG.out, HD.out, slotGo, slotStep, ← HFT.out]
                      rw [HGV.out, slotDone, if_neg (by rw [HYL.out]; exact HNE.out)]
              · have hf1 : ¬ (0 : Int) < f.length := by omega
                have HSX := Lib.hid (HSJ.out.setSlot k s.arena)
                have hl23 := HSJ.out.l2
                have hlb1 : ¬ bs = bl := by omega
                have hlb2 : ¬ bl = bs := by omega
                have HGV := Lib.hid (show slotGive k s f = ⟨s.slots.set k s.arena, s.arena + 1, f⟩ by rw [slotGive, if_neg hf0])
                have hla6 := HSX.out.last_at k (by rw [hll]; exact hkl)
                rw [HYL.out] at hla6
                have hcf6 := HSX.out.fat.cell
                by_cases hyk : y = k
                · subst hyk
                  as_aux_lemma =>
                    go_wp2_with (first | (go_at_call 64; go_must (refine (len_any _ f.length _ _ HSJ.out.fat.arr).mono ?_; rintro e w' ⟨rfl, rfl⟩)) | (go_at_call 63; go_must (refine (heapPush_any (bs + 1) (bs + 1 + 1) v f s.arena _ HSX.out.fat (by omega)).mono ?_; rintro e w7 ⟨rfl, v7, hf7, hr7, hl7⟩; have HF7 := Lib.hid hf7; have HR7 := Lib.hid hr7; clear hf7 hr7 hl7)))
                    go_roundg (ops.length - (k + 1))
                    case measure => omega
                    case rel =>
                      refine ⟨k + 1, ⟨s.slots.set k s.arena, s.arena + 1, fPush f s.arena⟩, v7, by omega, rfl, by go_num, rfl, by simp only; omega, by simp only; omega, by simp only [List.length_set]; exact hsl, by simp only [fPush_len]; omega, ?_, HSX.out.heap HF7.out HR7.out⟩
                      unfold Hid
                      rw [← HG.out, HD.out, slotGo, slotStep, ← HFT.out]
                      rw [HGV.out, slotDone, if_pos HYL.out]; simp [List.getD, hsl, hkl]
                · have hyk' : (y == (k : Int)) = false := by simpa using hyk
                  have HNE := Lib.hid hyk
                  clear hyk
                  as_aux_lemma =>
                    go_wp2_with (go_at_call 64; go_must (refine (len_any _ f.length _ _ HSJ.out.fat.arr).mono ?_; rintro e w' ⟨rfl, rfl⟩))
                    go_roundg (ops.length - (k + 1))
                    case measure => omega
                    case rel =>
                      refine ⟨k + 1, ⟨s.slots.set k s.arena, s.arena + 1, f⟩, v, by omega, rfl, by go_num, rfl, by simp only; omega, by simp only; omega, by simp only [List.length_set]; exact hsl, by simp only; omega, ?_, HSX.out⟩
                      unfold Hid
                      rw [← HG.out, HD.out, slotGo, slotStep, ← HFT.out]
                      rw [HGV.out, slotDone, if_neg (by rw [HYL.out]; exact HNE.out)]
        · obtain rfl : k = ops.length := by omega
          have hr := HG.out
          rw [List.drop_length, slotGo] at hr
          have hm : mSlots ops = (s.slots, s.arena) := by rw [mSlots, if_pos HH.out, ← hr]
          have HM := Lib.hid hm
          clear hm hr
          go_wp2_with fail
          go_ret2
          rw [HM.out]
          refine ⟨_, rfl, ?_, HS.out.below⟩
          have h1 := HS.out.slotb
          have h2 := HS.out.l1
          have h3 := HS.out.l2
          rw [hsl]
          exact ⟨by simp [ints, hsl], .inr ⟨bs, ops.length, _, rfl, by omega, h1, Nat.le_refl _, by unfold maxLen; omega, by simp [ints, hsl], by
            rw [Nat.mul_one]; exact List.take_of_length_le (by rw [ints_length, hsl]; exact Nat.le_refl _)⟩⟩

theorem slots_any (v : Value) (ops : List MOp) (w : World) (hv : Arr w.heap.size w 6 v ops.length (ocells ops)) (hl : ops.length ≤ 1000000) (hc : ∀ o ∈ ops, o.c < 18446744073709551616) (hE : ErrT w) :
    Calls Tryz.prog 33 #[v] w fun e w' => ∃ u, e = .returned (.tuple #[u, .int .i64 (mSlots ops).2]) ∧ w'.ownsRow w.heap.size 3 1 u (mSlots ops).1.length (ints (mSlots ops).1) ∧ Below w.heap.size w w' := by
  by_cases h : mCheck ops 65536 65536 = true
  · refine slots_yes v ops w h hv ?_ hc hE
    simp only [mCheck, Bool.and_eq_true, decide_eq_true_eq] at h
    exact h.1.2
  · have h' : mCheck ops 65536 65536 = false := by simpa using h
    have e : mSlots ops = ([], 0) := by rw [mSlots, if_neg h]
    rw [e]
    exact (slots_no v ops w h' hv hl hc hE).mono fun e w' ⟨he, hb⟩ => ⟨_, he, World.ownsRow_nil _ _ _ _, hb⟩
end Go.Proofs.YtjbhgimhcjcpmaaGreatDoor
