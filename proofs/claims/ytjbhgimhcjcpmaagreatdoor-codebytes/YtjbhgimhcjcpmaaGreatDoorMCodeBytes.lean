/-
  THE LAW CodeBytes: its walk.
-/
import Derived.Test.YtjbhgimhcjcpmaaGreatDoorMAwake
import Derived.Test.YtjbhgimhcjcpmaaGreatDoorMDigest
import Derived.Test.YtjbhgimhcjcpmaaGreatDoorMRefDecSt
import Derived.Deep.RegionHeld3
import Derived.Deep.RegionHeld
import Derived.Test.YtjbhgimhcjcpmaaGreatDoorMLawOwn
import Derived.OpenShut
import Derived.Deep.Slices
import Derived.Test.YtjbhgimhcjcpmaaGreatDoorCards
import Derived.Test.YtjbhgimhcjcpmaaGreatDoorTie
import Derived.WalkKit
import Derived.ProofKit
import Derived.LaidHandle
import Derived.Deep.DeepHandedRow
import Derived.Deep.DeepWitnessRowRef
set_option linter.unusedSimpArgs false
set_option linter.unusedVariables false
namespace Go.Proofs.YtjbhgimhcjcpmaaGreatDoor
open Go.RowKit

theorem good_at {B : Nat} {W : World} {C : MPlan} {v : PVals} (h : PlanOwn B W C v) (hg : mGood C = true) (hc : ∀ o ∈ C.ops, o.c < 18446744073709551616) : PlanAt W.heap.size W C v := by
  obtain ⟨_, _, _, h1, _, h2⟩ := good_parts hg
  have a := (h2 C.in0 (.inl rfl)).1
  have b := (h2 C.in1 (.inr (.inl rfl))).1
  have c := (h2 C.shapes (.inr (.inr rfl))).1
  exact h.at (by omega) (by omega) (by omega) (by omega) hc
theorem below_row {z : Array Value} (w : World) (cs : Array Value) : Below w.heap.size w ((w.alloc (.cells z 30)).setRow w.heap.size cs) :=
  ((Below.refl _ _).alloc (Nat.le_refl _) _).grown (grown_setRow _ _ _) (by rw [World.size_alloc]; omega) (fun k hk => by obtain rfl := Option.some.inj hk; exact Nat.le_refl _)

/-- The two answers. -/
structure Byt (w : World) (C : MPlan) (q r : PVals) (Bp Bq : Nat) (W : World) : Prop where
  below : Below w.heap.size w W
  bp : W.heap[Bp]? = some (.cells (planArr C q) 30 (0, 0))
  bq : W.heap[Bq]? = some (.cells (planArr C r) 30 (0, 0))
  pq : PlanAt W.heap.size W C q
  pr : PlanAt W.heap.size W C r
theorem Byt.later {w : World} {C : MPlan} {q r : PVals} {Bp Bq : Nat} {W W' : World} (h : Byt w C q r Bp Bq W) (hb : Below W.heap.size W W') : Byt w C q r Bp Bq W' :=
  ⟨h.below.trans (hb.mono h.below.size), (hb.block _ (lt_of_block h.bp)).trans h.bp, (hb.block _ (lt_of_block h.bq)).trans h.bq, h.pq.later hb hb.size, h.pr.later hb hb.size⟩
theorem Byt.held {w : World} {C : MPlan} {q r : PVals} {Bp Bq gb off bc : Nat} {bs : List Nat} {W : World} (h : Byt w C q r Bp Bq W) (ha : Arr w.heap.size w 1 (.slice (some ⟨gb, off, none⟩) bs.length bc) bs.length (bts bs)) :
    (convert 33 9 (.slice (some ⟨gb, off, none⟩) bs.length bc)).run Tryz.prog W = .ok (.string (strB bs)) W ∧ W.cell? ⟨Bp, 0, none⟩ = some q.ops ∧ W.cell? ⟨Bp, 1, none⟩ = some (.int .i64 C.e0) ∧ W.cell? ⟨Bp, 2, none⟩ = some (.int .i64 C.e1) ∧ W.cell? ⟨Bp, 3, none⟩ = some q.slots ∧ W.cell? ⟨Bp, 4, none⟩ = some (.int .i64 C.arena) ∧ W.cell? ⟨Bp, 5, none⟩ = some (.int .i64 C.need.tri) ∧ W.cell? ⟨Bp, 6, none⟩ = some (.int .i64 C.need.bits) ∧ W.cell? ⟨Bp, 7, none⟩ = some (.int .i64 C.need.ots) ∧ W.cell? ⟨Bp, 8, none⟩ = some (.int .i64 C.need.t0) ∧ W.cell? ⟨Bp, 9, none⟩ = some (.int .i64 C.need.t1) ∧ W.cell? ⟨Bp, 10, none⟩ = some (.int .i64 C.need.rounds) ∧ W.cell? ⟨Bp, 11, none⟩ = some (.int .i64 C.need.w0) ∧ W.cell? ⟨Bp, 12, none⟩ = some (.int .i64 C.need.w1) ∧ W.cell? ⟨Bp, 13, none⟩ = some q.shapes ∧ W.cell? ⟨Bp, 14, none⟩ = some q.in0 ∧ W.cell? ⟨Bp, 15, none⟩ = some q.in1 ∧ W.cell? ⟨Bq, 0, none⟩ = some r.ops ∧ W.cell? ⟨Bq, 1, none⟩ = some (.int .i64 C.e0) ∧ W.cell? ⟨Bq, 2, none⟩ = some (.int .i64 C.e1) ∧ W.cell? ⟨Bq, 3, none⟩ = some r.slots ∧ W.cell? ⟨Bq, 4, none⟩ = some (.int .i64 C.arena) ∧ W.cell? ⟨Bq, 5, none⟩ = some (.int .i64 C.need.tri) ∧ W.cell? ⟨Bq, 6, none⟩ = some (.int .i64 C.need.bits) ∧ W.cell? ⟨Bq, 7, none⟩ = some (.int .i64 C.need.ots) ∧ W.cell? ⟨Bq, 8, none⟩ = some (.int .i64 C.need.t0) ∧ W.cell? ⟨Bq, 9, none⟩ = some (.int .i64 C.need.t1) ∧ W.cell? ⟨Bq, 10, none⟩ = some (.int .i64 C.need.rounds) ∧ W.cell? ⟨Bq, 11, none⟩ = some (.int .i64 C.need.w0) ∧ W.cell? ⟨Bq, 12, none⟩ = some (.int .i64 C.need.w1) ∧ W.cell? ⟨Bq, 13, none⟩ = some r.shapes ∧ W.cell? ⟨Bq, 14, none⟩ = some r.in0 ∧ W.cell? ⟨Bq, 15, none⟩ = some r.in1 := by
  obtain ⟨⟨c0, c1, c2, c3, c4⟩, ⟨c5, c6, c7, c8, c9, c10, c11, c12⟩, c13, c14, c15⟩ := plan_cells h.bp
  obtain ⟨⟨q0, q1, q2, q3, q4⟩, ⟨q5, q6, q7, q8, q9, q10, q11, q12⟩, q13, q14, q15⟩ := plan_cells h.bq
  exact ⟨conv_arr (ha.later h.below h.below.size) rfl, c0, c1, c2, c3, c4, c5, c6, c7, c8, c9, c10, c11, c12, c13, c14, c15, q0, q1, q2, q3, q4, q5, q6, q7, q8, q9, q10, q11, q12, q13, q14, q15⟩

set_option maxHeartbeats 8000000 in
set_option maxRecDepth 100000 in
theorem codeBytes_walk (v : Value) (bs : List Nat) (w : World) (hv : Arr w.heap.size w 1 v bs.length (bts bs)) (h8 : ∀ x ∈ bs, x < 256) (hE : ErrT w) :
    Calls Tryz.prog 4 #[v] w (RetB (.bool true) w) := by
  obtain ⟨ao, cc, rfl, hcc, hm, hx, hy⟩ := hv.open
  have HV := Lib.hid hv
  have H8 := Lib.hid h8
  have HE := Lib.hid hE
  have HY := Lib.hid hy
  unfold maxLen at hm
  clear hv h8 hE hx hy
  by_cases hlen : 20000 < bs.length
  · have d1 : decide ((20000 : Int) < (bs.length : Int)) = true := decide_eq_true (by omega)
    have d2 : decide (20000 < bs.length) = true := decide_eq_true hlen
    as_aux_lemma =>
      go_enter Tryz.func4, Tryz.ntmps4
      go_upto_region 2 with (go_at_call 6; go_must (refine (awake_any _ HE.out).mono ?_; unfold RetB; rintro e w1 ⟨rfl, hb1⟩; have HB1 := Lib.hid hb1; clear hb1))
      go_wp2_with (go_at_call 6; go_must (refine (awake_any _ (HE.out.below HB1.out)).mono ?_; unfold RetB; rintro e w2 ⟨rfl, hb2⟩; have HB2 := Lib.hid (HB1.out.trans (hb2.mono HB1.out.size)); clear hb2))
      go_ret
      exact ⟨rfl, HB2.out⟩
  have d1 : decide ((20000 : Int) < (bs.length : Int)) = false := decide_eq_false (by omega)
  have d2 : decide (20000 < bs.length) = false := decide_eq_false hlen
  go_enter Tryz.func4, Tryz.ntmps4
  go_upto_region 3 with (go_at_call 6; go_must (refine (awake_any _ HE.out).mono ?_; unfold RetB; rintro e w1 ⟨rfl, hb1⟩; have HB1 := Lib.hid hb1; clear hb1))
  rcases hn : mDecode bs with _ | C
  · have HN := Lib.hid hn
    clear hn
    as_aux_lemma =>
      go_upto_region 4 with (first | (at_builtin; refine app_arr rfl _ _ 33 rfl 5 (.int .u8 0) 1 1 Tryz.underlying33 info_u8 rfl (by decide) 0 bs.length w1.heap.size w1.heap.size (.slice (some ⟨w1.heap.size, 0, none⟩) 0 0) (.slice ao bs.length cc) [] (bts bs) (World.ownsRow_made w1 #[] 0 (Nat.le_refl _) (by unfold maxLen; omega) rfl) ((HV.out.later HB1.out HB1.out.size).later ((Below.refl _ _).alloc (Nat.le_refl _) _) (Nat.le_refl _)) rfl rfl (bts_one _) (by rw [World.size_alloc]; omega) (by omega) (by unfold maxLen; omega) ?_; intro v8 w8 ho hg _; rw [Nat.zero_add] at ho; obtain ⟨a8, c8, rfl, -⟩ := own_open ho; have hb8 := ((Below.refl w1.heap.size w1).alloc (Nat.le_refl _) (.cells #[] 5)).grown hg (by rw [World.size_alloc]; omega) (fun k hk => by obtain rfl := Option.some.inj hk; exact Nat.le_refl _); have HB8 := Lib.hid (HB1.out.trans (hb8.mono HB1.out.size)); have HA8 := Lib.hid (show Arr w8.heap.size w8 1 (.slice a8 bs.length c8) bs.length (bts bs) from Arr.of_owns ho); clear ho hg hb8) | (go_at_call 10; go_must (refine (decode_any bs _ _ HA8.out (by omega) H8.out (HE.out.below HB8.out)).mono ?_; unfold DecPost; rw [HN.out]; rintro e w9 ⟨er, rfl, ⟨l9, hu⟩, hb⟩; obtain ⟨T9, x9, rfl⟩ := hu.form; have HU9 := Lib.hid hu; have HB9 := Lib.hid (HB8.out.trans (hb.mono HB8.out.size)); clear hb hu)) | ((with_reducible show wpList _ _ _ (⟨_, Op.store 30 (.tmp 3) _, _, _, _, _⟩ :: _) _ _); go_must (refine wpList_store_row rfl 30 _ _ rfl w9.heap.size zeroPlan rfl rfl 30 zeroPlan (heap_alloc_new w9 _) info_planZ rfl zero_one ?_)))
      have hn := below_row (z := zeroPlan) w9 zeroPlan
      have HP10 := Lib.hid (setRow_heap _ _ _ zeroPlan _ _ (heap_alloc_new w9 (.cells zeroPlan 30)) : ((w9.alloc (.cells zeroPlan 30)).setRow w9.heap.size zeroPlan).heap[w9.heap.size]? = _)
      have HU10 := Lib.hid (HU9.out.later hn hn.size)
      have HB10 := Lib.hid (HB9.out.trans (hn.mono HB9.out.size))
      clear HU9 HB9 hn HA8 HB8
      simp only [zeroPlan] at HP10 HU10 HB10 ⊢
      generalize World.setRow _ _ _ = W10 at HP10 HU10 HB10 ⊢
      generalize w9.heap.size = Bp at HP10 ⊢
      go_upto_region 5 with (first | (go_at_call 11; go_must (refine (refDecode_any bs _ _ (HV.out.later HB10.out HB10.out.size) (by omega) H8.out).mono ?_; unfold RDecPost; rw [HN.out]; rintro e w11 ⟨rfl, hb⟩; have HU11 := Lib.hid (HU10.out.later hb hb.size); have HP11 := Lib.hid ((hb.block _ (lt_of_block HP10.out)).trans HP10.out); have HB11 := Lib.hid (HB10.out.trans (hb.mono HB10.out.size)); clear hb)) | ((with_reducible show wpList _ _ _ (⟨_, Op.store 30 (.tmp 5) _, _, _, _, _⟩ :: _) _ _); go_must (refine wpList_store_row rfl 30 _ _ rfl w11.heap.size zeroPlan rfl rfl 30 zeroPlan (heap_alloc_new w11 _) info_planZ rfl zero_one ?_)))
      have hn := below_row (z := zeroPlan) w11 zeroPlan
      have HP12 := Lib.hid ((hn.block _ (lt_of_block HP11.out)).trans HP11.out)
      have HU12 := Lib.hid (HU11.out.later hn hn.size)
      have HB12 := Lib.hid (HB11.out.trans (hn.mono HB11.out.size))
      clear HU11 HB11 HP11 hn
      simp only [zeroPlan] at HP12 HU12 HB12 ⊢
      generalize World.setRow _ _ _ = W12 at HP12 HU12 HB12 ⊢
      go_wp2_with (first | (go_at_call 12; go_must (refine (Code_any l9 180 _ _ _ HU12.out (Nat.le_refl _) (HE.out.below HB12.out)).mono ?_; unfold RetB; rintro e w13 ⟨rfl, hb⟩; have HP13 := Lib.hid ((hb.block _ (lt_of_block HP12.out)).trans HP12.out); have HB13 := Lib.hid (HB12.out.trans (hb.mono HB12.out.size)); obtain ⟨⟨c0, c1, c2, c3, c4⟩, ⟨c5, c6, c7, c8, c9, c10, c11, c12⟩, c13, c14, c15⟩ := plan_cells (p := plan0) (v := pv0) HP13.out; simp only [plan0, pv0, need00] at c0 c1 c2 c3 c4 c5 c6 c7 c8 c9 c10 c11 c12 c13 c14 c15; clear hb)) | (go_at_call 9; go_must (refine (refSame_yes plan0 pv0 pv0 _ (planAt0 _) (planAt0 _)).mono ?_; unfold RetB; rintro e w14 ⟨rfl, hb⟩; have HB14 := Lib.hid (HB13.out.trans (hb.mono HB13.out.size)); clear hb)))
      go_ret
      exact ⟨rfl, HB14.out⟩
  obtain ⟨hg, hpb, hc⟩ := mDecode_some hn H8.out
  have HG := Lib.hid hg
  have HC := Lib.hid hc
  have HBS := Lib.hid hpb
  have hN0 : 0 < bs.length := by
    rw [← hpb]
    simp [planBytes, headBytes, flat]
  have HN := Lib.hid hn
  clear hn hg hc hpb
  obtain ⟨gb, off, rfl, hbl, _⟩ := HY.out hN0
  clear HY
  go_upto_region 4 with (first | (at_builtin; refine app_arr rfl _ _ 33 rfl 5 (.int .u8 0) 1 1 Tryz.underlying33 info_u8 rfl (by decide) 0 bs.length w1.heap.size w1.heap.size (.slice (some ⟨w1.heap.size, 0, none⟩) 0 0) (.slice (some ⟨gb, off, none⟩) bs.length cc) [] (bts bs) (World.ownsRow_made w1 #[] 0 (Nat.le_refl _) (by unfold maxLen; omega) rfl) ((HV.out.later HB1.out HB1.out.size).later ((Below.refl _ _).alloc (Nat.le_refl _) _) (Nat.le_refl _)) rfl rfl (bts_one _) (by rw [World.size_alloc]; omega) (by omega) (by unfold maxLen; omega) ?_; intro v8 w8 ho hg _; rw [Nat.zero_add] at ho; obtain ⟨a8, c8, rfl, -⟩ := own_open ho; have hb8 := ((Below.refl w1.heap.size w1).alloc (Nat.le_refl _) (.cells #[] 5)).grown hg (by rw [World.size_alloc]; omega) (fun k hk => by obtain rfl := Option.some.inj hk; exact Nat.le_refl _); have HB8 := Lib.hid (HB1.out.trans (hb8.mono HB1.out.size)); have HA8 := Lib.hid (show Arr w8.heap.size w8 1 (.slice a8 bs.length c8) bs.length (bts bs) from Arr.of_owns ho); clear ho hg hb8) | (go_at_call 10; go_must (refine (decode_any bs _ _ HA8.out (by omega) H8.out (HE.out.below HB8.out)).mono ?_; unfold DecPost; rw [HN.out]; rintro e w9 ⟨q, rfl, ho, hb⟩; have HQ9 := Lib.hid (ho.base HB8.out.size); have HB9 := Lib.hid (HB8.out.trans (hb.mono HB8.out.size)); clear hb ho)) | ((with_reducible show wpList _ _ _ (⟨_, Op.store 30 (.tmp 3) _, _, _, _, _⟩ :: _) _ _); go_must (refine wpList_store_row rfl 30 _ _ rfl w9.heap.size (planArr C q) rfl rfl 30 zeroPlan (heap_alloc_new w9 _) info_planR rfl (planArr_one HQ9.out) ?_)))
  have hn := below_row (z := zeroPlan) w9 (planArr C q)
  have HP10 := Lib.hid (setRow_heap _ _ _ (planArr C q) _ _ (heap_alloc_new w9 (.cells zeroPlan 30)) : ((w9.alloc (.cells zeroPlan 30)).setRow w9.heap.size (planArr C q)).heap[w9.heap.size]? = _)
  have HQ10 := Lib.hid ((good_at HQ9.out HG.out HC.out).later hn hn.size)
  have HB10 := Lib.hid (HB9.out.trans (hn.mono HB9.out.size))
  clear HQ9 HB9 hn HA8 HB8
  simp only [zeroPlan] at HP10 HQ10 HB10 ⊢
  generalize World.setRow _ _ _ = W10 at HP10 HQ10 HB10 ⊢
  generalize w9.heap.size = Bp at HP10 ⊢
  go_upto_region 7 with (first | (go_at_call 11; go_must (refine (refDecode_any bs _ _ (HV.out.later HB10.out HB10.out.size) (by omega) H8.out).mono ?_; unfold RDecPost; rw [HN.out]; rintro e w11 ⟨r, rfl, ho, hb⟩; have HR11 := Lib.hid (good_at ho HG.out HC.out); have HO11 := Lib.hid ho; have HQ11 := Lib.hid (HQ10.out.later hb hb.size); have HP11 := Lib.hid ((hb.block _ (lt_of_block HP10.out)).trans HP10.out); have HB11 := Lib.hid (HB10.out.trans (hb.mono HB10.out.size)); clear hb ho)) | ((with_reducible show wpList _ _ _ (⟨_, Op.store 30 (.tmp 5) _, _, _, _, _⟩ :: _) _ _); go_must (refine wpList_store_row rfl 30 _ _ rfl w11.heap.size (planArr C r) rfl rfl 30 zeroPlan (heap_alloc_new w11 _) info_planR rfl (planArr_one HO11.out) ?_)))
  have hn := below_row (z := zeroPlan) w11 (planArr C r)
  have HF := Lib.hid (show Byt w C q r Bp w11.heap.size ((w11.alloc (.cells zeroPlan 30)).setRow w11.heap.size (planArr C r)) from
    ⟨HB11.out.trans (hn.mono HB11.out.size), (hn.block _ (lt_of_block HP11.out)).trans HP11.out, setRow_heap _ _ _ _ _ _ (heap_alloc_new w11 _), HQ11.out.later hn hn.size, HR11.out.later hn hn.size⟩)
  clear HQ11 HB11 HP11 HR11 HO11 hn HQ10 HB10 HP10
  simp only [zeroPlan] at HF ⊢
  generalize World.setRow _ _ _ = W12 at HF ⊢
  generalize w11.heap.size = Bq at HF ⊢
  as_aux_lemma =>
    have HFd := Lib.hid (HF.out.later (Below.refl _ _).drew)
    have hs0 := HFd.out.held HV.out
    first | (go_region_held (fun W => (convert 33 9 (.slice (some ⟨gb, off, none⟩) bs.length cc)).run Tryz.prog W = .ok (.string (strB bs)) W ∧ W.cell? ⟨Bp, 0, none⟩ = some q.ops ∧ W.cell? ⟨Bp, 1, none⟩ = some (.int .i64 C.e0) ∧ W.cell? ⟨Bp, 2, none⟩ = some (.int .i64 C.e1) ∧ W.cell? ⟨Bp, 3, none⟩ = some q.slots ∧ W.cell? ⟨Bp, 4, none⟩ = some (.int .i64 C.arena) ∧ W.cell? ⟨Bp, 5, none⟩ = some (.int .i64 C.need.tri) ∧ W.cell? ⟨Bp, 6, none⟩ = some (.int .i64 C.need.bits) ∧ W.cell? ⟨Bp, 7, none⟩ = some (.int .i64 C.need.ots) ∧ W.cell? ⟨Bp, 8, none⟩ = some (.int .i64 C.need.t0) ∧ W.cell? ⟨Bp, 9, none⟩ = some (.int .i64 C.need.t1) ∧ W.cell? ⟨Bp, 10, none⟩ = some (.int .i64 C.need.rounds) ∧ W.cell? ⟨Bp, 11, none⟩ = some (.int .i64 C.need.w0) ∧ W.cell? ⟨Bp, 12, none⟩ = some (.int .i64 C.need.w1) ∧ W.cell? ⟨Bp, 13, none⟩ = some q.shapes ∧ W.cell? ⟨Bp, 14, none⟩ = some q.in0 ∧ W.cell? ⟨Bp, 15, none⟩ = some q.in1 ∧ W.cell? ⟨Bq, 0, none⟩ = some r.ops ∧ W.cell? ⟨Bq, 1, none⟩ = some (.int .i64 C.e0) ∧ W.cell? ⟨Bq, 2, none⟩ = some (.int .i64 C.e1) ∧ W.cell? ⟨Bq, 3, none⟩ = some r.slots ∧ W.cell? ⟨Bq, 4, none⟩ = some (.int .i64 C.arena) ∧ W.cell? ⟨Bq, 5, none⟩ = some (.int .i64 C.need.tri) ∧ W.cell? ⟨Bq, 6, none⟩ = some (.int .i64 C.need.bits) ∧ W.cell? ⟨Bq, 7, none⟩ = some (.int .i64 C.need.ots) ∧ W.cell? ⟨Bq, 8, none⟩ = some (.int .i64 C.need.t0) ∧ W.cell? ⟨Bq, 9, none⟩ = some (.int .i64 C.need.t1) ∧ W.cell? ⟨Bq, 10, none⟩ = some (.int .i64 C.need.rounds) ∧ W.cell? ⟨Bq, 11, none⟩ = some (.int .i64 C.need.w0) ∧ W.cell? ⟨Bq, 12, none⟩ = some (.int .i64 C.need.w1) ∧ W.cell? ⟨Bq, 13, none⟩ = some r.shapes ∧ W.cell? ⟨Bq, 14, none⟩ = some r.in0 ∧ W.cell? ⟨Bq, 15, none⟩ = some r.in1) (first | with_reducible exact hs0 | with_reducible exact hs1 | with_reducible exact hs2 | fail "keep") (first | (go_at_call 9; refine (refSame_yes C q r _ HFd.out.pq HFd.out.pr).mono ?_; unfold RetB; rintro e w13 ⟨rfl, hb⟩; have HF1 := Lib.hid (HFd.out.later hb); have hs1 := HF1.out.held HV.out; clear hb) | (go_at_call 13; refine (refEncode_any C r _ HF1.out.pr HG.out).mono ?_; rw [HBS.out]; rintro e w14 ⟨ue, rfl, ho, hb⟩; obtain ⟨ae, ce, rfl, -, hge⟩ := own_open ho; obtain ⟨ge, rfl, -, -, -⟩ := hge hN0; have hcv : (convert 33 9 (.slice (some ⟨ge, 0, none⟩) bs.length ce)).run Tryz.prog w14 = .ok (.string (strB bs)) w14 := conv_arr (show Arr w14.heap.size w14 1 (.slice (some ⟨ge, 0, none⟩) bs.length ce) bs.length (bts bs) from Arr.of_owns ho) rfl; have HF2 := Lib.hid (HF1.out.later hb); have hs2 := HF2.out.held HV.out; clear hb ho hge))) | (fail "region")
    all_goals
      go_wp2_with fail
      go_ret
      exact ⟨rfl, HF2.out.below⟩
end Go.Proofs.YtjbhgimhcjcpmaaGreatDoor

/-
  An argument of type api.Plan, opened: whatever reads as one is a plan in memory, as data.
-/
namespace Go.Proofs.YtjbhgimhcjcpmaaGreatDoor
open Go.ChangeShapes Go.WideShapes Go.RowKit

theorem drop_take_one {cs : List Value} {i : Nat} {v : Value} (h : (cs.drop i).take 1 = [v]) : cs[i]? = some v := by
  have h1 : ((cs.drop i).take 1)[0]? = some v := by rw [h]; rfl
  simpa [List.getElem?_take] using h1

theorem flat_get {α : Type} (f : α → List Value) (k : Nat) (hf : ∀ a, (f a).length = k) (hk : 0 < k) : ∀ (l : List α) (q : Nat) (h : q / k < l.length), (l.flatMap f)[q]? = (f l[q / k])[q % k]?
  | [], q, h => by simp at h
  | y :: l, q, h => by
    rw [List.flatMap_cons]
    by_cases hq : q < k
    · rw [List.getElem?_append_left (by rw [hf]; exact hq), Nat.mod_eq_of_lt hq]
      simp [Nat.div_eq_of_lt hq]
    · have h1 : q / k = (q - k) / k + 1 := by rw [Nat.div_eq_sub_div hk (by omega)]
      have h2 : q % k = (q - k) % k := Nat.mod_eq_sub_mod (by omega)
      have h3 : (q - k) / k < l.length := by rw [h1] at h; simpa using h
      rw [List.getElem?_append_right (by rw [hf]; omega), hf, flat_get f k hf hk l (q - k) h3, h2]
      simp [h1]

/-- A slice, opened to a list of whatever its elements are. -/
theorem open_arr {α : Type} {H : Type} {enc : TypeId × Value → H} {P : Program} {w : World} {spare : Nat → Bool} {t e : TypeId} {k fuel : Nat} {cs : List Value} {x : DataW H × List MemPlace}
    (f : α → List Value) (R : α → Prop) (hf : ∀ a, (f a).length = k) (hk : 0 < k) (ht : P.underlying t = some (.slice e)) (ck : P.cellsOf e = k)
    (each : ∀ (n : Nat) (cs' : List Value) (d : DataW H × List MemPlace), DataW.trod enc P w 0 spare true n e cs' = some d → ∃ a, cs' = f a ∧ R a)
    (h : DataW.trod enc P w 0 spare true fuel t cs = some x) :
    ∃ (v : Value) (l : List α), cs = [v] ∧ (∀ a ∈ l, R a) ∧ Arr w.heap.size w k v l.length (l.flatMap f) := by
  subst ck
  rcases Go.Deep.open_slice ht h with ⟨rfl, _⟩ | ⟨a, len, cap, m, n, D, Pl, rfl, _, hl, hm, hmm, _, hx⟩
  · exact ⟨_, [], rfl, fun _ h => (by cases h), Arr.nil _ _ _⟩
  · have hlm : len ≤ m := by rw [hmm]; split <;> omega
    have key : ∀ j, j ≤ len → ∃ l : List α, l.length = j ∧ (∀ a ∈ l, R a) ∧ ∀ i (hi : i < l.length), w.cells? 0 (a.add (i * P.cellsOf e)) (P.cellsOf e) = some (f l[i]) := by
      intro j
      induction j with
      | zero => exact fun _ => ⟨[], rfl, fun _ h => (by cases h), fun i hi => (by simp at hi)⟩
      | succ j ih =>
        intro hj
        obtain ⟨l, h1, h2, h3⟩ := ih (by omega)
        obtain ⟨cs', h4, h5⟩ := hx j (by omega)
        obtain ⟨y, rfl, hy⟩ := each _ _ _ h5
        refine ⟨l ++ [y], by simp [h1], fun z hz => ?_, fun i hi => ?_⟩
        · rcases List.mem_append.1 hz with hz | hz
          · exact h2 z hz
          · obtain rfl := List.mem_singleton.1 hz; exact hy
        · by_cases hil : i < l.length
          · rw [List.getElem_append_left hil]; exact h3 i hil
          · have : i = j := by simp at hi; omega
            subst this
            rw [List.getElem_append_right (by omega)]
            simpa [h1] using h4
    obtain ⟨l, h1, h2, h3⟩ := key len (Nat.le_refl _)
    refine ⟨_, l, rfl, h2, some a, cap, by rw [h1], by omega, hm, fun h => (by cases h), ?_, ?_⟩
    · clear h2 h3 h1; induction l with
      | nil => simp
      | cons y l ih => simp [List.flatMap_cons, ih, hf, Nat.succ_mul, Nat.add_comm]
    · by_cases h0 : l.length = 0
      · exact .inl h0
      right
      obtain ⟨b, off, spot⟩ := a
      have hc0 := World.cells?_some (h3 0 (by omega))
      have hcell : ∀ i (hi : i < l.length) j (hj : j < P.cellsOf e), w.cell? ((Addr.add ⟨b, off, spot⟩ (i * P.cellsOf e)).add j) = (f l[i])[j]? := fun i hi j hj => (World.cells?_some (h3 i hi)).2.2 j hj
      have hspot : spot = none := by
        have h4 := hcell 0 (by omega) 0 hk
        rw [List.getElem?_eq_getElem (by rw [hf]; exact hk)] at h4
        simpa [Addr.add] using World.cell?_spot h4
      subst hspot
      refine ⟨b, off, rfl, ?_, fun q hq => ?_⟩
      · have h6 := World.cells?_block (h3 0 (by omega)) hk
        simpa [Addr.add] using h6
      · have hq1 : q / P.cellsOf e < l.length := Nat.div_lt_of_lt_mul (by rw [Nat.mul_comm]; exact hq)
        have h5 := hcell (q / P.cellsOf e) hq1 (q % P.cellsOf e) (Nat.mod_lt _ hk)
        rw [Go.Deep.add_add, Nat.mul_comm, Nat.div_add_mod, Go.WideShapes.add_plain] at h5
        rw [h5]
        exact (flat_get f (P.cellsOf e) hf hk l q hq1).symm

section
variable {H : Type} {enc : TypeId × Value → H} {w : World} {spare : Nat → Bool} {fuel : Nat} {cs : List Value} {x : DataW H × List MemPlace}
theorem c_int : Tryz.prog.cellsOf 3 = 1 := by kernel_rfl
theorem c_ints : Tryz.prog.cellsOf 24 = 1 := by kernel_rfl
theorem c_shapes : Tryz.prog.cellsOf 27 = 1 := by kernel_rfl
theorem c_two : Tryz.prog.cellsOf 23 = 2 := by kernel_rfl
theorem c_ins : Tryz.prog.cellsOf 28 = 2 := by kernel_rfl
theorem c_need : Tryz.prog.cellsOf 26 = 8 := by kernel_rfl
theorem c_op : Tryz.prog.cellsOf 44 = 6 := by kernel_rfl
theorem c_ops : Tryz.prog.cellsOf 22 = 1 := by kernel_rfl
theorem c_kind : Tryz.prog.cellsOf 42 = 1 := by kernel_rfl
theorem c_u64 : Tryz.prog.cellsOf 41 = 1 := by kernel_rfl
theorem c_plan : Tryz.prog.cellsOf 30 = 16 := by kernel_rfl

theorem flat_ints (l : List Int) : l.flatMap (fun n => [Value.int .i64 n]) = ints l := by
  induction l with
  | nil => rfl
  | cons a l ih => rw [List.flatMap_cons, ih]; rfl
theorem flat_fst {β : Type} (l : List (Value × β)) : l.flatMap (fun p => [p.1]) = l.map (·.1) := by
  induction l with
  | nil => rfl
  | cons a l ih => rw [List.flatMap_cons, ih]; rfl

theorem open_ilist (h : DataW.trod enc Tryz.prog w 0 spare true fuel 24 cs = some x) : ∃ v l, cs = [v] ∧ Arr w.heap.size w 1 v l.length (ints l) := by
  obtain ⟨v, l, rfl, _, h⟩ := open_arr (fun n : Int => [Value.int .i64 n]) (fun _ => True) (fun _ => rfl) (by decide) Tryz.underlying24 c_int
    (fun n cs' d hd => by obtain ⟨z, rfl, _⟩ := DataW.trod_int Tryz.underlying3 hd; exact ⟨z, rfl, trivial⟩) h
  exact ⟨v, l, rfl, by rwa [flat_ints] at h⟩
theorem nest_of {B : Nat} {w : World} : ∀ (l : List (Value × List Int)), (∀ a ∈ l, Arr B w 1 a.1 a.2.length (ints a.2)) → Nest B w (l.map (·.1)) ((l.map (·.2)).map ints)
  | [], _ => trivial
  | a :: l, h => ⟨by have := h a List.mem_cons_self; rwa [← ints_length a.2] at this, nest_of l fun b hb => h b (List.mem_cons_of_mem _ hb)⟩
theorem open_shapes (h : DataW.trod enc Tryz.prog w 0 spare true fuel 27 cs = some x) : ∃ v l, cs = [v] ∧ ShAt w.heap.size w v l := by
  obtain ⟨v, l, rfl, hR, h⟩ := open_arr (fun p : Value × List Int => [p.1]) (fun p => Arr w.heap.size w 1 p.1 p.2.length (ints p.2)) (fun _ => rfl) (by decide) Tryz.underlying27 c_ints
    (fun n cs' d hd => by obtain ⟨z, s, rfl, hs⟩ := open_ilist hd; exact ⟨(z, s), rfl, hs⟩) h
  refine ⟨v, l.map (·.2), rfl, l.map (·.1), by simp, ?_, nest_of l hR⟩
  rw [flat_fst] at h
  rwa [List.length_map]
theorem open_two (h : DataW.trod enc Tryz.prog w 0 spare true fuel 23 cs = some x) : ∃ a b, cs[0]? = some (.int .i64 a) ∧ cs[1]? = some (.int .i64 b) := by
  obtain ⟨xs, m, rfl, _, hl, hn, hx⟩ := DataW.trod_array Tryz.underlying23 h
  have each : ∀ i, i < 2 → ∃ a, cs[i]? = some (.int .i64 a) := fun i hi => by
    have h1 := hx i hi
    rw [List.getElem?_eq_getElem (by rw [hn]; exact hi), c_int] at h1
    obtain ⟨a, h2, _⟩ := DataW.trod_int Tryz.underlying3 h1
    exact ⟨a, by simpa using drop_take_one h2⟩
  obtain ⟨a, ha⟩ := each 0 (by decide)
  obtain ⟨b, hb⟩ := each 1 (by decide)
  exact ⟨a, b, ha, hb⟩
theorem open_ins (h : DataW.trod enc Tryz.prog w 0 spare true fuel 28 cs = some x) : ∃ v0 v1 l0 l1, cs[0]? = some v0 ∧ cs[1]? = some v1 ∧ ShAt w.heap.size w v0 l0 ∧ ShAt w.heap.size w v1 l1 := by
  obtain ⟨xs, m, rfl, _, hl, hn, hx⟩ := DataW.trod_array Tryz.underlying28 h
  have each : ∀ i, i < 2 → ∃ v l, cs[i]? = some v ∧ ShAt w.heap.size w v l := fun i hi => by
    have h1 := hx i hi
    rw [List.getElem?_eq_getElem (by rw [hn]; exact hi), c_shapes] at h1
    obtain ⟨v, l, h2, h3⟩ := open_shapes h1
    exact ⟨v, l, by simpa using drop_take_one h2, h3⟩
  obtain ⟨v0, l0, ha, h0⟩ := each 0 (by decide)
  obtain ⟨v1, l1, hb, h1⟩ := each 1 (by decide)
  exact ⟨v0, v1, l0, l1, ha, hb, h0, h1⟩
theorem drop_take_get {cs : List Value} {o n j : Nat} (hj : j < n) : ((cs.drop o).take n)[j]? = cs[o + j]? := by
  rw [List.getElem?_take_of_lt hj, List.getElem?_drop]
set_option maxRecDepth 100000 in
theorem open_op (h : DataW.trod enc Tryz.prog w 0 spare true fuel 44 cs = some x) : ∃ o : MOp, cs = o.cells ∧ o.c < 18446744073709551616 := by
  obtain ⟨xs, m, rfl, _, hl, hn, hx⟩ := DataW.trod_struct Tryz.underlying44 h
  have g0 : DataW.trod enc Tryz.prog w 0 spare true m 42 ((cs.drop 0).take 1) = xs[0]? := (congrArg (fun k => DataW.trod enc Tryz.prog w 0 spare true m 42 ((cs.drop 0).take k)) c_kind).symm.trans (hx 0 _ rfl)
  have g1 : DataW.trod enc Tryz.prog w 0 spare true m 3 ((cs.drop 1).take 1) = xs[1]? := (congrArg (fun k => DataW.trod enc Tryz.prog w 0 spare true m 3 ((cs.drop 1).take k)) c_int).symm.trans (hx 1 _ rfl)
  have g2 : DataW.trod enc Tryz.prog w 0 spare true m 3 ((cs.drop 2).take 1) = xs[2]? := (congrArg (fun k => DataW.trod enc Tryz.prog w 0 spare true m 3 ((cs.drop 2).take k)) c_int).symm.trans (hx 2 _ rfl)
  have g3 : DataW.trod enc Tryz.prog w 0 spare true m 3 ((cs.drop 3).take 1) = xs[3]? := (congrArg (fun k => DataW.trod enc Tryz.prog w 0 spare true m 3 ((cs.drop 3).take k)) c_int).symm.trans (hx 3 _ rfl)
  have g4 : DataW.trod enc Tryz.prog w 0 spare true m 41 ((cs.drop 4).take 1) = xs[4]? := (congrArg (fun k => DataW.trod enc Tryz.prog w 0 spare true m 41 ((cs.drop 4).take k)) c_u64).symm.trans (hx 4 _ rfl)
  have g5 : DataW.trod enc Tryz.prog w 0 spare true m 3 ((cs.drop 5).take 1) = xs[5]? := (congrArg (fun k => DataW.trod enc Tryz.prog w 0 spare true m 3 ((cs.drop 5).take k)) c_int).symm.trans (hx 5 _ rfl)
  rw [c_op] at hl
  have hn6 : xs.length = 6 := hn
  rw [List.getElem?_eq_getElem (by omega)] at g0 g1 g2 g3 g4 g5
  obtain ⟨n0, e0, _⟩ := DataW.trod_int Tryz.underlying42 g0
  obtain ⟨n1, e1, _⟩ := DataW.trod_int Tryz.underlying3 g1
  obtain ⟨n2, e2, _⟩ := DataW.trod_int Tryz.underlying3 g2
  obtain ⟨n3, e3, _⟩ := DataW.trod_int Tryz.underlying3 g3
  obtain ⟨n4, e4, _, hw4⟩ := DataW.trod_int Tryz.underlying41 g4
  obtain ⟨n5, e5, _⟩ := DataW.trod_int Tryz.underlying3 g5
  have b4 := bounds_u64 hw4
  refine ⟨⟨n0, n1, n2, n3, n4.toNat, n5⟩, ?_, by show n4.toNat < _; omega⟩
  have k0 := drop_take_one e0
  have k1 := drop_take_one e1
  have k2 := drop_take_one e2
  have k3 := drop_take_one e3
  have k4 := drop_take_one e4
  have k5 := drop_take_one e5
  clear hx g0 g1 g2 g3 g4 g5 e0 e1 e2 e3 e4 e5
  match cs, hl with
  | [a0, a1, a2, a3, a4, a5], _ =>
    simp at k0 k1 k2 k3 k4 k5
    subst k0 k1 k2 k3 k4 k5
    simp only [MOp.cells]
    rw [Int.toNat_of_nonneg b4.1]
theorem open_ops (h : DataW.trod enc Tryz.prog w 0 spare true fuel 22 cs = some x) : ∃ v l, cs = [v] ∧ (∀ o ∈ l, o.c < 18446744073709551616) ∧ Arr w.heap.size w 6 v l.length (ocells l) :=
  open_arr MOp.cells (fun o => o.c < 18446744073709551616) (fun _ => rfl) (by decide) Tryz.underlying22 c_op (fun n cs' d hd => open_op hd) h
set_option maxRecDepth 100000 in
theorem open_need (h : DataW.trod enc Tryz.prog w 0 spare true fuel 26 cs = some x) : ∃ q : MNeed, cs = [.int .i64 q.tri, .int .i64 q.bits, .int .i64 q.ots, .int .i64 q.t0, .int .i64 q.t1, .int .i64 q.rounds, .int .i64 q.w0, .int .i64 q.w1] := by
  obtain ⟨xs, m, rfl, _, hl, hn, hx⟩ := DataW.trod_struct Tryz.underlying26 h
  have g0 : DataW.trod enc Tryz.prog w 0 spare true m 3 ((cs.drop 0).take 1) = xs[0]? := (congrArg (fun k => DataW.trod enc Tryz.prog w 0 spare true m 3 ((cs.drop 0).take k)) c_int).symm.trans (hx 0 _ rfl)
  have g1 : DataW.trod enc Tryz.prog w 0 spare true m 3 ((cs.drop 1).take 1) = xs[1]? := (congrArg (fun k => DataW.trod enc Tryz.prog w 0 spare true m 3 ((cs.drop 1).take k)) c_int).symm.trans (hx 1 _ rfl)
  have g2 : DataW.trod enc Tryz.prog w 0 spare true m 3 ((cs.drop 2).take 1) = xs[2]? := (congrArg (fun k => DataW.trod enc Tryz.prog w 0 spare true m 3 ((cs.drop 2).take k)) c_int).symm.trans (hx 2 _ rfl)
  have g3 : DataW.trod enc Tryz.prog w 0 spare true m 23 ((cs.drop 3).take 2) = xs[3]? := (congrArg (fun k => DataW.trod enc Tryz.prog w 0 spare true m 23 ((cs.drop 3).take k)) c_two).symm.trans (hx 3 _ rfl)
  have g4 : DataW.trod enc Tryz.prog w 0 spare true m 3 ((cs.drop 5).take 1) = xs[4]? := (congrArg (fun k => DataW.trod enc Tryz.prog w 0 spare true m 3 ((cs.drop 5).take k)) c_int).symm.trans (hx 4 _ rfl)
  have g5 : DataW.trod enc Tryz.prog w 0 spare true m 23 ((cs.drop 6).take 2) = xs[5]? := (congrArg (fun k => DataW.trod enc Tryz.prog w 0 spare true m 23 ((cs.drop 6).take k)) c_two).symm.trans (hx 5 _ rfl)
  rw [c_need] at hl
  have hn6 : xs.length = 6 := hn
  rw [List.getElem?_eq_getElem (by omega)] at g0 g1 g2 g3 g4 g5
  obtain ⟨n0, e0, _⟩ := DataW.trod_int Tryz.underlying3 g0
  obtain ⟨n1, e1, _⟩ := DataW.trod_int Tryz.underlying3 g1
  obtain ⟨n2, e2, _⟩ := DataW.trod_int Tryz.underlying3 g2
  obtain ⟨a3, b3, e3, f3⟩ := open_two g3
  obtain ⟨n4, e4, _⟩ := DataW.trod_int Tryz.underlying3 g4
  obtain ⟨a5, b5, e5, f5⟩ := open_two g5
  have k0 := drop_take_one e0
  have k1 := drop_take_one e1
  have k2 := drop_take_one e2
  have k4 := drop_take_one e4
  rw [drop_take_get (by decide)] at e3 f3 e5 f5
  clear hx g0 g1 g2 g3 g4 g5 e0 e1 e2 e4
  refine ⟨⟨n0, n1, n2, a3, b3, n4, a5, b5⟩, ?_⟩
  match cs, hl with
  | [c0, c1, c2, c3, c4, c5, c6, c7], _ =>
    simp at k0 k1 k2 k4 e3 f3 e5 f5
    subst k0 k1 k2 k4 e3 f3 e5 f5
    rfl
end

set_option maxRecDepth 100000 in
/-- WHAT READS AS A PLAN IS ONE IN MEMORY. -/
theorem plan_open {H : Type} {enc : TypeId × Value → H} {w : World} {spare : Nat → Bool} {r : Reach} {base : Nat} {v : Value} {d : DataW H} {ps : List MemPlace}
    (hval : Value.okWide Tryz.prog w r base 30 v) (h : DataW.Trod enc Tryz.prog w 0 spare true 30 v d ps) : ∃ p u, v = .agg (planArr p u) ∧ PlanIn w.heap.size w p u := by
  obtain ⟨cs, rfl, hsz⟩ := okWide_struct Tryz.underlying30 hval
  obtain ⟨fuel, h⟩ := h
  obtain ⟨xs, m, rfl, _, hl, hn, hx⟩ := DataW.trod_struct Tryz.underlying30 h
  rw [c_plan] at hsz
  obtain ⟨cs⟩ := cs
  have hsz : cs.length = 16 := hsz
  have g0 : DataW.trod enc Tryz.prog w 0 spare true m 22 ((cs.drop 0).take 1) = xs[0]? := (congrArg (fun k => DataW.trod enc Tryz.prog w 0 spare true m 22 ((cs.drop 0).take k)) c_ops).symm.trans (hx 0 _ rfl)
  have g1 : DataW.trod enc Tryz.prog w 0 spare true m 23 ((cs.drop 1).take 2) = xs[1]? := (congrArg (fun k => DataW.trod enc Tryz.prog w 0 spare true m 23 ((cs.drop 1).take k)) c_two).symm.trans (hx 1 _ rfl)
  have g2 : DataW.trod enc Tryz.prog w 0 spare true m 24 ((cs.drop 3).take 1) = xs[2]? := (congrArg (fun k => DataW.trod enc Tryz.prog w 0 spare true m 24 ((cs.drop 3).take k)) c_ints).symm.trans (hx 2 _ rfl)
  have g3 : DataW.trod enc Tryz.prog w 0 spare true m 3 ((cs.drop 4).take 1) = xs[3]? := (congrArg (fun k => DataW.trod enc Tryz.prog w 0 spare true m 3 ((cs.drop 4).take k)) c_int).symm.trans (hx 3 _ rfl)
  have g4 : DataW.trod enc Tryz.prog w 0 spare true m 26 ((cs.drop 5).take 8) = xs[4]? := (congrArg (fun k => DataW.trod enc Tryz.prog w 0 spare true m 26 ((cs.drop 5).take k)) c_need).symm.trans (hx 4 _ rfl)
  have g5 : DataW.trod enc Tryz.prog w 0 spare true m 27 ((cs.drop 13).take 1) = xs[5]? := (congrArg (fun k => DataW.trod enc Tryz.prog w 0 spare true m 27 ((cs.drop 13).take k)) c_shapes).symm.trans (hx 5 _ rfl)
  have g6 : DataW.trod enc Tryz.prog w 0 spare true m 28 ((cs.drop 14).take 2) = xs[6]? := (congrArg (fun k => DataW.trod enc Tryz.prog w 0 spare true m 28 ((cs.drop 14).take k)) c_ins).symm.trans (hx 6 _ rfl)
  have hn7 : xs.length = 7 := hn
  rw [List.getElem?_eq_getElem (by omega)] at g0 g1 g2 g3 g4 g5 g6
  obtain ⟨v0, ops, e0, hc, hops⟩ := open_ops g0
  obtain ⟨a1, b1, e1, f1⟩ := open_two g1
  obtain ⟨v2, slots, e2, hslots⟩ := open_ilist g2
  obtain ⟨n3, e3, _⟩ := DataW.trod_int Tryz.underlying3 g3
  obtain ⟨q, e4⟩ := open_need g4
  obtain ⟨v5, sh, e5, hsh⟩ := open_shapes g5
  obtain ⟨v6, v7, l6, l7, e6, f6, h6, h7⟩ := open_ins g6
  have k0 := drop_take_one e0
  have k2 := drop_take_one e2
  have k3 := drop_take_one e3
  have k5 := drop_take_one e5
  rw [drop_take_get (by decide)] at e1 f1 e6 f6
  clear hx g0 g1 g2 g3 g4 g5 g6 e0 e2 e3 e5 hl h
  refine ⟨⟨ops, a1, b1, slots, n3, q, sh, l6, l7⟩, ⟨v0, v2, v5, v6, v7⟩, ?_, hops, hslots, hsh, h6, h7, hc⟩
  match cs, hsz with
  | [c0, c1, c2, c3, c4, c5, c6, c7, c8, c9, c10, c11, c12, c13, c14, c15], _ =>
    simp at k0 k2 k3 k5 e1 f1 e6 f6 e4
    obtain ⟨r5, r6, r7, r8, r9, r10, r11, r12⟩ := e4
    subst k0 k2 k3 k5 e1 f1 e6 f6 r5 r6 r7 r8 r9 r10 r11 r12
    rfl
end Go.Proofs.YtjbhgimhcjcpmaaGreatDoor

/-
  CodeBytes returns true and leaves its argument as it was, at all bytes. The card ties the one listed package-level variable of the pruned copy.
-/
namespace Go.Proofs.YtjbhgimhcjcpmaaGreatDoor
open Go.ChangeShapes Go.WideShapes Go.RowKit

/-- What a law with one argument leaves that returned true and wrote below the old heap's end nothing. -/
theorem law_true {H : Type} {enc : TypeId × Value → H} {P : Program} {f : Func} {s : ChangeSpec} {t tb : TypeId} {W W' : World} {v : Value} {d : DataW H} {p before : List MemPlace}
    (hp : f.params = #[t]) (hr : f.resultTypes = #[tb]) (htb : P.underlying tb = some .bool) (hl : laidOutB P = true) (hrr : P.readableRec t = true) (hrow : t < P.types.size)
    (hsv : s.vars = []) (hfn : s.fn H [d] = { results := [.lit (.bool true)], args := [d] })
    (hW : DataW.Whole enc P f.params.toList s.vars false W [v] [d] [] before) (h0 : DataW.Trod enc P W 0 (fun _ => true) true t v d p) (hpb : before = p ++ []) (hb : Below W.heap.size W W') :
    s.post enc P f false true false false W #[v] (.bool true) W' := by
  have hlt : ∀ x ∈ before, x.block < W.heap.size := fun x hx => hW.lt x hx
  rw [List.append_nil] at hpb
  subst hpb
  have again : ∀ sp : Nat → Bool, (∀ x ∈ before, sp x.block = true) → DataW.TrodAll enc P W' 0 sp true f.params.toList [v] (s.fn H [d]).args (before ++ []) := fun sp hsp => by
    rw [hp, hfn]
    exact trodAll_cons_mk (WideElems.Trod_stays hl hrr hrow h0 (fun x hx => hb.same (hlt x hx)) hsp) trodAll_mk0
  have res : ∀ (b : Nat) (sp : Nat → Bool) (hd : Bool), DataW.TrodAll enc P W' b sp hd f.resultTypes.toList ((Value.bool true).resultList f.resultTypes.size) (s.fn H [d]).results [] := fun b sp hd => by
    rw [hr, hfn]
    exact trodAll_cons_mk (shut_bool htb _) trodAll_mk0
  have vars : ∀ sp : Nat → Bool, DataW.TrodVars enc P W' sp s.vars (s.fn H [d]).vars [] := fun sp => by
    rw [hsv, hfn]
    exact rfl
  refine ⟨[d], [], before, [], before ++ [], [], hW, res _ _ _, again _ (fun x hx => by simpa using hlt x hx), vars _, World.keptBut_mono (fun x hx => ⟨hx, .inr ?_⟩) (hb.frame (· ∈ before)), fun _ => ?_⟩
  · simpa using hx
  · obtain ⟨_, _, _, _, _, hz, hn⟩ := hW
    refine ⟨ok_one hr rfl (okWide_bool_mk htb _), _, _, ([] ++ (before ++ [])) ++ [], ⟨[] ++ (before ++ []), [], trodAll_append (again _ (fun _ _ => rfl)) (res _ _ _), vars _, rfl, ?_, ?_⟩, ?_⟩
    · intro b off hx
      have hin : MemPlace.cell b off ∈ before := by simpa using hx
      exact (hb.frozen (hlt _ hin)).trans (hz b off hin)
    · intro ha; cases ha
    · intro x hx _
      simpa using hx

theorem c_byte : Tryz.prog.cellsOf 5 = 1 := by kernel_rfl
theorem flat_bts (l : List Nat) : l.flatMap (fun n : Nat => [Value.int .u8 (n : Int)]) = bts l := by
  induction l with
  | nil => rfl
  | cons a l ih => rw [List.flatMap_cons, ih]; rfl
set_option maxRecDepth 100000 in
/-- WHAT READS AS BYTES ARE BYTES IN MEMORY. -/
theorem bytes_open {H : Type} {enc : TypeId × Value → H} {w : World} {spare : Nat → Bool} {r : Reach} {base : Nat} {v : Value} {d : DataW H} {ps : List MemPlace}
    (hval : Value.okWide Tryz.prog w r base 33 v) (h : DataW.Trod enc Tryz.prog w 0 spare true 33 v d ps) : ∃ bs : List Nat, (∀ x ∈ bs, x < 256) ∧ Arr w.heap.size w 1 v bs.length (bts bs) := by
  obtain ⟨a, len, cap, rfl⟩ := okWide_slice Tryz.underlying33 hval
  obtain ⟨fuel, h⟩ := h
  obtain ⟨v', l, hv, hR, ha⟩ := open_arr (fun n : Nat => [Value.int .u8 (n : Int)]) (fun n => n < 256) (fun _ => rfl) (by decide) Tryz.underlying33 c_byte
    (fun n cs' d hd => by
      obtain ⟨z, rfl, _, hw⟩ := DataW.trod_int Tryz.underlying5 hd
      have hb := bounds_u8 hw
      exact ⟨z.toNat, by rw [Int.toNat_of_nonneg hb.1], by omega⟩) h
  have hv2 : [Value.slice a len cap] = [v'] := hv
  injection hv2 with hv3 _
  subst hv3
  rw [flat_bts] at ha
  exact ⟨l, hR, ha⟩

theorem own_off_knob : ownKnob Tryz.prog.godebug = none := by kernel_rfl
theorem g_et : Tryz.prog.globalNamed "errors.errorType" = some 0 := by kernel_rfl
theorem g_rt : (Tryz.prog.cutTypes.find? (·.1 == "internal/reflectlite.rtype")).map (·.2) = some 187 := by kernel_rfl
theorem types_size : Tryz.prog.types.size = 261 := by kernel_rfl
theorem one_error : ((List.range 261).filter fun t => Tryz.prog.rowNamed t [101, 114, 114, 111, 114]) = [35] := by kernel_rfl
theorem laid_outB : laidOutB Tryz.prog = true := by kernel_rfl
theorem bytes_rec : Tryz.prog.readableRec 33 = true := by kernel_rfl

/-- What the row's list gives. -/
theorem errT_of_laid {W : World} (h : laidMetH Tryz.prog Rows.codeBytesRow.laid W) : ErrT W := by
  have h' : laidMet Tryz.prog [] W ∧ handlesMet Tryz.prog [("errors.errorType", Rows.laid_errors_errorType)] W := h
  obtain ⟨name, u, ty, e1, e2, e3, e4, e5⟩ := h'.2 _ (List.mem_singleton.2 rfl)
  have en : name = [101, 114, 114, 111, 114] := (Option.some.inj e1).symm
  subst en
  obtain rfl := Option.some.inj (g_rt.symm.trans e2)
  have hm : ty ∈ (List.range 261).filter fun t => Tryz.prog.rowNamed t [101, 114, 114, 111, 114] := List.mem_filter.2 ⟨List.mem_range.2 (by rw [← types_size]; exact e3), e4⟩
  rw [one_error] at hm
  obtain rfl := List.mem_singleton.1 hm
  have hh : typeHandle Tryz.prog 35 = .pointer (some ⟨1, 35, none⟩) := by kernel_rfl
  rw [hh] at e5
  have h6 := World.var?_cell g_et e5 0
  simp at h6
  exact h6

set_option maxRecDepth 100000 in
theorem own_contract (H : Type) (enc : TypeId × Value → H) (W : World) (base : Nat) (args : Array Value) (ds gs : List (DataW H)) (before : List MemPlace)
    (hval : ∀ (j : Nat) t v, Tryz.f4.params[j]? = some t → args[j]? = some v → Value.okWide Tryz.prog W .any base t v)
    (hW : DataW.Whole enc Tryz.prog Tryz.f4.params.toList Rows.codeBytesSpec.vars false W args.toList ds gs before) (hL : laidMetH Tryz.prog Rows.codeBytesRow.laid W) :
    Calls Tryz.prog 4 args W fun e W' => ∃ v, e = .returned v ∧ Rows.codeBytesSpec.post enc Tryz.prog Tryz.f4 false true false false W args v W' := by
  have hW' := hW
  obtain ⟨p, q, hA0, hV, rfl, hfz, hnd⟩ := hW
  have hA : DataW.TrodAll enc Tryz.prog W 0 (fun _ => true) true Tryz.f4.params.toList args.toList ds p := hA0
  rw [Tryz.params4] at hA hval
  obtain ⟨v0, vs0, d0, ds0, p0, q0, hargs, rfl, rfl, h0, r0⟩ := trodAll_cons hA
  obtain ⟨rfl, rfl, rfl⟩ := trodAll_nil r0
  obtain rfl : args = #[v0] := by cases args; simp_all
  obtain ⟨rfl, rfl⟩ := trodVars_none hV
  obtain ⟨bs, h8, ha⟩ := bytes_open (hval 0 _ v0 rfl rfl) h0
  refine (codeBytes_walk v0 bs W ha h8 (errT_of_laid hL)).mono fun e W' ⟨he, hb⟩ => ?_
  subst he
  rw [List.append_nil, List.append_nil] at hW'
  exact ⟨_, rfl, law_true (t := 33) (tb := 4) Tryz.params4 rfl Tryz.underlying4 laid_outB bytes_rec (of_decide_eq_true (by kernel_rfl)) rfl rfl hW' h0 (List.append_nil _).symm hb⟩

/-- No bytes. -/
def noBytes : Value := .slice none 0 0
/-- A world for the witness. -/
noncomputable def laidWorld (os : Os) : World :=
  { World.holding Tryz.prog os ⟨#[], #[], []⟩ with heap := (World.holding Tryz.prog os ⟨#[], #[], []⟩).heap.modify 0 fun
      | .cells _ t frozen => .cells #[.iface 187 (.agg #[.pointer (some ⟨1, 35, none⟩)])] t frozen
      | o => o }
theorem laid_met (os : Os) : laidMetH Tryz.prog Rows.codeBytesRow.laid ((laidWorld os).forCall (fun _ _ => 0) ⟨#[], #[noBytes], []⟩).memory :=
  laidMetH_of_parts (laidMet_nil _ _) (by kernel_rfl)
theorem bytes_reads (os : Os) {H : Type} (enc : TypeId × Value → H) : ∃ ds places, DataW.whole enc Tryz.prog ((laidWorld os).forCall (fun _ _ => 0) ⟨#[], #[noBytes], []⟩).memory Tryz.f4.params.toList Rows.codeBytesSpec.vars false #[noBytes].toList 8 = some (ds, [], places) ∧
    ds = [.nil] :=
  ⟨_, [], by kernel_rfl, rfl⟩

set_option maxRecDepth 100000 in
theorem own_lifted (os : Os) (started : os.Started) (H : Type) (enc : TypeId × Value → H) (F : Stop.Interp) :
    ReturnsInHanded {} Tryz.checked os 4 .any ((OpenSpec.ofChange Rows.codeBytesSpec).preRow enc Tryz.prog Tryz.f4 Rows.codeBytesRow.domain false Rows.codeBytesRow.laid) (((OpenSpec.ofChange Rows.codeBytesSpec).at F).post enc Tryz.prog Tryz.f4 false true false false) := by
  obtain ⟨ds, places, hx, rfl⟩ := bytes_reads os enc
  refine returnsInHanded_of_row (C := Tryz.checked) (s := OpenSpec.ofChange Rows.codeBytesSpec) own_off_knob started (by kernel_rfl) Tryz.func4
    (witness_row_at (enc := enc) (C := Tryz.checked) false (laidWorld os) #[noBytes] rfl (by kernel_rfl) (by kernel_rfl) (by kernel_rfl)
      (OpenSpec.preRow_of_cond 8 hx (by kernel_rfl) (fun k hk => by cases hk) (by kernel_rfl) (laid_met os))) ?_
  intro W base args ds gs before hval hW _ _ _ hL _ _
  exact own_contract H enc W base args ds gs before hval hW hL

theorem own_said : Rows.CodeBytesSaid :=
  OpenClaim.holds_of_cond 4 Tryz.f4 rfl rfl rfl rfl rfl rfl rfl ⟨rfl, rfl, rfl, rfl, rfl⟩ rfl rfl rfl rfl rfl (by kernel_rfl) Tryz.func4 (by kernel_rfl)
    (of_decide_eq_true (by kernel_rfl)) (by unfold Func.isWrapper; first | (rw [if_pos (by decide +kernel)]; kernel_rfl) | (rw [if_neg (by decide +kernel)]; exact ⟨rfl, rfl⟩))
    (fun os started H enc _ F => by rw [OpenClaim.pre_eq_preRow]; exact own_lifted os started H enc F)

/-- No parameter wants a stand-in; the program's own looks are off. -/
theorem own_plain (f : FuncId) (fn : Func) (hf : Tryz.pinned.checked.prog.funcNamed "twain/twainlaw19.CodeBytes" = some f) (hfn : Tryz.pinned.checked.prog.funcs[f]? = some fn) :
    true = Tryz.pinned.checked.prog.looks [] ∧ ∀ (j : Nat) t, fn.params[j]? = some t → Tryz.pinned.checked.prog.wantsStandIn t = false := by
  obtain rfl : f = 4 := Option.some.inj ((show Tryz.prog.funcNamed "twain/twainlaw19.CodeBytes" = some 4 by kernel_rfl).symm.trans hf) |>.symm
  obtain rfl : fn = Tryz.f4 := (Option.some.inj (Tryz.func4.symm.trans hfn)).symm
  refine ⟨by kernel_rfl, fun j t ht => ?_⟩
  rw [Tryz.params4] at ht
  obtain rfl : t = 33 := by simpa using Array.mem_of_getElem? ht
  exact (show Tryz.prog.wantsStandIn 33 = false by kernel_rfl)

/-- THE CARD. -/
theorem codeBytes_holds : Rows.CodeBytesCardSaid :=
  Claim7.holds_tied_plain_at .later [] _ _ _ _ own_said (fun _ h => by cases h) (by kernel_rfl) (fun _ h => by cases h) codeBytes_row_tie rfl ⟨rfl, rfl⟩ (by kernel_rfl) rfl own_plain (by kernel_rfl)
end Go.Proofs.YtjbhgimhcjcpmaaGreatDoor
