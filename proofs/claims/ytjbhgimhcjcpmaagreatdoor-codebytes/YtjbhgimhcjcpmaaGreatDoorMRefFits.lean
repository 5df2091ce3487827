/-
  THE CONTRACT of twainref11.fits: it is mWants.
-/
import Derived.Test.YtjbhgimhcjcpmaaGreatDoorMRefWire
import Derived.Test.YtjbhgimhcjcpmaaGreatDoorMCircTop
import Derived.Test.YtjbhgimhcjcpmaaGreatDoorMRefWants
import Derived.Test.YtjbhgimhcjcpmaaGreatDoorMRefNumbers
set_option linter.unusedSimpArgs false
set_option linter.unusedVariables false
namespace Go.Proofs.YtjbhgimhcjcpmaaGreatDoor
open Go.RowKit

set_option maxHeartbeats 1000000 in
set_option maxRecDepth 100000 in
theorem refFits_any (mv : Value) (made : List Int) (at_ m : Int) (w : World) (hv : Arr w.heap.size w 1 mv made.length (ints made)) :
    Calls Tryz.prog 73 #[mv, .int .i64 at_, .int .i64 m] w fun e w' => e = .returned (.bool (mWants made at_ m)) ∧ w' = w := by
  obtain ⟨ao, c, rfl, hc, hm, hl, hcell⟩ := hv.open
  have HC := Lib.hid hcell
  unfold maxLen at hm
  clear hcell hl hv
  by_cases h0 : m = 0
  · subst h0
    have hW : mWants made at_ 0 = (at_ == 0) := by unfold mWants; rw [if_pos rfl]
    rw [hW]
    go_enter Tryz.func73, Tryz.ntmps73
    go_wp2_with fail
    go_ret
    exact ⟨rfl, rfl⟩
  · have h0' : (m == 0) = false := by simpa using h0
    by_cases h1 : 0 ≤ at_
    · obtain ⟨j, rfl⟩ := Int.eq_ofNat_of_zero_le h1
      by_cases h2 : j < made.length
      · obtain ⟨b, off, rfl, hb, hcells⟩ := HC.out (by omega)
        have hcx : w.cell? ⟨b, off + j, none⟩ = some (.int .i64 made[j]) := by rw [hcells j (by omega), ints_get made j h2]
        have hW : mWants made (j : Int) m = (made[j] == m || made[j] == 3) := by
          unfold mWants mFits
          rw [if_neg h0]
          have h5 : (m != 0) = true := by simpa using h0
          simp [List.getD, h2, h5]
        have hd1 : decide ((0 : Int) ≤ (j : Int)) = true := by simp
        have hd2 : decide ((j : Int) < (made.length : Int)) = true := by simp; omega
        have hj1 : (j : Int) < (made.length : Int) := by omega
        have hj0 : (0 : Int) ≤ (j : Int) := by omega
        rw [hW]
        clear hcells hW h0
        generalize made[j] = f at hcx
        by_cases hf : f = m
        · have e1 : (f == m) = true := by simpa using hf
          clear hf
          rw [e1]
          go_enter Tryz.func73, Tryz.ntmps73
          go_wp2_with fail
          first | (go_quiet (fail)) | skip
          go_wp2_with fail
          go_ret
          exact ⟨rfl, rfl⟩
        · have e1 : (f == m) = false := by simpa using hf
          clear hf
          rw [e1]
          go_enter Tryz.func73, Tryz.ntmps73
          go_wp2_with fail
          first | (go_quiet (fail)) | skip
          go_wp2_with fail
          go_ret
          exact ⟨by first | rfl | simp, rfl⟩
      · have hd1 : decide ((0 : Int) ≤ (j : Int)) = true := by simp
        have hd2 : decide ((j : Int) < (made.length : Int)) = false := by simp; omega
        have hW : mWants made (j : Int) m = false := by unfold mWants; rw [if_neg h0, hd2]; simp
        rw [hW]
        have hj2 : ¬ ((j : Int) < (made.length : Int)) := by omega
        clear hW h0 h2 hd1
        go_enter Tryz.func73, Tryz.ntmps73
        go_wp2_with fail
        all_goals first | (go_ret; exact ⟨rfl, rfl⟩) | (exfalso; omega)
    · have hd1 : decide ((0 : Int) ≤ at_) = false := by simpa using h1
      have hW : mWants made at_ m = false := by unfold mWants; rw [if_neg h0, hd1]; simp
      rw [hW]
      clear hW h0 h1
      go_enter Tryz.func73, Tryz.ntmps73
      go_wp2_with fail
      first | (go_quiet (fail)) | skip
      go_wp2_with fail
      go_ret
      exact ⟨rfl, rfl⟩
end Go.Proofs.YtjbhgimhcjcpmaaGreatDoor

/-
  THE CONTRACT of twainref11.Made.
-/
namespace Go.Proofs.YtjbhgimhcjcpmaaGreatDoor
open Go.RowKit

/-- One operation is one of the program, as the reference says it, but for the words that are told. -/
def rStep (e0 e1 : Int) (made : List Int) (o : MOp) : Bool := decide (0 ≤ (rWants o).2.2.2) && mWants made o.a (rWants o).1 && mWants made o.b (rWants o).2.1 && rNumbers o e0 e1
def rMadeGo (e0 e1 : Int) : List MOp → List Int → Bool
  | [], _ => true
  | o :: l, made => if rStep e0 e1 made o then rMadeGo e0 e1 l (made ++ [(rWants o).2.2.1]) else false
def rMade (ops : List MOp) (e0 e1 : Int) : Bool := decide (ops.length ≤ 16384) && decide (0 ≤ e0) && decide (e0 ≤ 65536) && decide (0 ≤ e1) && decide (e1 ≤ 65536) && rTold ops && rMadeGo e0 e1 ops []

/-- The numbers of elements in their block, the forms so far. -/
structure MdSt (w : World) (e0 e1 : Int) (x : Value) (m : List Int) (W : World) : Prop where
  box : W.heap[w.heap.size]? = some (.cells #[.int .i64 e0, .int .i64 e1] 23 (0, 0))
  own : W.ownsRow (w.heap.size + 1) 3 1 x m.length (ints m)
  below : Below w.heap.size w W
theorem MdSt.start (w : World) (e0 e1 : Int) : MdSt w e0 e1 (.slice none 0 0) [] (w.alloc (.cells #[.int .i64 e0, .int .i64 e1] 23)) := ⟨heap_alloc_new _ _, World.ownsRow_nil _ _ _ _, (Below.refl _ _).alloc (Nat.le_refl _) _⟩
theorem MdSt.later {w : World} {e0 e1 : Int} {x : Value} {m : List Int} {W W1 : World} (h : MdSt w e0 e1 x m W) (hb : Below W.heap.size W W1) : MdSt w e0 e1 x m W1 :=
  ⟨(hb.block _ (lt_of_block h.box)).trans h.box, Below.owns h.own hb, h.below.trans (hb.mono h.below.size)⟩
theorem MdSt.add {w : World} {e0 e1 : Int} {x y : Value} {m : List Int} {W W1 : World} {z : Int} (h : MdSt w e0 e1 x m W) (hg : W.grownBy W1 x.ownBlock) (ho : W1.ownsRow (w.heap.size + 1) 3 1 y (m.length + 1) (ints m ++ [.int .i64 z])) : MdSt w e0 e1 y (m ++ [z]) W1 :=
  ⟨(hg.block _ (lt_of_block h.box) fun e => ints_ne h.own h.box (by decide) e.symm).trans h.box, by rw [List.length_append]; simpa [ints] using ho, h.below.grown hg h.below.size fun j hj => by have := (h.own.lt j hj).1; omega⟩
theorem MdSt.cells {w : World} {e0 e1 : Int} {x : Value} {m : List Int} {W : World} (h : MdSt w e0 e1 x m W) : W.cell? ⟨w.heap.size, 0, none⟩ = some (.int .i64 e0) ∧ W.cell? ⟨w.heap.size, 1, none⟩ = some (.int .i64 e1) := by
  have := h.box
  refine ⟨?_, ?_⟩ <;> simp [World.cell?, this]
/-- Besides, an operation in its block. -/
structure MoSt (w : World) (e0 e1 : Int) (x : Value) (m : List Int) (B : Nat) (o : MOp) (W : World) : Prop where
  st : MdSt w e0 e1 x m W
  op : W.heap[B]? = some (.cells o.arr 44 (0, 0))
theorem MoSt.later {w : World} {e0 e1 : Int} {x : Value} {m : List Int} {B : Nat} {o : MOp} {W W1 : World} (h : MoSt w e0 e1 x m B o W) (hb : Below W.heap.size W W1) : MoSt w e0 e1 x m B o W1 := ⟨h.st.later hb, (hb.block _ (lt_of_block h.op)).trans h.op⟩
theorem MoSt.start {w : World} {e0 e1 : Int} {x : Value} {m : List Int} {W : World} (h : MdSt w e0 e1 x m W) (o : MOp) : MoSt w e0 e1 x m W.heap.size o (W.alloc (.cells o.arr 44)) := ⟨h.later ((Below.refl _ _).alloc (Nat.le_refl _) _), heap_alloc_new _ _⟩
theorem MoSt.cells {w : World} {e0 e1 : Int} {x : Value} {m : List Int} {B : Nat} {o : MOp} {W : World} (h : MoSt w e0 e1 x m B o W) :
    (W.cell? ⟨B, 0, none⟩ = some (.int .i64 o.kind) ∧ W.cell? ⟨B, 1, none⟩ = some (.int .i64 o.a) ∧ W.cell? ⟨B, 2, none⟩ = some (.int .i64 o.b) ∧ W.cell? ⟨B, 3, none⟩ = some (.int .i64 o.k) ∧ W.cell? ⟨B, 4, none⟩ = some (.int .u64 o.c) ∧ W.cell? ⟨B, 5, none⟩ = some (.int .i64 o.party)) ∧
    W.cell? ⟨w.heap.size, 0, none⟩ = some (.int .i64 e0) ∧ W.cell? ⟨w.heap.size, 1, none⟩ = some (.int .i64 e1) := ⟨op_cells6 h.op, h.st.cells⟩
/-- What Made answers. -/
def MadePost (w : World) (b : Bool) (e : Ending) (w' : World) : Prop := ∃ v, e = .returned (.tuple #[v, .bool b]) ∧ Below w.heap.size w w'

set_option maxHeartbeats 4000000 in
set_option maxRecDepth 100000 in
theorem refMade_loop (v : Value) (ops : List MOp) (e0 e1 : Int) (w : World) (hv : Arr w.heap.size w 6 v ops.length (ocells ops)) (hl : ops.length ≤ 16384) (h0 : 0 ≤ e0 ∧ e0 ≤ 65536) (h1 : 0 ≤ e1 ∧ e1 ≤ 65536) (ht : rTold ops = true) (R : Bool) (hR : rMadeGo e0 e1 ops [] = R) :
    Calls Tryz.prog 38 #[v, .agg #[.int .i64 e0, .int .i64 e1]] w (MadePost w R) := by
  obtain ⟨ao, cc, rfl, hcc, hm, hx, hy⟩ := hv.open
  have HY := Lib.hid hy
  have HV := Lib.hid hv
  have HT := Lib.hid ht
  have HR := Lib.hid hR
  have g0 : decide ((16384 : Int) < (ops.length : Int)) = false := by simp; omega
  have g1 : decide (e0 < 0) = false := by simp; omega
  have g2 : decide (65536 < e0) = false := by simp; omega
  have g3 : decide (e1 < 0) = false := by simp; omega
  have g4 : decide (65536 < e1) = false := by simp; omega
  have HO0 := Lib.hid (MdSt.start w e0 e1)
  clear hv hx hy hm ht hR h0 h1
  go_enter Tryz.func38, Tryz.ntmps38
  go_upto_region 1 with fail
  generalize w.alloc _ = W0 at HO0 ⊢
  obtain ⟨d0, d1⟩ := HO0.out.cells
  go_upto_region 6 with (go_at_call 71; go_must (refine (refTold_any _ ops _ (HV.out.later HO0.out.below HO0.out.below.size) (by omega)).mono ?_; rw [HT.out]; rintro e w' ⟨rfl, rfl⟩))
  clear d0 d1
  go_wp2_with fail
  go_loopg [6, 7] ops.length (fun g x i wr => ∃ (k : Nat) (m : List Int), k ≤ ops.length ∧ g = ops.length - k ∧ i = .int .i64 k ∧ m.length = k ∧ Hid (MdSt w e0 e1 x m wr) ∧ Hid (rMadeGo e0 e1 (ops.drop k) m = R))
  case atStart => exact ⟨0, [], Nat.zero_le _, rfl, rfl, rfl, HO0, Lib.hid HR.out⟩
  case round =>
    obtain ⟨k, m, hk, hg, rfl, hmk, HS, HG⟩ := hrel
    have HMK := Lib.hid hmk
    clear hmk
    by_cases hkl : k < ops.length
    · obtain ⟨b, off, rfl, hbl, hcells⟩ := HY.out (by omega)
      obtain ⟨c0, c1, c2, c3, c4, c5⟩ := op_cells hcells HS.out.below hbl rfl k hkl
      have hgo := HG.out
      rw [List.drop_eq_getElem_cons hkl, rMadeGo] at hgo
      generalize ops[k] = o at c0 c1 c2 c3 c4 c5 hgo
      clear hcells
      have h3 : (0 : Int) ≤ (k : Int) := by omega
      have h4 : (k : Int) < (ops.length : Int) := by omega
      obtain ⟨⟨fa, fb, mk, rd⟩, hW⟩ : ∃ x, rWants o = x := ⟨_, rfl⟩
      obtain ⟨ba, hba⟩ : ∃ ba, mWants m o.a fa = ba := ⟨_, rfl⟩
      obtain ⟨bb, hbb⟩ : ∃ bb, mWants m o.b fb = bb := ⟨_, rfl⟩
      obtain ⟨bn, hbn⟩ : ∃ bn, rNumbers o e0 e1 = bn := ⟨_, rfl⟩
      rw [rStep, hW, hba, hbb, hbn] at hgo
      simp only at hgo
      have HW := Lib.hid hW
      have HA := Lib.hid hba
      have HB := Lib.hid hbb
      have HN := Lib.hid hbn
      have HGO := Lib.hid hgo
      clear hW hba hbb hbn hgo
      have HO1 := Lib.hid (show MoSt w e0 e1 _ m wr.heap.size o (wr.alloc (.cells #[.int .i64 o.kind, .int .i64 o.a, .int .i64 o.b, .int .i64 o.k, .int .u64 o.c, .int .i64 o.party] 44)) from MoSt.start HS.out o)
      go_upto_region 10 with fail
      generalize wr.alloc (.cells #[.int .i64 o.kind, .int .i64 o.a, .int .i64 o.b, .int .i64 o.k, .int .u64 o.c, .int .i64 o.party] 44) = W1 at HO1 ⊢
      generalize hB : wr.heap.size = B at HO1 ⊢
      clear c0 c1 c2 c3 c4 c5 hB
      obtain ⟨⟨c0, c1, c2, c3, c4, c5⟩, d0, d1⟩ := HO1.out.cells
      go_upto_region 11 with (go_at_call 72; go_must (refine (refWants_any o _).mono ?_; rw [HW.out]; unfold rWv; rintro e w2 ⟨rfl, hb2⟩; have HO2 := Lib.hid (HO1.out.later hb2); clear hb2 c0 c1 c2 c3 c4 c5 d0 d1; obtain ⟨⟨c0, c1, c2, c3, c4, c5⟩, d0, d1⟩ := HO2.out.cells))
      by_cases hrd : rd < 0
      · have r1 : decide (rd < 0) = true := by simpa using hrd
        have hRf : R = false := by rw [← HGO.out]; simp; omega
        have HF := Lib.hid hRf
        clear hrd hRf
        go_wp2_with fail
        go_ret2
        exact ⟨_, by rw [HF.out]; rfl, HO2.out.st.below⟩
      · have r1 : decide (rd < 0) = false := by simpa using hrd
        cases ba with
        | false =>
          have hRf : R = false := by rw [← HGO.out]; simp
          have HF := Lib.hid hRf
          clear hrd hRf
          go_wp2_with ((with_reducible show Calls _ _ #[_, .int .i64 o.a, _] _ _); go_at_call 73; go_must (refine (refFits_any _ m _ _ _ (Arr.of_owns HO2.out.st.own)).mono ?_; rw [HA.out]; rintro e w' ⟨rfl, rfl⟩))
          go_ret2
          exact ⟨_, by rw [HF.out]; rfl, HO2.out.st.below⟩
        | true =>
          cases bb with
          | false =>
            have hRf : R = false := by rw [← HGO.out]; simp
            have HF := Lib.hid hRf
            clear hrd hRf
            go_wp2_with (first | ((with_reducible show Calls _ _ #[_, .int .i64 o.a, _] _ _); go_at_call 73; go_must (refine (refFits_any _ m _ _ _ (Arr.of_owns HO2.out.st.own)).mono ?_; rw [HA.out]; rintro e w' ⟨rfl, rfl⟩)) | ((with_reducible show Calls _ _ #[_, .int .i64 o.b, _] _ _); go_at_call 73; go_must (refine (refFits_any _ m _ _ _ (Arr.of_owns HO2.out.st.own)).mono ?_; rw [HB.out]; rintro e w' ⟨rfl, rfl⟩)))
            go_ret2
            exact ⟨_, by rw [HF.out]; rfl, HO2.out.st.below⟩
          | true =>
            cases bn with
            | false =>
              have hRf : R = false := by rw [← HGO.out]; simp
              have HF := Lib.hid hRf
              clear hrd hRf
              go_wp2_with (first | ((with_reducible show Calls _ _ #[_, .int .i64 o.a, _] _ _); go_at_call 73; go_must (refine (refFits_any _ m _ _ _ (Arr.of_owns HO2.out.st.own)).mono ?_; rw [HA.out]; rintro e w' ⟨rfl, rfl⟩)) | ((with_reducible show Calls _ _ #[_, .int .i64 o.b, _] _ _); go_at_call 73; go_must (refine (refFits_any _ m _ _ _ (Arr.of_owns HO2.out.st.own)).mono ?_; rw [HB.out]; rintro e w' ⟨rfl, rfl⟩)) | (go_at_call 74; go_must (refine (numbers_any o e0 e1 _).mono ?_; rw [HN.out]; unfold RetB; rintro e w3 ⟨rfl, hb3⟩; have HO3 := Lib.hid (HO2.out.later hb3); clear hb3 c0 c1 c2 c3 c4 c5 d0 d1; obtain ⟨⟨c0, c1, c2, c3, c4, c5⟩, d0, d1⟩ := HO3.out.cells)))
              go_ret2
              exact ⟨_, by rw [HF.out]; rfl, HO3.out.st.below⟩
            | true =>
              have hRn : rMadeGo e0 e1 (ops.drop (k + 1)) (m ++ [mk]) = R := by rw [← HGO.out]; simp [show 0 ≤ rd by omega]
              have HRN := Lib.hid hRn
              clear hrd hRn
              go_wp2_with (first | ((with_reducible show Calls _ _ #[_, .int .i64 o.a, _] _ _); go_at_call 73; go_must (refine (refFits_any _ m _ _ _ (Arr.of_owns HO2.out.st.own)).mono ?_; rw [HA.out]; rintro e w' ⟨rfl, rfl⟩)) | ((with_reducible show Calls _ _ #[_, .int .i64 o.b, _] _ _); go_at_call 73; go_must (refine (refFits_any _ m _ _ _ (Arr.of_owns HO2.out.st.own)).mono ?_; rw [HB.out]; rintro e w' ⟨rfl, rfl⟩)) | (go_at_call 74; go_must (refine (numbers_any o e0 e1 _).mono ?_; rw [HN.out]; unfold RetB; rintro e w3 ⟨rfl, hb3⟩; have HO3 := Lib.hid (HO2.out.later hb3); clear hb3 c0 c1 c2 c3 c4 c5 d0 d1; obtain ⟨⟨c0, c1, c2, c3, c4, c5⟩, d0, d1⟩ := HO3.out.cells)) | (at_builtin; refine app_k rfl _ _ 24 rfl 3 _ 1 8 Tryz.underlying24 info_int rfl (by decide) #[_] _ _ _ _ HO3.out.st.own rfl rfl rfl (by intro u hu; simp at hu; subst hu; rfl) (by have := lt_of_block HO3.out.st.box; omega) (by have := HMK.out; omega) (by have := HMK.out; unfold maxLen; omega) ?_; intro y w9 hown9 hg9 _; go_must (have HO9 := Lib.hid (HO3.out.st.add hg9 hown9); clear hown9 hg9)))
              go_roundg (ops.length - (k + 1))
              case measure => omega
              case rel => exact ⟨k + 1, m ++ [mk], by omega, rfl, by go_num, by rw [List.length_append, HMK.out]; rfl, HO9, HRN⟩
    · obtain rfl : k = ops.length := by omega
      have hgo := HG.out
      rw [List.drop_length, rMadeGo] at hgo
      have HF := Lib.hid hgo
      clear hgo
      go_wp2_with fail
      go_ret2
      exact ⟨_, by rw [← HF.out]; rfl, HS.out.below⟩
end Go.Proofs.YtjbhgimhcjcpmaaGreatDoor
