/-
  THE CONTRACT of micro.Rounds.
-/
import Derived.Test.YtjbhgimhcjcpmaaGreatDoorMMCheck
import Derived.Deep.DeepCutAuto
import Derived.Deep.RegionWith
import Derived.Deep.Light
set_option linter.unusedSimpArgs false
set_option linter.unusedVariables false
namespace Go.Proofs.YtjbhgimhcjcpmaaGreatDoor
open Go.RowKit

set_option maxHeartbeats 1000000 in
set_option maxRecDepth 100000 in
theorem rounds_no (v : Value) (ops : List MOp) (w : World) (h : mCheck ops 65536 65536 = false) (hv : Arr w.heap.size w 6 v ops.length (ocells ops)) (hl : ops.length ≤ 1000000) (hc : ∀ o ∈ ops, o.c < 18446744073709551616) (hE : ErrT w) :
    Calls Tryz.prog 54 #[v] w fun e w' => e = .returned (.slice none 0 0) ∧ Below w.heap.size w w' := by
  have HV := Lib.hid hv
  have HE := Lib.hid hE
  have HC := Lib.hid hc
  have HH := Lib.hid h
  clear hv hE hc h
  go_enter Tryz.func54, Tryz.ntmps54
  go_wp2_with (first | (go_at_call 66; go_must (refine (all_any _).mono ?_; rintro e w1 ⟨rfl, hb1⟩; have HB1 := Lib.hid hb1; clear hb1)) | (go_at_call 52; go_must (refine (check_no _ ops _ _ _ HH.out (HV.out.later' HB1.out) hl HC.out (HE.out.below HB1.out)).mono ?_; rintro e w2 ⟨⟨T, x, rfl⟩, hb2⟩; have HB2 := Lib.hid (HB1.out.trans (hb2.mono HB1.out.size)); clear hb2)))
  go_ret
  exact ⟨rfl, HB2.out⟩

theorem Below.undrew {w w' : World} (h : Below w.drew.heap.size w.drew w') : Below w.heap.size w w' := ⟨h.os, h.tape, h.output, h.size, h.block⟩
theorem ErrT.drew {w : World} (h : ErrT w) : ErrT w.drew := h
theorem ErrT.alloc {w : World} (h : ErrT w) (o : Obj) : ErrT (w.alloc o) := h.below ((Below.refl _ _).alloc (Nat.le_refl _) o)
theorem op_cells1 {w : World} {g : Nat} {k a b c party : Int} {C : Nat} {t : TypeId} {fr : Nat × Nat} (h : w.heap[g]? = some (.cells #[.int .i64 k, .int .i64 a, .int .i64 b, .int .i64 c, .int .u64 C, .int .i64 party] t fr)) :
    w.cell? ⟨g, 0, none⟩ = some (.int .i64 k) ∧ w.cell? ⟨g, 1, none⟩ = some (.int .i64 a) ∧ w.cell? ⟨g, 2, none⟩ = some (.int .i64 b) ∧ w.cell? ⟨g, 3, none⟩ = some (.int .i64 c) ∧ w.cell? ⟨g, 4, none⟩ = some (.int .u64 C) ∧ w.cell? ⟨g, 5, none⟩ = some (.int .i64 party) := by
  refine ⟨?_, ?_, ?_, ?_, ?_, ?_⟩ <;> simp [World.cell?, h]
/-- The cells of a rule that is not laid yet. -/
theorem rule_cells {w : World} {g : Nat} (h : w.heap[g]? = some (.cells #[.int .i64 0, .int .i64 0, .int .i64 0, .int .i64 0, .bool false, .bool false, .int .i64 0] 150 (0, 0))) :
    (w.cell? ⟨g, 0, none⟩ = some (.int .i64 0) ∧ w.cell? ⟨g, 1, none⟩ = some (.int .i64 0) ∧ w.cell? ⟨g, 2, none⟩ = some (.int .i64 0) ∧ w.cell? ⟨g, 3, none⟩ = some (.int .i64 0) ∧
    w.cell? ⟨g, 4, none⟩ = some (.bool false) ∧ w.cell? ⟨g, 5, none⟩ = some (.bool false) ∧ w.cell? ⟨g, 6, none⟩ = some (.int .i64 0)) ∧
    (w.frozen? ⟨g, 0, none⟩ = false ∧ w.frozen? ⟨g, 1, none⟩ = false ∧ w.frozen? ⟨g, 2, none⟩ = false ∧ w.frozen? ⟨g, 3, none⟩ = false ∧ w.frozen? ⟨g, 4, none⟩ = false ∧ w.frozen? ⟨g, 5, none⟩ = false ∧ w.frozen? ⟨g, 6, none⟩ = false) := by
  refine ⟨⟨?_, ?_, ?_, ?_, ?_, ?_, ?_⟩, ?_, ?_, ?_, ?_, ?_, ?_, ?_⟩ <;> simp [World.cell?, World.frozen?, h]

/-- The state of a round of Rounds. -/
structure RSt (w : World) (B1 B2 : Nat) (o : MOp) (r : Rule) (out : List Int) (x : Value) (wx : World) : Prop where
  op : wx.heap[B1]? = some (.cells o.arr 44 (0, 0))
  rule : wx.heap[B2]? = some (.cells r.arr 150 (0, 0))
  own : wx.ownsRow w.heap.size 3 1 x out.length (ints out)
  below : Below w.heap.size w wx

theorem RSt.rulec {w : World} {B1 B2 : Nat} {o : MOp} {r : Rule} {out : List Int} {x : Value} {wx : World} (h : RSt w B1 B2 o r out x wx) :
    wx.cell? ⟨B2, 0, none⟩ = some (.int .i64 r.a) ∧ wx.cell? ⟨B2, 1, none⟩ = some (.int .i64 r.b) ∧ wx.cell? ⟨B2, 6, none⟩ = some (.int .i64 r.rounds) := by
  have := h.rule
  refine ⟨?_, ?_, ?_⟩ <;> simp [World.cell?, this, Rule.arr]
theorem RSt.opc {w : World} {B1 B2 : Nat} {o : MOp} {r : Rule} {out : List Int} {x : Value} {wx : World} (h : RSt w B1 B2 o r out x wx) :
    wx.cell? ⟨B1, 1, none⟩ = some (.int .i64 o.a) ∧ wx.cell? ⟨B1, 2, none⟩ = some (.int .i64 o.b) := by
  have := h.op
  refine ⟨?_, ?_⟩ <;> simp [World.cell?, this, MOp.arr]
theorem RSt.of {w wr W : World} {B2 : Nat} {o : MOp} {r : Rule} {out : List Int} {x : Value} (hown : wr.ownsRow w.heap.size 3 1 x out.length (ints out)) (hbw : Below w.heap.size w wr)
    (h1 : W.heap[wr.heap.size]? = some (.cells o.arr 44 (0, 0))) (h2 : W.heap[B2]? = some (.cells r.arr 150 (0, 0))) (hb : Below wr.heap.size wr W) : RSt w wr.heap.size B2 o r out x W :=
  ⟨h1, h2, Below.owns hown hb, hbw.trans (hb.mono hbw.size)⟩
theorem RSt.last {w wr w4 : World} {o : MOp} {r : Rule} {out : List Int} {x : Value} (hown : wr.ownsRow w.heap.size 3 1 x out.length (ints out)) (hbw : Below w.heap.size w wr)
    (h1 : w4.heap[wr.heap.size]? = some (.cells o.arr 44 (0, 0))) (hb : Below wr.heap.size wr w4) : RSt w wr.heap.size w4.heap.size o r out x (w4.alloc (.cells r.arr 150)) :=
  RSt.of hown hbw (old1 _ h1) (heap_alloc_new _ _) (hb.alloc hb.size _)
theorem RSt.set7 {w wr w4 : World} {g : Nat} {o : MOp} {r : Rule} {out : List Int} {x : Value} (hown : wr.ownsRow w.heap.size 3 1 x out.length (ints out)) (hbw : Below w.heap.size w wr)
    (h1 : w4.heap[wr.heap.size]? = some (.cells o.arr 44 (0, 0))) (hb : Below wr.heap.size wr w4) (hg : wr.heap.size < g)
    (hz : w4.heap[g]? = some (.cells #[.int .i64 0, .int .i64 0, .int .i64 0, .int .i64 0, .bool false, .bool false, .int .i64 0] 150 (0, 0))) :
    RSt w wr.heap.size g o r out x (((((((w4.setCell ⟨g, 0, none⟩ (.int .i64 r.a)).setCell ⟨g, 1, none⟩ (.int .i64 r.b)).setCell ⟨g, 2, none⟩ (.int .i64 r.makes)).setCell ⟨g, 3, none⟩ (.int .i64 r.k)).setCell ⟨g, 4, none⟩ (.bool r.c)).setCell ⟨g, 5, none⟩ (.bool r.party)).setCell ⟨g, 6, none⟩ (.int .i64 r.rounds)) := by
  refine RSt.of hown hbw ?_ ?_ ?_
  · iterate 7 rw [heap_setCell_other' (by omega)]
    exact h1
  · have e1 := heap_setCell (j := 6) (heap_setCell (j := 5) (heap_setCell (j := 4) (heap_setCell (j := 3) (heap_setCell (j := 2) (heap_setCell (j := 1) (heap_setCell (j := 0) hz (.int .i64 r.a)) (.int .i64 r.b)) (.int .i64 r.makes)) (.int .i64 r.k)) (.bool r.c)) (.bool r.party)) (.int .i64 r.rounds)
    exact e1
  · have hgl : wr.heap.size ≤ g := by omega
    exact ((((((hb.setCell hgl _).setCell hgl _).setCell hgl _).setCell hgl _).setCell hgl _).setCell hgl _).setCell hgl _
theorem RSt.drew {w : World} {B1 B2 : Nat} {o : MOp} {r : Rule} {out : List Int} {x : Value} {W : World} (h : RSt w B1 B2 o r out x W) : RSt w B1 B2 o r out x W.drew := ⟨h.op, h.rule, h.own, h.below.drew⟩

set_option maxHeartbeats 4000000 in
set_option maxRecDepth 100000 in
theorem rounds_yes (v : Value) (ops : List MOp) (w : World) (h : mCheck ops 65536 65536 = true) (hv : Arr w.heap.size w 6 v ops.length (ocells ops)) (hl : ops.length ≤ 16384) (hc : ∀ o ∈ ops, o.c < 18446744073709551616) (hE : ErrT w) :
    Calls Tryz.prog 54 #[v] w fun e w' => ∃ u, e = .returned u ∧ w'.ownsRow w.heap.size 3 1 u (mRounds ops).length (ints (mRounds ops)) ∧ Below w.heap.size w w' := by
  have hpl := check_places h
  obtain ⟨ao, cc, rfl, hcc, hm, hx, hy⟩ := hv.open
  have HV := Lib.hid hv
  have HE := Lib.hid hE
  have HC := Lib.hid hc
  have HH := Lib.hid h
  have HY := Lib.hid hy
  have HPL := Lib.hid hpl
  clear hv hE hc h hm hx hy hpl
  go_enter Tryz.func54, Tryz.ntmps54
  go_wp2_with (first | (go_at_call 66; go_must (refine (all_any _).mono ?_; rintro e w1 ⟨rfl, hb1⟩; have HB1 := Lib.hid hb1; clear hb1)) | (go_at_call 52; go_must (refine (check_yes _ ops _ _ _ HH.out (HV.out.later' HB1.out) HC.out (HE.out.below HB1.out)).mono ?_; rintro e w2 ⟨rfl, hb2⟩; have HB2 := Lib.hid (HB1.out.trans (hb2.mono HB1.out.size)); clear hb2)))
  go_loopg [3, 15] ops.length (fun g x i wr => ∃ (k : Nat) (out : List Int), k ≤ ops.length ∧ g = ops.length - k ∧ i = .int .i64 k ∧ Hid (out.length = k) ∧ Hid (roundsGo (ops.drop k) out = roundsGo ops []) ∧ Hid (Upto (2 * k : Nat) out) ∧ Hid (wr.ownsRow w.heap.size 3 1 x out.length (ints out)) ∧ Hid (Below w.heap.size w wr))
  case atStart => exact ⟨0, [], Nat.zero_le _, rfl, rfl, rfl, rfl, (fun y hy => by cases hy), World.ownsRow_nil _ _ _ _, HB2.out⟩
  case round =>
    obtain ⟨k, out, hk, hg, rfl, HL, HG, HU, HO, HB⟩ := hrel
    by_cases hkl : k < ops.length
    · obtain ⟨b, off, rfl, hbl, hcells⟩ := HY.out (by omega)
      obtain ⟨c0, c1, c2, c3, c4, c5⟩ := op_cells hcells HB.out hbl rfl k hkl
      have HD := Lib.hid (List.drop_eq_getElem_cons hkl)
      have ho := HC.out ops[k] (List.getElem_mem _)
      have HP := Lib.hid (HPL.out k hkl)
      generalize ops[k] = o at c0 c1 c2 c3 c4 c5 HD ho HP
      clear hcells
      obtain ⟨r, Bo, hr⟩ : ∃ r Bo, mRule o 65536 65536 = (r, Bo) := ⟨_, _, rfl⟩
      have HR := Lib.hid hr
      clear hr
      go_upto_region 7 with fail
      have hsz := HB.out.size
      have hlt1 : wr.heap.size < (wr.alloc (.cells o.arr 44)).heap.size := by rw [World.size_alloc]; omega
      have hop := heap_alloc_new wr (.cells o.arr 44)
      have hwa : ErrT (wr.alloc (.cells o.arr 44)) := HE.out.below (HB.out.alloc hsz _)
      have HOP := Lib.hid hop
      have HWA := Lib.hid hwa
      clear hop hwa
      go_cut [6] from 16 to 50 (fun s6 wx => ∃ B2, s6 = .pointer (some ⟨B2, 0, none⟩) ∧ Hid (RSt w wr.heap.size B2 o r out u3 wx))
      case first =>
        go_region_with (first | (go_at_call 66; go_must (refine (all_any _).mono ?_; rintro e w3 ⟨rfl, hb3⟩; (try replace hb3 := Below.undrew hb3); (first | ((with_reducible have q3 := after2 hb3); obtain ⟨x1, x2, x3, hz3⟩ := q3; obtain ⟨d0, d1, d2, d3, d4, d5⟩ := op_cells1 x1; have hz3' : wr.heap.size < w3.heap.size := (by omega); have hz3'' : wr.heap.size + 1 < w3.heap.size := (by omega); have X1 := Lib.hid x1; have X2 := Lib.hid x3; clear x1 x2 x3 hz3) | ((with_reducible have q3 := after1 hb3); obtain ⟨x1, x2, hz3⟩ := q3; obtain ⟨d0, d1, d2, d3, d4, d5⟩ := op_cells1 x1; have hz3' : wr.heap.size < w3.heap.size := (by omega); have X1 := Lib.hid x1; have X2 := Lib.hid x2; clear x1 x2 hz3)); have HB3 := Lib.hid hb3; clear hb3)) | (go_at_call 90; go_must (refine (ruleOf_any o _ _ _ ho (by first | exact HWA.out.below HB3.out | exact (HWA.out.alloc _).below HB3.out | exact (HWA.out.below HB3.out).alloc _ | exact (HWA.out.below HB3.out).drew | exact ((HWA.out.alloc _).below HB3.out).drew | exact ((HWA.out.below HB3.out).alloc _).drew)).mono ?_; rw [HR.out]; unfold RetB Rule.out Rule.arr; rintro e w4 ⟨rfl, hb4⟩; (try replace hb4 := Below.undrew hb4); (first | ((with_reducible have q5 := after1 hb4); obtain ⟨h6, hb5, hz5⟩ := q5; obtain ⟨⟨y0, y1, y2, y3, y4, y5, y6⟩, f0, f1, f2, f3, f4, f5, f6⟩ := rule_cells h6; have HZ := Lib.hid h6; have H34 := Lib.hid hb5; clear h6 hb5) | (have q6 := HB3.out; (with_reducible have q5 := after2 q6); obtain ⟨h5, h6, hb5, hz5⟩ := q5; have h7 := (hb4.block _ (lt_of_block' h6)).trans h6; obtain ⟨⟨y0, y1, y2, y3, y4, y5, y6⟩, f0, f1, f2, f3, f4, f5, f6⟩ := rule_cells h7; have HZ := Lib.hid h7; have H34 := Lib.hid hb4; clear h7 h5 h6 hb5 q6) | (have H34 := Lib.hid hb4)); have Y1 := Lib.hid ((H34.out.block _ (lt_of_block' X1.out)).trans X1.out); have Y2 := Lib.hid (X2.out.trans (H34.out.mono X2.out.size)); have HB4 := Lib.hid hb4; clear hb4)))
        all_goals
          go_wp2_with fail
          go_meet
          case rel =>
            go_light
            first
            | ((refine ⟨w4.heap.size, (by with_reducible rfl), ?_⟩); exact RSt.last HO.out HB.out Y1.out Y2.out)
            | ((refine ⟨w3.heap.size, (by with_reducible rfl), ?_⟩); exact RSt.set7 HO.out HB.out Y1.out Y2.out (by omega) HZ.out)
            | ((refine ⟨wr.heap.size + 1, (by with_reducible rfl), ?_⟩); exact RSt.set7 HO.out HB.out Y1.out Y2.out (by omega) HZ.out)
      case rest =>
        obtain ⟨B2, rfl, HS⟩ := hcut
        have hp := HP.out
        rw [HR.out] at hp
        simp only at hp
        have hrr := mRule_rounds o 65536 65536
        rw [HR.out] at hrr
        simp only at hrr
        obtain ⟨hr0, hr2⟩ := hrr
        obtain ⟨q0, q1, q6⟩ := HS.out.rulec
        obtain ⟨p1, p2⟩ := HS.out.opc
        have hown := HS.out.own
        have hw0 := HS.out.below.size
        have hol : out.length ≤ 16384 := by have := HL.out; omega
        have hah := ahead_bound HU.out (by omega) o r
        have HA := Lib.hid hah
        have HSP := Lib.hid hp
        clear hah hp
        have HFIN := Lib.hid (show Hid ((out ++ [ahead out o r + r.rounds]).length = k + 1) ∧ Hid (roundsGo (ops.drop (k + 1)) (out ++ [ahead out o r + r.rounds]) = roundsGo ops []) ∧ Hid (Upto ((2 * (k + 1) : Nat) : Int) (out ++ [ahead out o r + r.rounds])) ∧
            (∀ w5, wc.grownBy w5 u3.ownBlock → Hid (Below w.heap.size w w5)) by
          refine ⟨by simp [Hid, HL.out], ?_, ?_, ?_⟩
          · unfold Hid; rw [← HG.out, HD.out, roundsGo, HR.out]
          · have := HA.out
            exact HU.out.snoc (by omega) (by omega) (by omega)
          · intro w5 hg1
            exact HS.out.below.grown hg1 hw0 (fun j hj => (hown.lt j hj).1))
        by_cases ha : r.a = 0
        · have ha' : (r.a != 0) = false := by simp [ha]
          by_cases hb : r.b = 0
          · have hb' : (r.b != 0) = false := by simp [hb]
            have HZ := Lib.hid (show ahead out o r = 0 by simp [ahead, ha, hb])
            clear ha hb
            as_aux_lemma =>
              go_wp2_with (at_builtin; go_must (refine app_k rfl _ _ 24 rfl 3 (.int .i64 0) 1 8 Tryz.underlying24 info_int rfl (by decide) #[_] _ _ _ _ hown rfl rfl rfl (by intro u hu; simp at hu; subst hu; rfl) hw0 (by omega) (by unfold maxLen; omega) ?_; intro v1 w5 hown1 hg1 _; have HOWN1 := Lib.hid hown1; have HG1 := Lib.hid hg1; clear hown1 hg1))
              go_roundg (ops.length - (k + 1))
              case measure => omega
              case rel =>
                go_light
                refine ⟨k + 1, _, by omega, rfl, by go_num, HFIN.out.1, HFIN.out.2.1, HFIN.out.2.2.1, ?_, HFIN.out.2.2.2 _ HG1.out⟩
                have := HOWN1.out
                unfold Hid
                rw [ints_append, List.length_append]
                rw [HZ.out, Int.zero_add]
                exact this
          · have hb' : (r.b != 0) = true := by simp [hb]
            obtain ⟨h0b, h1b⟩ := HSP.out.2 hb
            obtain ⟨jb, hjb⟩ := Int.eq_ofNat_of_zero_le h0b
            have hjlb : jb < out.length := by have := HL.out; omega
            obtain ⟨ao2, cc2, rfl, hcc2, hm2, hx2, hy2⟩ := (Arr.of_owns hown).open
            obtain ⟨b2, off2, rfl, hlt2, hc2⟩ := hy2 (by omega)
            have hcxb : wc.cell? ⟨b2, off2 + jb, none⟩ = some (.int .i64 out[jb]) := by rw [hc2 jb (by omega), ints_get out jb hjlb]
            have HZ := Lib.hid (show ahead out o r = max 0 out[jb] by simp [ahead, ha, hb, hjb, List.getD, hjlb])
            have hob := HU.out out[jb] (List.getElem_mem _)
            generalize out[jb] = zb at hcxb HZ hob
            rw [hjb] at p2
            clear ha hb hc2 hx2 hm2 hjb h0b h1b hy2
            by_cases hlt : 0 < zb
            · have HQ := Lib.hid (show ahead out o r = zb by rw [HZ.out]; omega)
              as_aux_lemma =>
                go_wp2_with (at_builtin; go_must (refine app_k rfl _ _ 24 rfl 3 (.int .i64 0) 1 8 Tryz.underlying24 info_int rfl (by decide) #[_] _ _ _ _ hown rfl rfl rfl (by intro u hu; simp at hu; subst hu; rfl) hw0 (by omega) (by unfold maxLen; omega) ?_; intro v1 w5 hown1 hg1 _; have HOWN1 := Lib.hid hown1; have HG1 := Lib.hid hg1; clear hown1 hg1))
                go_roundg (ops.length - (k + 1))
                case measure => omega
                case rel =>
                  go_light
                  refine ⟨k + 1, _, by omega, rfl, by go_num, HFIN.out.1, HFIN.out.2.1, HFIN.out.2.2.1, ?_, HFIN.out.2.2.2 _ HG1.out⟩
                  have := HOWN1.out
                  unfold Hid
                  rw [ints_append, List.length_append]
                  rw [HQ.out]
                  exact this
            · have HQ := Lib.hid (show ahead out o r = 0 by rw [HZ.out]; omega)
              as_aux_lemma =>
                go_wp2_with (at_builtin; go_must (refine app_k rfl _ _ 24 rfl 3 (.int .i64 0) 1 8 Tryz.underlying24 info_int rfl (by decide) #[_] _ _ _ _ hown rfl rfl rfl (by intro u hu; simp at hu; subst hu; rfl) hw0 (by omega) (by unfold maxLen; omega) ?_; intro v1 w5 hown1 hg1 _; have HOWN1 := Lib.hid hown1; have HG1 := Lib.hid hg1; clear hown1 hg1))
                go_roundg (ops.length - (k + 1))
                case measure => omega
                case rel =>
                  go_light
                  refine ⟨k + 1, _, by omega, rfl, by go_num, HFIN.out.1, HFIN.out.2.1, HFIN.out.2.2.1, ?_, HFIN.out.2.2.2 _ HG1.out⟩
                  have := HOWN1.out
                  unfold Hid
                  rw [ints_append, List.length_append]
                  rw [HQ.out, Int.zero_add]
                  exact this
        · have ha' : (r.a != 0) = true := by simp [ha]
          obtain ⟨h0a, h1a⟩ := HSP.out.1 ha
          obtain ⟨ja, hja⟩ := Int.eq_ofNat_of_zero_le h0a
          have hjla : ja < out.length := by have := HL.out; omega
          obtain ⟨ao2, cc2, rfl, hcc2, hm2, hx2, hy2⟩ := (Arr.of_owns hown).open
          obtain ⟨b2, off2, rfl, hlt2, hc2⟩ := hy2 (by omega)
          have hcxa : wc.cell? ⟨b2, off2 + ja, none⟩ = some (.int .i64 out[ja]) := by rw [hc2 ja (by omega), ints_get out ja hjla]
          by_cases hb : r.b = 0
          · have hb' : (r.b != 0) = false := by simp [hb]
            have HZ := Lib.hid (show ahead out o r = out[ja] by simp [ahead, ha, hb, hja, List.getD, hjla])
            have hoa := HU.out out[ja] (List.getElem_mem _)
            generalize out[ja] = za at hcxa HZ hoa
            rw [hja] at p1
            clear ha hb hc2 hx2 hm2 hja h0a h1a hy2
            as_aux_lemma =>
              go_wp2_with (at_builtin; go_must (refine app_k rfl _ _ 24 rfl 3 (.int .i64 0) 1 8 Tryz.underlying24 info_int rfl (by decide) #[_] _ _ _ _ hown rfl rfl rfl (by intro u hu; simp at hu; subst hu; rfl) hw0 (by omega) (by unfold maxLen; omega) ?_; intro v1 w5 hown1 hg1 _; have HOWN1 := Lib.hid hown1; have HG1 := Lib.hid hg1; clear hown1 hg1))
              go_roundg (ops.length - (k + 1))
              case measure => omega
              case rel =>
                go_light
                refine ⟨k + 1, _, by omega, rfl, by go_num, HFIN.out.1, HFIN.out.2.1, HFIN.out.2.2.1, ?_, HFIN.out.2.2.2 _ HG1.out⟩
                have := HOWN1.out
                unfold Hid
                rw [ints_append, List.length_append]
                rw [HZ.out]
                exact this
          · have hb' : (r.b != 0) = true := by simp [hb]
            obtain ⟨h0b, h1b⟩ := HSP.out.2 hb
            obtain ⟨jb, hjb⟩ := Int.eq_ofNat_of_zero_le h0b
            have hjlb : jb < out.length := by have := HL.out; omega
            have hcxb : wc.cell? ⟨b2, off2 + jb, none⟩ = some (.int .i64 out[jb]) := by rw [hc2 jb (by omega), ints_get out jb hjlb]
            have HZ := Lib.hid (show ahead out o r = max out[ja] out[jb] by simp [ahead, ha, hb, hja, hjb, List.getD, hjla, hjlb])
            have hoa := HU.out out[ja] (List.getElem_mem _)
            generalize out[ja] = za at hcxa HZ hoa
            have hob := HU.out out[jb] (List.getElem_mem _)
            generalize out[jb] = zb at hcxb HZ hob
            rw [hja] at p1
            rw [hjb] at p2
            clear ha hb hc2 hx2 hm2 hja h0a h1a hjb h0b h1b hy2
            by_cases hlt : za < zb
            · have HQ := Lib.hid (show ahead out o r = zb by rw [HZ.out]; omega)
              as_aux_lemma =>
                go_wp2_with (at_builtin; go_must (refine app_k rfl _ _ 24 rfl 3 (.int .i64 0) 1 8 Tryz.underlying24 info_int rfl (by decide) #[_] _ _ _ _ hown rfl rfl rfl (by intro u hu; simp at hu; subst hu; rfl) hw0 (by omega) (by unfold maxLen; omega) ?_; intro v1 w5 hown1 hg1 _; have HOWN1 := Lib.hid hown1; have HG1 := Lib.hid hg1; clear hown1 hg1))
                go_roundg (ops.length - (k + 1))
                case measure => omega
                case rel =>
                  go_light
                  refine ⟨k + 1, _, by omega, rfl, by go_num, HFIN.out.1, HFIN.out.2.1, HFIN.out.2.2.1, ?_, HFIN.out.2.2.2 _ HG1.out⟩
                  have := HOWN1.out
                  unfold Hid
                  rw [ints_append, List.length_append]
                  rw [HQ.out]
                  exact this
            · have HQ := Lib.hid (show ahead out o r = za by rw [HZ.out]; omega)
              as_aux_lemma =>
                go_wp2_with (at_builtin; go_must (refine app_k rfl _ _ 24 rfl 3 (.int .i64 0) 1 8 Tryz.underlying24 info_int rfl (by decide) #[_] _ _ _ _ hown rfl rfl rfl (by intro u hu; simp at hu; subst hu; rfl) hw0 (by omega) (by unfold maxLen; omega) ?_; intro v1 w5 hown1 hg1 _; have HOWN1 := Lib.hid hown1; have HG1 := Lib.hid hg1; clear hown1 hg1))
                go_roundg (ops.length - (k + 1))
                case measure => omega
                case rel =>
                  go_light
                  refine ⟨k + 1, _, by omega, rfl, by go_num, HFIN.out.1, HFIN.out.2.1, HFIN.out.2.2.1, ?_, HFIN.out.2.2.2 _ HG1.out⟩
                  have := HOWN1.out
                  unfold Hid
                  rw [ints_append, List.length_append]
                  rw [HQ.out]
                  exact this
    · obtain rfl : k = ops.length := by omega
      go_wp2_with fail
      go_ret
      have hf := HG.out
      rw [List.drop_length, roundsGo] at hf
      have hr : mRounds ops = out := by rw [mRounds, if_pos HH.out, ← hf]
      exact ⟨_, rfl, by rw [hr]; exact HO.out, HB.out⟩
end Go.Proofs.YtjbhgimhcjcpmaaGreatDoor
