/-
  THE CONTRACT of micro.forms.
-/
import Derived.Test.YtjbhgimhcjcpmaaGreatDoorMGarb
import Derived.Deep.DeepCutAuto
import Derived.Deep.Light
set_option linter.unusedSimpArgs false
set_option linter.unusedVariables false
namespace Go.Proofs.YtjbhgimhcjcpmaaGreatDoor
open Go.RowKit

theorem info_int : (Tryz.prog.info? 3).map (fun i => (i.zero, i.size, i.bytes)) = some (some (.int .i64 0), 1, 8) := by kernel_rfl
theorem cell2 {w : World} {b : Nat} {x y : Value} {t : TypeId} {fr : Nat × Nat} (h : w.heap[b]? = some (.cells #[x, y] t fr)) : w.cell? ⟨b, 0, none⟩ = some x ∧ w.cell? ⟨b, 1, none⟩ = some y := by
  constructor <;> simp [World.cell?, h]
theorem made_zero (n : Nat) : madeCells (Value.int .i64 0).cells n = (ints (List.replicate n 0)).toArray := by
  apply Array.toList_inj.1
  show (madeCells #[.int .i64 0] n).toList = _
  rw [toList_madeCells_one]; simp [ints]

set_option maxHeartbeats 4000000 in
set_option maxRecDepth 100000 in
theorem forms_any (v : Value) (ops : List MOp) (e0 e1 : Int) (w : World) (hv : Arr w.heap.size w 6 v ops.length (ocells ops)) (hl : ops.length ≤ 1000000) (hc : ∀ o ∈ ops, o.c < 18446744073709551616) (hE : ErrT w) :
    Calls Tryz.prog 88 #[v, .agg #[.int .i64 e0, .int .i64 e1]] w (FormsSaid (mForms ops e0 e1) w) := by
  obtain ⟨ao, cc, rfl, hcc, hm, hl', hcell⟩ := hv.open
  have HC := Lib.hid hcell
  have HE := Lib.hid hE
  have HS := Lib.hid hc
  clear hv hcell hl' hm hE hc
  go_enter Tryz.func88, Tryz.ntmps88
  go_wp2_with fail
  go_loopg [7, 17] ops.length (fun g x i wr => ∃ k : Nat, k ≤ ops.length ∧ g = ops.length - k ∧ i = .int .i64 k ∧ x = .int .i64 (mOuts (ops.take k) : Nat) ∧ wr.heap[w.heap.size]? = some (.cells #[.int .i64 e0, .int .i64 e1] 23 (0, 0)) ∧ w.heap.size + 1 ≤ wr.heap.size ∧ Below w.heap.size w wr)
  case atStart => exact ⟨0, Nat.zero_le _, rfl, rfl, rfl, heap_alloc_new _ _, by simp, (Below.refl _ _).alloc (Nat.le_refl _) _⟩
  case round =>
    obtain ⟨k, hk, hg, rfl, rfl, hh, hs, hb⟩ := hrel
    have HH := Lib.hid hh
    have hle := mOuts_le (ops.take k)
    rw [List.length_take] at hle
    clear hh
    by_cases hkl : k < ops.length
    · obtain ⟨b, off, rfl, hbl, hcells⟩ := HC.out (by omega)
      obtain ⟨c0, c1, c2, c3, c4, c5⟩ := op_cells hcells hb hbl rfl k hkl
      have HT := Lib.hid (mOuts_take ops k hkl)
      generalize ops[k] = o at c0 c1 c2 c3 c4 c5 HT
      clear hcells
      have HB := Lib.hid hb
      clear hb
      by_cases ht : mTold o = true
      · have ht' : (o.kind == 18 || o.kind == 19) = true := ht
        have HT2 := Lib.hid ht
        clear ht
        go_wp2_with (go_at_call 109; go_must (refine (told_any _ _ _ _ _ _ _).mono ?_; rw [ht']; rintro e w1 ⟨rfl, hb1⟩; clear c0 c1 c2 c3 c4 c5 ht'))
        go_roundg (ops.length - (k + 1))
        case measure => omega
        case rel =>
          obtain ⟨h0, hB1, hz⟩ := after1 hb1
          refine ⟨k + 1, by omega, rfl, by go_num, by rw [HT.out, HT2.out]; go_num, (hB1.block _ (by omega)).trans HH.out, by omega, HB.out.trans (hB1.mono HB.out.size)⟩
      · have ht' : (o.kind == 18 || o.kind == 19) = false := (Bool.not_eq_true _).mp ht
        have HT2 := Lib.hid ht
        clear ht
        go_wp2_with (go_at_call 109; go_must (refine (told_any _ _ _ _ _ _ _).mono ?_; rw [ht']; rintro e w1 ⟨rfl, hb1⟩; clear c0 c1 c2 c3 c4 c5 ht'))
        go_roundg (ops.length - (k + 1))
        case measure => omega
        case rel =>
          obtain ⟨h0, hB1, hz⟩ := after1 hb1
          refine ⟨k + 1, by omega, rfl, by go_num, by rw [HT.out, if_neg HT2.out]; rfl, (hB1.block _ (by omega)).trans HH.out, by omega, HB.out.trans (hB1.mono HB.out.size)⟩
    · obtain rfl : k = ops.length := by omega
      rw [List.take_length] at hle ⊢
      have HB := Lib.hid hb
      clear hb
      generalize hO : mOuts ops = outs at hle ⊢
      have HO := Lib.hid hO
      clear hO
      obtain ⟨i0, hi0, hz0, hs0, hb0⟩ := info_parts info_int
      have hmk := run_make (P := Tryz.prog) wr 24 3 i0 (.int .i64 0) Tryz.underlying24 hi0 hz0 .i64 .i64 outs outs (by omega) (by omega) (by rw [hb0]; omega) (by omega)
      rw [hs0, Int.toNat_natCast, Nat.mul_one] at hmk
      have hsn := heap_alloc_new wr (.cells (madeCells (Value.int .i64 0).cells outs) 3)
      rw [made_zero] at hmk hsn
      have hbe := (old1 (.cells (ints (List.replicate outs 0)).toArray 3) HH.out)
      have hB2 := HB.out.alloc (Nat.le_of_lt hs) (.cells (ints (List.replicate outs 0)).toArray 3)
      have hz2 : wr.heap.size < (wr.alloc (.cells (ints (List.replicate outs 0)).toArray 3)).heap.size := by simp
      have HMK := Lib.hid hmk; have HSN := Lib.hid hsn; have HBE := Lib.hid hbe; have HB2 := Lib.hid hB2
      clear hsn hbe hB2 HMK hi0 hz0 hs0 hb0
      generalize hbs : wr.heap.size = bs at HSN hs hmk hz2
      have HBS := Lib.hid hbs
      clear hbs
      go_wp2_with fail
      clear hmk
      go_loopg [6, 30] ops.length (fun g x i wq => ∃ (k : Nat) (made seen : List Int), k ≤ ops.length ∧ g = ops.length - k ∧ i = .int .i64 k ∧ Hid (made.length = k) ∧ Hid (seen.length = outs) ∧ Hid (formsGo e0 e1 outs (ops.drop k) seen made = mForms ops e0 e1) ∧
        Hid (wq.ownsRow (bs + 1) 148 1 x made.length (ints made)) ∧ Hid (wq.heap[bs]? = some (.cells (ints seen).toArray 3 (0, 0))) ∧ Hid (wq.heap[w.heap.size]? = some (.cells #[.int .i64 e0, .int .i64 e1] 23 (0, 0))) ∧ Hid (Below w.heap.size w wq))
      case atStart =>
        exact ⟨0, [], List.replicate outs 0, Nat.zero_le _, rfl, rfl, rfl, by simp [Hid], by simp only [Hid, List.drop_zero]; rw [mForms, HO.out], World.ownsRow_nil _ _ _ _, by rw [← HBS.out]; exact heap_alloc_new _ _, HBE.out, HB2.out⟩
      case round =>
        obtain ⟨k, made, seen, hk, hg, rfl, HM, HSL, HF, HOWN, HSN2, HEL, HBW⟩ := hrel
        clear HBE HB2 HSN
        by_cases hkl : k < ops.length
        · obtain ⟨b, off, rfl, hbl, hcells⟩ := HC.out (by omega)
          obtain ⟨c0, c1, c2, c3, c4, c5⟩ := op_cells hcells HBW.out hbl rfl k hkl
          have HD := Lib.hid (List.drop_eq_getElem_cons hkl)
          have ho := HS.out ops[k] (List.getElem_mem _)
          generalize ops[k] = o at c0 c1 c2 c3 c4 c5 HD ho
          clear hcells
          obtain ⟨r, B, hr⟩ : ∃ r B, mRule o e0 e1 = (r, B) := ⟨_, _, rfl⟩
          have HR := Lib.hid hr
          clear hr
          have HBW1 := Lib.hid (HBW.out.alloc HBW.out.size (.cells o.arr 44))
          have ce := cell2 (old1 (.cells o.arr 44) HEL.out)
          simp only [MOp.arr] at ce
          obtain ⟨ce0, ce1⟩ := ce
          go_upto_region 14 with (go_at_call 90; go_must (refine (ruleOf_any o e0 e1 _ ho (HE.out.below HBW1.out)).mono ?_; rw [HR.out]; unfold RetB Rule.out Rule.arr; rintro e w1 ⟨rfl, hb1⟩; have HB1 := Lib.hid hb1; clear hb1))
          have hF := FSt.mk1 (r := r) HOWN.out HSN2.out HEL.out HBW.out hs HB1.out
          simp only [Rule.arr] at hF
          clear c0 c1 c2 c3 c4 c5 ce0 ce1 HBW1 HOWN HSN2 HEL HBW HB1
          generalize hB1 : wr.heap.size = B1 at hF ⊢
          generalize hB2 : w1.heap.size = B2 at hF ⊢
          generalize w1.alloc (.cells #[.int .i64 r.a, .int .i64 r.b, .int .i64 r.makes, .int .i64 r.k, .bool r.c, .bool r.party, .int .i64 r.rounds] 150) = W at hF ⊢
          clear hB1 hB2
          obtain ⟨t, ht⟩ : ∃ t, mTold o = t := ⟨_, rfl⟩
          have ht' : (o.kind == 18 || o.kind == 19) = t := ht
          have HTO := Lib.hid ht
          have HTO' := Lib.hid ht'
          obtain ⟨p0, p1, p2, p3, p4, p5⟩ := hF.opc
          have HFW := Lib.hid hF
          clear ht ht' hF
          go_upto_if 42 with (go_at_call 109; go_must (refine (told_any _ _ _ _ _ _ _).mono ?_; rw [HTO'.out]; rintro e w2 ⟨rfl, hb2⟩; have HF2 := Lib.hid (HFW.out.later hb2); clear hb2))
          clear p0 p1 p2 p3 p4 p5 HFW HTO'
          obtain ⟨ok1, hok1⟩ : ∃ ok1, opOk1 outs seen o (r, B) = ok1 := ⟨_, rfl⟩
          have HOK1 := Lib.hid hok1
          clear hok1
          go_cut [14] from 31 to 148 (fun s14 wx => s14 = .bool ok1 ∧ Hid (FSt w bs B1 B2 o { r with k := opK outs o (r, B) } e0 e1 (opSeen seen o ok1) made u6 wx))
          case first =>
            obtain ⟨p0, p1, p2, p3, p4, p5⟩ := HF2.out.opc
            obtain ⟨q0, q1, q2, q3, q4, q5, q6, qf⟩ := HF2.out.rulec
            cases t
            · as_aux_lemma =>
              go_wp2_with fail
              go_meet
              case rel =>
                have e1 : mTold o = false := HTO.out
                have e2 : opK outs o (r, B) = r.k := by simp [opK, e1]
                refine ⟨?_, ?_⟩
                · rw [← HOK1.out]; simp [opOk1, e1]
                · unfold Hid; rw [e2, opSeen_not _ _ _ e1]; exact HF2.out
            · have hF3 := Lib.hid (HF2.out.setK outs)
              have ho1 := HF2.out.lt2
              have ho2 := HF2.out.lt3
              have hn1 : ¬ B2 = bs := by omega
              have hn2 : ¬ bs = B2 := by omega
              have hn3 : ¬ B2 = B1 := by omega
              have hn4 : ¬ B1 = B2 := by omega
              cases B
              · -- no rule
                as_aux_lemma =>
                go_wp2_with fail
                go_meet
                case rel =>
                  have e1 : mTold o = true := HTO.out
                  have e2 : opK outs o (r, false) = outs := by simp [opK, e1]
                  refine ⟨?_, ?_⟩
                  · rw [← HOK1.out]; simp [opOk1, e1]
                  · unfold Hid; rw [e2, ← HOK1.out, show opOk1 outs seen o (r, false) = false by simp [opOk1, e1]]; rw [opSeen_no]; exact hF3.out
              · by_cases hk0 : 0 ≤ o.k
                · by_cases hk1 : o.k < outs
                  · obtain ⟨j, hj⟩ := Int.eq_ofNat_of_zero_le hk0
                    have hjs : j < seen.length := by have := HSL.out; omega
                    obtain ⟨sc, sf⟩ := HF2.out.seenc j hjs
                    have HSC := Lib.hid (show seen.getD j 0 = seen.getD j 0 from rfl)
                    rw [hj] at p3 hk1 hk0
                    have HJ := Lib.hid hj
                    clear hj
                    obtain ⟨y, hy⟩ : ∃ y, seen.getD j 0 = y := ⟨_, rfl⟩
                    rw [hy] at sc
                    have HYQ := Lib.hid (show seen[j]?.getD 0 = y by rw [← hy]; simp [List.getD])
                    clear hy HSC
                    have hjo : j < outs := by omega
                    by_cases hy0 : y = 0
                    · subst hy0
                      have hF4 := Lib.hid (hF3.out.setSeen j)
                      as_aux_lemma =>
                      go_wp2_with fail
                      go_meet
                      case rel =>
                        have e1 : mTold o = true := HTO.out
                        have e2 : opK outs o (r, true) = outs := by simp [opK, e1]
                        refine ⟨?_, ?_⟩
                        · rw [← HOK1.out]; simp [opOk1, e1, HJ.out, HYQ.out, hjo]
                        · unfold Hid; rw [e2, ← HOK1.out, show opOk1 outs seen o (r, true) = true by simp [opOk1, e1, HJ.out, HYQ.out, hjo]]; rw [opSeen_yes _ _ e1, HJ.out, Int.toNat_natCast]; exact hF4.out
                    · have hy1 : (y == 0) = false := by simpa using hy0
                      clear hy0
                      as_aux_lemma =>
                      go_wp2_with fail
                      go_meet
                      case rel =>
                        have e1 : mTold o = true := HTO.out
                        have e2 : opK outs o (r, true) = outs := by simp [opK, e1]
                        refine ⟨?_, ?_⟩
                        · rw [← HOK1.out]; simp [opOk1, e1, HJ.out, HYQ.out, hjo, hy1]
                        · unfold Hid; rw [e2, ← HOK1.out, show opOk1 outs seen o (r, true) = false by simp [opOk1, e1, HJ.out, HYQ.out, hjo, hy1]]; rw [opSeen_no]; exact hF3.out
                  · have hk1' : decide (o.k < outs) = false := by simpa using hk1
                    as_aux_lemma =>
                    go_wp2_with fail
                    go_meet
                    case rel =>
                      have e1 : mTold o = true := HTO.out
                      have e2 : opK outs o (r, true) = outs := by simp [opK, e1]
                      refine ⟨?_, ?_⟩
                      · rw [← HOK1.out]; simp [opOk1, e1, hk1']
                      · unfold Hid; rw [e2, ← HOK1.out, show opOk1 outs seen o (r, true) = false by simp [opOk1, e1, hk1']]; rw [opSeen_no]; exact hF3.out
                · have hk0' : decide (0 ≤ o.k) = false := by simpa using hk0
                  as_aux_lemma =>
                  go_wp2_with fail
                  go_meet
                  case rel =>
                    have e1 : mTold o = true := HTO.out
                    have e2 : opK outs o (r, true) = outs := by simp [opK, e1]
                    refine ⟨?_, ?_⟩
                    · rw [← HOK1.out]; simp [opOk1, e1, hk0']
                    · unfold Hid; rw [e2, ← HOK1.out, show opOk1 outs seen o (r, true) = false by simp [opOk1, e1, hk0']]; rw [opSeen_no]; exact hF3.out
          case rest =>
            obtain ⟨rfl, HF5⟩ := hcut
            clear HF2
            obtain ⟨A, hA⟩ : ∃ A, mWants made o.a r.a = A := ⟨_, rfl⟩
            obtain ⟨A2, hA2⟩ : ∃ A2, mWants made o.b r.b = A2 := ⟨_, rfl⟩
            have HA := Lib.hid hA
            have HA2 := Lib.hid hA2
            clear hA hA2
            obtain ⟨p0, p1, p2, p3, p4, p5⟩ := HF5.out.opc
            obtain ⟨q0, q1, q2, q3, q4, q5, q6, qf⟩ := HF5.out.rulec
            simp only at q0 q1 q2 q3 q4 q5 q6
            have HARR := Lib.hid (Arr.of_owns HF5.out.own)
            obtain ⟨N, hN⟩ : ∃ N, opK outs o (r, B) = N := ⟨_, rfl⟩
            rw [hN] at q3
            have HN := Lib.hid hN
            clear hN
            go_upto_region 19 with fail
            go_cut [14] from 31 to 148 (fun s14 wx => s14 = .bool (ok1 && (A && A2)) ∧ wc = wx)
            case first =>
              cases ok1
              · as_aux_lemma =>
                go_wp2_with fail
                go_meet
                case rel => exact ⟨rfl, rfl⟩
              · cases A
                · as_aux_lemma =>
                  go_wp2_with (go_at_call 110; go_must (refine (wants_any u6 made o.a r.a _ HARR.out).mono ?_; rw [HA.out]; rintro e w' ⟨rfl, rfl⟩))
                  go_meet
                  case rel => exact ⟨rfl, rfl⟩
                · cases A2
                  · as_aux_lemma =>
                    go_wp2_with (go_at_call 110; go_must (refine (wants_any u6 made _ _ _ HARR.out).mono ?_; (first | rw [HA.out] | rw [HA2.out]); rintro e w' ⟨rfl, rfl⟩))
                    go_meet
                    case rel => exact ⟨rfl, rfl⟩
                  · as_aux_lemma =>
                    go_wp2_with (go_at_call 110; go_must (refine (wants_any u6 made _ _ _ HARR.out).mono ?_; (first | rw [HA.out] | rw [HA2.out]); rintro e w' ⟨rfl, rfl⟩))
                    go_meet
                    case rel => exact ⟨rfl, rfl⟩
            case rest =>
              obtain ⟨rfl, rfl⟩ := hcut
              obtain ⟨ok2, hok2⟩ : ∃ ok2, (ok1 && (A && A2)) = ok2 := ⟨_, rfl⟩
              rw [hok2]
              have HOK2 := Lib.hid hok2
              clear hok2
              go_upto_region 20 with fail
              go_cut [14] from 31 to 148 (fun s14 wx => s14 = .bool (ok2 && opNum outs o (r, B)) ∧ wc = wx)
              case first =>
                cases ok2
                · as_aux_lemma =>
                    go_wp2_with fail
                    all_goals
                      go_meet
                      case rel =>
                        go_light
                        refine ⟨?_, rfl⟩
                        rw [opNum, HN.out]
                        simp [*]
                        try (intros; omega)
                · by_cases hn0 : 0 < N
                  · by_cases hk0 : 0 ≤ o.k
                    · by_cases hkN : o.k < N
                      · as_aux_lemma =>
                          go_wp2_with fail
                          all_goals
                            go_meet
                            case rel =>
                              go_light
                              refine ⟨?_, rfl⟩
                              rw [opNum, HN.out]
                              simp [*]
                              try (intros; omega)
                      · as_aux_lemma =>
                          go_wp2_with fail
                          all_goals
                            go_meet
                            case rel =>
                              go_light
                              refine ⟨?_, rfl⟩
                              rw [opNum, HN.out]
                              simp [*]
                              try (intros; omega)
                    · as_aux_lemma =>
                        go_wp2_with fail
                        all_goals
                          go_meet
                          case rel =>
                            go_light
                            refine ⟨?_, rfl⟩
                            rw [opNum, HN.out]
                            simp [*]
                            try (intros; omega)
                  · as_aux_lemma =>
                      go_wp2_with fail
                      all_goals
                        go_meet
                        case rel =>
                          go_light
                          refine ⟨?_, rfl⟩
                          rw [opNum, HN.out]
                          simp [*]
                          try (intros; omega)
              case rest =>
                obtain ⟨rfl, rfl⟩ := hcut
                obtain ⟨OK, hOK⟩ : ∃ OK, opOk outs seen made o (r, B) = OK := ⟨_, rfl⟩
                have e1' : (ok2 && opNum outs o (r, B)) = OK := by rw [← hOK, opOk, HOK1.out, HA.out, HA2.out, HOK2.out]
                rw [e1']
                have HOK := Lib.hid hOK
                clear hOK e1'
                cases OK
                · as_aux_lemma =>
                  go_wp2_with (go_at_call 27; go_must (refine (wrap_errno _ _ _ _ (HE.out.below HF5.out.below)).mono ?_; rintro e w3 ⟨v, rfl, hv, hb3⟩; have HV := Lib.hid hv; have HB3 := Lib.hid hb3; clear hv hb3))
                  go_ret2
                  have hf := HF.out
                  rw [HD.out, formsGo_no HR.out HOK.out] at hf
                  rw [← hf]
                  exact ⟨HF5.out.below.trans (HB3.out.mono HF5.out.below.size), _, rfl, _, _, HV.out⟩
                · as_aux_lemma =>
                  have hown := HF5.out.own
                  have hbs : bs + 1 ≤ wc.heap.size := by have := lt_of_block' HF5.out.rule; have := HF5.out.lt2; have := HF5.out.lt3; omega
                  have hml : made.length ≤ 1000000 := by have := HM.out; omega
                  go_wp2_with (at_builtin; go_must (refine app_k rfl _ _ 144 rfl 148 (.int .i64 0) 1 8 Tryz.underlying144 info_form rfl (by decide) #[_] _ _ _ _ hown rfl rfl rfl (by intro u hu; simp at hu; subst hu; rfl) hbs (by omega) (by unfold maxLen; omega) ?_; intro v1 w4 hown1 hg1 _; have HOWN1 := Lib.hid hown1; have HG1 := Lib.hid hg1; clear hown1 hg1))
                  go_roundg (ops.length - (k + 1))
                  case measure => omega
                  case rel =>
                    have hlt := hown.lt
                    have hne : ∀ j, (u6.ownBlock = some j → False) → j < wc.heap.size → w4.heap[j]? = wc.heap[j]? := fun j h1 h2 => HG1.out.block j h2 (fun e => h1 e.symm)
                    refine ⟨k + 1, made ++ [r.makes], opSeen seen o ok1, by omega, rfl, by go_num, by simp [Hid, HM.out], by simp only [Hid]; rw [opSeen_len]; exact HSL.out, ?_, ?_, ?_, ?_, ?_⟩
                    · unfold Hid; rw [← HF.out, HD.out, formsGo_yes HR.out HOK.out HOK1.out]
                    · unfold Hid; rw [ints_append, List.length_append]; exact HOWN1.out
                    · exact (hne bs (fun e => by have := hlt bs e; omega) (by omega)).trans HF5.out.seen
                    · exact (hne _ (fun e => by have := hlt _ e; have := HF5.out.lt1; omega) (by have := HF5.out.lt1; omega)).trans HF5.out.elems
                    · exact HF5.out.below.grown HG1.out HF5.out.below.size (fun j hj => by have := hlt j hj; have := HF5.out.lt1; omega)
        · obtain rfl : k = ops.length := by omega
          go_wp2_with fail
          go_ret2
          have hf := HF.out
          rw [List.drop_length, formsGo] at hf
          rw [← hf]
          refine ⟨HBW.out, _, rfl, ?_⟩
          have := HOWN.out
          exact owns_base this (by omega)
end Go.Proofs.YtjbhgimhcjcpmaaGreatDoor
