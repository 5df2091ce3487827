/-
  THE CONTRACT of code.Decode, of whatever bytes.
-/
import Derived.Test.YtjbhgimhcjcpmaaGreatDoorMStepApp
import Derived.Test.YtjbhgimhcjcpmaaGreatDoorMDecSt
import Derived.Test.YtjbhgimhcjcpmaaGreatDoorMRefSame1
import Derived.RegionDies
import Derived.Test.YtjbhgimhcjcpmaaGreatDoorMCheckNo
import Derived.Deep.RegionLaw
set_option linter.unusedSimpArgs false
set_option linter.unusedVariables false
namespace Go.Proofs.YtjbhgimhcjcpmaaGreatDoor
open Go.RowKit

/-- What a reading comes to. -/
def DecPost (w : World) (r : Option MPlan) (e : Ending) (w' : World) : Prop :=
  match r with
  | some p => ∃ v, e = .returned (.tuple #[.agg (planArr p v), .nilIface]) ∧ PlanOwn w.heap.size w' p v ∧ Below w.heap.size w w'
  | none => ∃ u, e = .returned (.tuple #[.agg zeroPlan, u]) ∧ (∃ l, IsErr w'.heap.size w' l 180 u) ∧ Below w.heap.size w w'

theorem DSt.start (w : World) : DSt w plan0 pv0 ((w.alloc (.cells zeroPlan 30)).alloc (.cells #[.nilIface] 35)) :=
  ⟨heap_alloc2_old _ _ _, heap_alloc2_new _ _ _, below_alloc2 _ _ _, PlanOwn.zero _ _⟩

theorem DSt.drewN {w : World} {p : MPlan} {v : PVals} {W : World} (h : DSt w p v W) (n : Nat) : DSt w p v (W.drewN n) := h.later ⟨rfl, rfl, rfl, Nat.le_refl _, fun _ _ => rfl⟩
theorem DSt.drew {w : World} {p : MPlan} {v : PVals} {W : World} (h : DSt w p v W) : DSt w p v W.drew := h.later (Below.refl _ _).drew
theorem equalB_b (v1 v2 : Value) (a b : List Nat) (w : World) (B : Bool) (hB : decide (a = b) = B) (h1 : Arr w.heap.size w 1 v1 a.length (bts a)) (h2 : Arr w.heap.size w 1 v2 b.length (bts b)) :
    Calls Tryz.prog 28 #[v1, v2] w fun e w' => e = .returned (.bool B) ∧ ∃ n, w' = w.drewN n := by
  subst hB; exact equalB_any v1 v2 a b w h1 h2

theorem results_cell2 {P : Program} {fn : Func} {p q : Tmp} {ty tz : TypeId} (h : fn.results = #[.cell p ty, .cell q tz]) (tmps : Array Value) (w : World) (g : Nat) (t : TypeId) (cs : Array Value) (fr : Nat × Nat) (d : TypeDesc)
    (hp : tmps.getD p undef = .pointer (some ⟨g, 0, none⟩)) (hg : w.heap[g]? = some (.cells cs t fr))
    (hu : P.underlying ty = some d) (hd : (match d with | .struct _ | .array _ _ => true | _ => false) = true) (hi : (P.info? ty).map (·.size) = some cs.size)
    (g2 : Nat) (x : Value) (t2 : TypeId) (fr2 : Nat × Nat) (hq : tmps.getD q undef = .pointer (some ⟨g2, 0, none⟩)) (hg2 : w.heap[g2]? = some (.cells #[x] t2 fr2)) {d2 : TypeDesc} (hu2 : P.underlying tz = some d2) (hd2 : (match d2 with | .struct _ | .array _ _ => true | _ => false) = false) :
    (results fn tmps).run P w = .ok (.tuple #[.agg cs, x]) w := by
  have hp' : tmps[p]?.getD undef = .pointer (some ⟨g, 0, none⟩) := by simpa using hp
  have hq' : tmps[q]?.getD undef = .pointer (some ⟨g2, 0, none⟩) := by simpa using hq
  have hc : w.cell? ⟨g2, 0, none⟩ = some x := by simp [World.cell?, hg2]
  have ha : (loadVar tz ⟨g2, 0, none⟩).run P w = .ok x w := by
    have : (isAgg tz).run P w = .ok false w := by
      simp only [isAgg, Sem.run_bind, run_underlying hu2, Result.andThen_ok]
      cases d2 <;> first | rfl | cases hd2
    simp [loadVar, this, hc]
  simp [results, h, hp', hq', asAddr, run_loadVar_row w g t ty cs fr d hg hu hd hi, ha]

/-- Where it panics with what could not be taken: the door. -/
theorem dec_fail {w W : World} {p : MPlan} {v : PVals} {n : Nat} {a : Act} (h : DSt w p v W) (hE : ErrT w) (hn : n ≤ 1000000) (h2 : a.tmps.getD 2 undef = .pointer (some ⟨w.heap.size, 0, none⟩)) (h3 : a.tmps.getD 3 undef = .pointer (some ⟨w.heap.size + 1, 0, none⟩))
    (hd : a.defers = [{ target := .fn (.func 26) #[.pointer (some ⟨w.heap.size, 0, none⟩), .pointer (some ⟨w.heap.size + 1, 0, none⟩)], args := #[] }]) :
    bodyPostD Tryz.prog Tryz.f10 (DecPost w none) (Exit.panic [{ v := .iface 66 (.agg #[.int .i64 n]), recovered := false }]) a W := by
  obtain ⟨tmps, defers⟩ := a
  simp only at h2 h3 hd
  subst hd
  refine leaves_cons (f := 26) (args := #[.pointer (some ⟨w.heap.size, 0, none⟩), .pointer (some ⟨w.heap.size + 1, 0, none⟩)]) (by simp) (by simp [go_sem]) ?_
  refine (catch_thrown w.heap.size (w.heap.size + 1) n W _ _ h.plan rfl h.err (by omega) (hE.below h.below)).mono ?_
  rintro e u' w'' ⟨rfl, rfl, u, hp, he, herr, hb⟩
  have hr := results_cell2 (P := Tryz.prog) (fn := Tryz.f10) (p := 2) (q := 3) (ty := 30) (tz := 35) rfl tmps w'' w.heap.size _ zeroPlan _ _ h2 hp Tryz.underlying30 rfl info_plan (w.heap.size + 1) u _ _ h3 he Tryz.underlying35 rfl
  exact ⟨_, hr, u, rfl, herr, h.below.trans (hb.mono (by omega))⟩
/-- Where it returns: the door. -/
theorem dec_done {w W : World} {p : MPlan} {v : PVals} {a : Act} {r : Option MPlan} (h : DSt w p v W) (hr : r = some p) (h2 : a.tmps.getD 2 undef = .pointer (some ⟨w.heap.size, 0, none⟩)) (h3 : a.tmps.getD 3 undef = .pointer (some ⟨w.heap.size + 1, 0, none⟩))
    (hd : a.defers = [{ target := .fn (.func 26) #[.pointer (some ⟨w.heap.size, 0, none⟩), .pointer (some ⟨w.heap.size + 1, 0, none⟩)], args := #[] }]) :
    bodyPostD Tryz.prog Tryz.f10 (DecPost w r) Exit.ret a W := by
  subst hr
  obtain ⟨tmps, defers⟩ := a
  simp only at h2 h3 hd
  subst hd
  refine leaves_cons (f := 26) (args := #[.pointer (some ⟨w.heap.size, 0, none⟩), .pointer (some ⟨w.heap.size + 1, 0, none⟩)]) (by simp) (by simp [go_sem]) ?_
  refine (catch_idle ⟨w.heap.size, 0, none⟩ ⟨w.heap.size + 1, 0, none⟩ W).mono ?_
  rintro e u' w'' ⟨rfl, rfl, rfl⟩
  have hr := results_cell2 (P := Tryz.prog) (fn := Tryz.f10) (p := 2) (q := 3) (ty := 30) (tz := 35) rfl tmps w'' w.heap.size _ (planArr p v) _ _ h2 h.plan Tryz.underlying30 rfl (by rw [info_plan]; rfl) (w.heap.size + 1) _ _ _ h3 h.err Tryz.underlying35 rfl
  exact ⟨_, hr, v, rfl, h.own, h.below⟩

theorem sub_succ_lt {n k : Nat} (h : k < n) : ∃ q, n - k = q + 1 := ⟨n - k - 1, by omega⟩
theorem sub_succ_eq {n k q : Nat} (h : n - k = q + 1) : n - (k + 1) = q := by omega
theorem info_plan16 {p : MPlan} {v : PVals} : (Tryz.prog.info? 30).map (·.size) = some (planArr p v).size := by rw [info_plan]; rfl
set_option maxHeartbeats 8000000 in
set_option maxRecDepth 100000 in
theorem decode_any (bs : List Nat) (v : Value) (w : World) (hv : Arr w.heap.size w 1 v bs.length (bts bs)) (hl : bs.length ≤ 1000000) (hb : ∀ x ∈ bs, x < 256) (hE : ErrT w) :
    Calls Tryz.prog 10 #[v] w (DecPost w (mDecode bs)) := by
  obtain ⟨ao, cc, rfl, hcc, hm, hx, hy⟩ := hv.open
  have HV := Lib.hid hv
  have HB := Lib.hid hb
  have HE := Lib.hid hE
  have HD := Lib.hid (DSt.start w)
  unfold maxLen at hm
  have hmf : ∀ (fn : Fn) (first cap : Array Value) (w : World), (Instr.makeFunc fn first cap).run Tryz.prog w = .ok (.func fn first cap) w := fun _ _ _ _ => rfl
  clear hv hb hE hx hy
  go_enter_defers Tryz.func10, Tryz.ntmps10
  by_cases h4 : bs.length < 4
  · have HN := Lib.hid (show mDecode bs = none by
      rw [mDecode, if_neg]
      intro h; have := congrArg List.length h; rw [List.length_take] at this; simp at this; omega)
    have hd4 : decide ((bs.length : Int) < 4) = true := by simp; omega
    go_wp2_with fail
    go_quiet (fail)
    go_wp2_with fail
    rename Nat => nq
    rw [HN.out]
    exact dec_fail (HD.out.drewN nq) HE.out hl rfl rfl rfl
  have hd4 : decide ((bs.length : Int) < 4) = false := by simp; omega
  have HA4 := Lib.hid (show Arr w.heap.size w 1 (.slice ao 4 cc) (bs.take 4).length (bts (bs.take 4)) from HV.out.front 4 (by omega))
  have HDd := Lib.hid HD.out.drew
  simp only [zeroPlan] at HDd
  by_cases hh : bs.take 4 = [84, 87, 78, 1]
  rotate_left
  · have HN := Lib.hid (show mDecode bs = none by rw [mDecode, if_neg hh])
    have HT := Lib.hid (show decide (bs.take 4 = [84, 87, 78, 1]) = false by simpa using hh)
    clear hh
    go_wp2_with fail
    go_cut [15] from 6 to 15 (fun s15 wx => s15 = .bool true ∧ Hid (DSt w plan0 pv0 wx))
    case first =>
      first | (go_region_with (first | (go_at_call 21; go_must (refine (head_any _).mono ?_; rintro e w1 ⟨u1, rfl, hown, hb1⟩; have HD1 := Lib.hid (HDd.out.later hb1); have HO1 := Lib.hid (Arr.of_owns hown); clear hown hb1)) | (go_at_call 28; go_must (refine (equalB_b _ _ (bs.take 4) [84, 87, 78, 1] _ _ HT.out (HA4.out.later HD1.out.below HD1.out.below.size) HO1.out).mono ?_; rintro e w2 ⟨rfl, n2, hw2⟩; have hd2 := HD1.out.drewN n2; rw [← hw2] at hd2; have HD2 := Lib.hid hd2; clear hw2 hd2)))) | (fail "region")
      all_goals (go_wp2_with fail; go_meet; exact ⟨rfl, HD2⟩)
    case rest =>
      obtain ⟨rfl, HD2⟩ := hcut
      go_wp2_with fail
      rw [HN.out]
      exact dec_fail HD2.out HE.out hl rfl rfl rfl
  have HT := Lib.hid (show decide (bs.take 4 = [84, 87, 78, 1]) = true by simpa using hh)
  have HM := Lib.hid (show mDecode bs = (pPlan (bs.drop 4)).bind fun x => if mGood x.1 = true ∧ x.2 = [] then some x.1 else none by rw [mDecode, if_pos hh])
  clear hh
  go_wp2_with fail
  go_cut [15] from 6 to 15 (fun s15 wx => s15 = .bool false ∧ Hid (DSt w plan0 pv0 wx))
  case first =>
    first | (go_region_with (first | (go_at_call 21; go_must (refine (head_any _).mono ?_; rintro e w1 ⟨u1, rfl, hown, hb1⟩; have HD1 := Lib.hid (HDd.out.later hb1); have HO1 := Lib.hid (Arr.of_owns hown); clear hown hb1)) | (go_at_call 28; go_must (refine (equalB_b _ _ (bs.take 4) [84, 87, 78, 1] _ _ HT.out (HA4.out.later HD1.out.below HD1.out.below.size) HO1.out).mono ?_; rintro e w2 ⟨rfl, n2, hw2⟩; have hd2 := HD1.out.drewN n2; rw [← hw2] at hd2; have HD2 := Lib.hid hd2; clear hw2 hd2)))) | (fail "region")
    all_goals (go_wp2_with fail; go_meet; exact ⟨rfl, HD2⟩)
  case rest =>
  obtain ⟨rfl, HD2⟩ := hcut
  obtain ⟨ao2, cc2, hv2, _, _, _, hy2⟩ := HV.out.open
  obtain ⟨rfl, rfl⟩ : ao = ao2 ∧ cc = cc2 := by simpa using hv2
  obtain ⟨b, off, rfl, hbl, _⟩ := hy2 (by omega)
  clear hv2 hy2
  have hlt2 : w.heap.size + 1 < wc.heap.size := lt_of_block HD2.out.err
  have HCS := Lib.hid (fun (a : Addr) c' (h1 : c' = cc - 4) h2 => show DC w plan0 pv0 wc.heap.size (bs.drop 4) (wc.alloc (.cells #[.slice (some a) (bs.length - 4) c'] 72)) from
    ⟨HD2.out.later ((Below.refl _ _).alloc (Nat.le_refl _) _), ⟨⟨_, heap_alloc_new _ _, Arr.drop HV.out 4 (by omega) a c' h1 h2⟩, by omega, (HD2.out.later ((Below.refl _ _).alloc (Nat.le_refl _) _)).below, by rw [List.length_drop]; omega, fun x hx => HB.out x (List.mem_of_mem_drop hx)⟩, hlt2⟩)
  go_upto_region 4 with fail
  go_cut [4] from 6 to 23 (fun s4 wx => ∃ Bc, s4 = .pointer (some ⟨Bc, 0, none⟩) ∧ Hid (DC w plan0 pv0 Bc (bs.drop 4) wx))
  case first =>
    go_wp2_with fail
    all_goals
      (first | (rename cc = 4 => h44; subst h44) | skip)
      go_meet
      exact ⟨wc.heap.size, rfl, HCS.out _ _ (by omega) (by first | exact .inl rfl | (right; omega))⟩
  case rest =>
  obtain ⟨w2, rfl⟩ : ∃ w2, w2 = wc := ⟨_, rfl⟩
  obtain ⟨Bc, rfl, HC0⟩ := hcut
  clear HCS HD2 hlt2 HD HDd HA4 HV hl hcc hm HB HT
  generalize bs.drop 4 = r at HC0 HM
  have HQ0 := Lib.hid (show pPlan r = (pNum r).bind fun a => (pNum a.2).bind fun b => (pShapes b.2).bind fun c => (pShapes c.2).bind fun d => (pShapes d.2).bind fun e => (pCount e.2).bind fun n => (pOps n.1 n.2).bind fun o => some (mkPlan o.1 a.1 b.1 c.1 d.1 e.1, o.2) from rfl)
  go_wp2_with fail
  rcases hp : pNum r with _ | ⟨na, ra⟩
  · have HN := Lib.hid hp
    have HR := Lib.hid (show mDecode bs = none by rw [HM.out, HQ0.out, hp]; rfl)
    clear hp
    as_aux_lemma =>
      go_at_call 29
      refine (cutNumber_no w Bc _ _ HC0.out.c HN.out).mono ?_
      rintro e w3 ⟨⟨q, hq, rfl⟩, rfl⟩
      go_wp2_with fail
      rw [HR.out]
      exact dec_fail HC0.out.d HE.out hq rfl rfl rfl
  have HN := Lib.hid hp
  have HQ1 := Lib.hid (show pPlan r = (pNum ra).bind fun b => (pShapes b.2).bind fun c => (pShapes c.2).bind fun d => (pShapes d.2).bind fun e => (pCount e.2).bind fun n => (pOps n.1 n.2).bind fun o => some (mkPlan o.1 na b.1 c.1 d.1 e.1, o.2) by rw [HQ0.out, hp]; rfl)
  clear hp HQ0
  go_at_call 29
  refine (cutNumber_yes w Bc _ _ _ _ HC0.out.c HN.out).mono ?_
  rintro e w3 ⟨rfl, hc, hg⟩
  have HC1 := Lib.hid (HC0.out.step hc hg)
  clear hc hg HC0 HN
  go_wp2_with fail
  rcases hp : pNum ra with _ | ⟨nb, rb⟩
  · have HN := Lib.hid hp
    have HR := Lib.hid (show mDecode bs = none by rw [HM.out, HQ1.out, hp]; rfl)
    clear hp
    as_aux_lemma =>
      go_at_call 29
      refine (cutNumber_no w Bc _ _ HC1.out.c HN.out).mono ?_
      rintro e w3 ⟨⟨q, hq, rfl⟩, rfl⟩
      go_wp2_with fail
      rw [HR.out]
      exact dec_fail HC1.out.d HE.out hq rfl rfl rfl
  have HN := Lib.hid hp
  have HQ2 := Lib.hid (show pPlan r = (pShapes rb).bind fun c => (pShapes c.2).bind fun d => (pShapes d.2).bind fun e => (pCount e.2).bind fun n => (pOps n.1 n.2).bind fun o => some (mkPlan o.1 na nb c.1 d.1 e.1, o.2) by rw [HQ1.out, hp]; rfl)
  clear hp HQ1
  go_at_call 29
  refine (cutNumber_yes w Bc _ _ _ _ HC1.out.c HN.out).mono ?_
  rintro e w4 ⟨rfl, hc, hg⟩
  have HC2 := Lib.hid (HC1.out.step hc hg)
  clear hc hg HC1 HN
  obtain ⟨⟨c0, c1, c2, c3, c4⟩, ⟨c5, c6, c7, c8, c9, c10, c11, c12⟩, c13, c14, c15⟩ := plan_cells HC2.out.d.plan
  have f1 := HC2.out.d.free 1
  have f2 := HC2.out.d.free 2
  simp only [plan0] at c1 c2
  clear c0 c3 c4 c5 c6 c7 c8 c9 c10 c11 c12 c13 c14 c15
  go_wp2_with fail
  have HC3 := Lib.hid (HC2.out.set2 (p' := { plan0 with e0 := na, e1 := nb }) (v' := pv0) 1 2 (.int .i64 na) (.int .i64 nb) rfl ⟨World.ownsRow_nil _ _ _ _, World.ownsRow_nil _ _ _ _, OwnSh.nil _ _, OwnSh.nil _ _, OwnSh.nil _ _⟩)
  clear HC2 c1 c2 f1 f2
  generalize World.setCell (World.setCell w4 _ _) _ _ = W5 at HC3 ⊢
  rcases hp : pShapes rb with _ | ⟨lc, rc⟩
  · have HN := Lib.hid hp
    have HR := Lib.hid (show mDecode bs = none by rw [HM.out, HQ2.out, hp]; rfl)
    clear hp
    as_aux_lemma =>
      go_at_call 30
      refine (cutShapes_any w Bc _ _ HC3.out.c).mono ?_
      unfold CutPost
      rw [HN.out]
      rintro e w3 ⟨⟨q, hq, rfl⟩, hg⟩
      have HF := Lib.hid (HC3.out.fail hg)
      clear hg
      go_wp2_with fail
      rw [HR.out]
      exact dec_fail HF.out HE.out hq rfl rfl rfl
  have HN := Lib.hid hp
  have hlc : lc.length ≤ 1000000 := Nat.le_trans (pShapes_len hp) HC3.out.c.small
  have HQ3 := Lib.hid (show pPlan r = (pShapes rc).bind fun d => (pShapes d.2).bind fun e => (pCount e.2).bind fun n => (pOps n.1 n.2).bind fun o => some (mkPlan o.1 na nb lc d.1 e.1, o.2) by rw [HQ2.out, hp]; rfl)
  clear hp HQ2
  go_at_call 30
  refine (cutShapes_any w Bc _ _ HC3.out.c).mono ?_
  unfold CutPost
  rw [HN.out]
  rintro e w6 ⟨⟨vc, rfl, ho⟩, hc, hg⟩
  obtain ⟨ac, mc, rfl⟩ := ho.form
  have HOc := Lib.hid (ho.base HC3.out.d.below.size)
  have HC4 := Lib.hid (HC3.out.step hc hg)
  clear hc hg ho HC3 HN
  go_wp2_with fail
  rcases hp : pShapes rc with _ | ⟨ld, rd⟩
  · have HN := Lib.hid hp
    have HR := Lib.hid (show mDecode bs = none by rw [HM.out, HQ3.out, hp]; rfl)
    clear hp
    as_aux_lemma =>
      go_at_call 30
      refine (cutShapes_any w Bc _ _ HC4.out.c).mono ?_
      unfold CutPost
      rw [HN.out]
      rintro e w3 ⟨⟨q, hq, rfl⟩, hg⟩
      have HF := Lib.hid (HC4.out.fail hg)
      clear hg
      go_wp2_with fail
      rw [HR.out]
      exact dec_fail HF.out HE.out hq rfl rfl rfl
  have HN := Lib.hid hp
  have hld : ld.length ≤ 1000000 := Nat.le_trans (pShapes_len hp) HC4.out.c.small
  have HQ4 := Lib.hid (show pPlan r = (pShapes rd).bind fun e => (pCount e.2).bind fun n => (pOps n.1 n.2).bind fun o => some (mkPlan o.1 na nb lc ld e.1, o.2) by rw [HQ3.out, hp]; rfl)
  clear hp HQ3
  go_at_call 30
  refine (cutShapes_any w Bc _ _ HC4.out.c).mono ?_
  unfold CutPost
  rw [HN.out]
  rintro e w7 ⟨⟨vd, rfl, ho⟩, hc, hg⟩
  obtain ⟨ad, md, rfl⟩ := ho.form
  have HOd := Lib.hid (ho.base HC4.out.d.below.size)
  have HOc' := Lib.hid (HOc.out.kept hg (HC4.out.c.off _ (by decide)) (HC4.out.c.off _ (by decide)))
  clear HOc
  have HOc := HOc'
  clear HOc'
  have HC5 := Lib.hid (HC4.out.step hc hg)
  clear hc hg ho HC4 HN
  obtain ⟨⟨c0, c1, c2, c3, c4⟩, ⟨c5, c6, c7, c8, c9, c10, c11, c12⟩, c13, c14, c15⟩ := plan_cells HC5.out.d.plan
  have f14 := HC5.out.d.free 14
  have f15 := HC5.out.d.free 15
  simp only [pv0] at c14 c15
  clear c0 c1 c2 c3 c4 c5 c6 c7 c8 c9 c10 c11 c12 c13
  go_wp2_with fail
  have HC5' := Lib.hid (HC5.out.set2 (p' := { plan0 with e0 := na, e1 := nb, in0 := lc, in1 := ld }) (v' := { pv0 with in0 := .slice ac lc.length mc, in1 := .slice ad ld.length md }) 14 15 (.slice ac lc.length mc) (.slice ad ld.length md) rfl ⟨World.ownsRow_nil _ _ _ _, World.ownsRow_nil _ _ _ _, OwnSh.nil _ _, HOc.out, HOd.out⟩)
  clear HC5 c14 c15 f14 f15 HOc HOd
  have HC5 := HC5'
  clear HC5'
  generalize World.setCell (World.setCell w7 _ _) _ _ = W7 at HC5 ⊢
  rcases hp : pShapes rd with _ | ⟨le, re⟩
  · have HN := Lib.hid hp
    have HR := Lib.hid (show mDecode bs = none by rw [HM.out, HQ4.out, hp]; rfl)
    clear hp
    as_aux_lemma =>
      go_at_call 30
      refine (cutShapes_any w Bc _ _ HC5.out.c).mono ?_
      unfold CutPost
      rw [HN.out]
      rintro e w3 ⟨⟨q, hq, rfl⟩, hg⟩
      have HF := Lib.hid (HC5.out.fail hg)
      clear hg
      go_wp2_with fail
      rw [HR.out]
      exact dec_fail HF.out HE.out hq rfl rfl rfl
  have HN := Lib.hid hp
  have hle : le.length ≤ 1000000 := Nat.le_trans (pShapes_len hp) HC5.out.c.small
  have HQ5 := Lib.hid (show pPlan r = (pCount re).bind fun n => (pOps n.1 n.2).bind fun o => some (mkPlan o.1 na nb lc ld le, o.2) by rw [HQ4.out, hp]; rfl)
  clear hp HQ4
  go_at_call 30
  refine (cutShapes_any w Bc _ _ HC5.out.c).mono ?_
  unfold CutPost
  rw [HN.out]
  rintro e w8 ⟨⟨ve, rfl, ho⟩, hc, hg⟩
  obtain ⟨ae, me, rfl⟩ := ho.form
  have HOe := Lib.hid (ho.base HC5.out.d.below.size)
  have HC6 := Lib.hid (HC5.out.step hc hg)
  clear hc hg ho HC5 HN
  obtain ⟨⟨c0, c1, c2, c3, c4⟩, ⟨c5, c6, c7, c8, c9, c10, c11, c12⟩, c13, c14, c15⟩ := plan_cells HC6.out.d.plan
  have f13 := HC6.out.d.free 13
  simp only [pv0] at c13
  clear c0 c1 c2 c3 c4 c5 c6 c7 c8 c9 c10 c11 c12 c14 c15
  go_wp2_with fail
  have HC7 := Lib.hid (HC6.out.set1 (p' := { plan0 with e0 := na, e1 := nb, in0 := lc, in1 := ld, shapes := le }) (v' := { pv0 with in0 := .slice ac lc.length mc, in1 := .slice ad ld.length md, shapes := .slice ae le.length me }) 13 (.slice ae le.length me) rfl ⟨World.ownsRow_nil _ _ _ _, World.ownsRow_nil _ _ _ _, HOe.out, HC6.out.d.own.in0, HC6.out.d.own.in1⟩)
  clear HC6 c13 f13 HOe
  generalize World.setCell w8 _ _ = W8 at HC7 ⊢
  rcases hp : pCount re with _ | ⟨n, rn⟩
  · have HN := Lib.hid hp
    have HR := Lib.hid (show mDecode bs = none by rw [HM.out, HQ5.out, hp]; rfl)
    clear hp
    as_aux_lemma =>
      go_at_call 31
      refine (cutCount_no w Bc _ _ HC7.out.c HN.out).mono ?_
      rintro e w3 ⟨⟨q, hq, rfl⟩, hg⟩
      have HF := Lib.hid (HC7.out.fail hg)
      clear hg
      go_wp2_with fail
      rw [HR.out]
      exact dec_fail HF.out HE.out hq rfl rfl rfl
  have HN := Lib.hid hp
  have hnle := (pCount_some hp).2
  have HQ6 := Lib.hid (show pPlan r = (pOps n rn).bind fun o => some (mkPlan o.1 na nb lc ld le, o.2) by rw [HQ5.out, hp]; rfl)
  clear hp HQ5
  go_at_call 31
  refine (cutCount_yes w Bc _ _ _ _ HC7.out.c HN.out).mono ?_
  rintro e w10 ⟨rfl, hc, hg⟩
  have HC8 := Lib.hid (HC7.out.step hc hg)
  clear hc hg HC7 HN
  have hn6 : n ≤ 1000000 := Nat.le_trans hnle HC8.out.c.small
  clear hnle
  go_wp2_with fail
  clear hmf hd4 h4
  simp only [plan0, pv0] at HC8
  go_loopg [41] n (fun g i wr => ∃ (k : Nat) (os : List MOp) (x : Value) (rest : List Nat), k ≤ n ∧ g = n - k ∧ i = .int .i64 k ∧ Hid (os.length = k) ∧ Hid (pOps n rn = (pOps (n - k) rest).map fun y => (os ++ y.1, y.2)) ∧ Hid (∀ o ∈ os, o.c < 18446744073709551616) ∧ Hid (DC w ⟨os, na, nb, [], 0, need00, le, lc, ld⟩ ⟨x, .slice none 0 0, .slice ae le.length me, .slice ac lc.length mc, .slice ad ld.length md⟩ Bc rest wr))
  case atStart => exact ⟨0, [], .slice none 0 0, rn, Nat.zero_le _, rfl, rfl, rfl, (by unfold Hid; rcases pOps n rn with _ | y <;> simp), (fun o ho => by cases ho), HC8.out⟩
  case round =>
    obtain ⟨k, os, x, rest, hk, hgk, rfl, HL, HP, HCC, HC⟩ := hrel
    clear HC8
    have ho0 := HC.out.d.own.ops
    simp only at ho0
    obtain ⟨xa, xc, rfl, _⟩ := own_open ho0
    clear ho0
    obtain ⟨⟨c0, c1, c2, c3, c4⟩, ⟨c5, c6, c7, c8, c9, c10, c11, c12⟩, c13, c14, c15⟩ := plan_cells HC.out.d.plan
    simp only at c0
    by_cases hkn : k < n
    · clear c1 c2 c3 c4 c5 c6 c7 c8 c9 c10 c11 c12 c13 c14 c15
      obtain ⟨q, hq⟩ := sub_succ_lt hkn
      have HQ := Lib.hid hq
      have HCd := Lib.hid (HC.out.later (Below.refl _ _).drew)
      clear hq
      rcases hp : pOp rest with _ | ⟨o, r2⟩
      · have HN := Lib.hid hp
        have HR := Lib.hid (show mDecode bs = none by
          have h1 := HP.out
          rw [HQ.out] at h1
          rw [HM.out, HQ6.out, pOps_none h1 hp]; rfl)
        clear hp
        as_aux_lemma =>
          go_wp2_with fail
          first | go_region_dies | (fail "region")
          all_goals
            refine (cutOp_any w Bc _ _ HCd.out.c).mono ?_
            unfold CutPost
            rw [HN.out]
            rintro e w3 ⟨⟨q, hq, rfl⟩, hg⟩
            have HF := Lib.hid (HCd.out.fail hg)
            clear hg
            go_wp2_with fail
            rw [HR.out]
            exact dec_fail HF.out HE.out hq rfl rfl rfl
      · have HN := Lib.hid hp
        have hco := pOp_c hp HC.out.c.bytes
        have HP2 := Lib.hid (show pOps n rn = (pOps (n - (k + 1)) r2).map fun y => (os ++ [o] ++ y.1, y.2) by
          have h1 := HP.out
          rw [HQ.out] at h1
          rw [sub_succ_eq HQ.out]; exact pOps_some h1 hp)
        have HCC2 := Lib.hid (show ∀ x ∈ os ++ [o], x.c < 18446744073709551616 by
          intro x hx
          rcases List.mem_append.1 hx with hx | hx
          · exact HCC.out x hx
          · rw [List.mem_singleton.1 hx]; exact hco)
        have hosl : os.length ≤ 1000000 := by have := HL.out; omega
        clear hp
        obtain ⟨wo, rfl⟩ : ∃ wo : World, wo = wr := ⟨_, rfl⟩
        go_wp2_with fail
        refine wp_region_noPanic ?_
        first | (go_region_law ((first | (go_simp; go_at_call 32; refine (cutOp_any w Bc _ _ HCd.out.c).mono ?_; unfold CutPost; rw [HN.out]; rintro e w3 ⟨rfl, hc, hg⟩; have HC3 := Lib.hid (HCd.out.step hc hg); have c3 := (plan_cells HC3.out.d.plan).1.1; simp only at c3; have hlt3 : w.heap.size < w3.heap.size := lt_of_block HC3.out.d.plan; unfold MOp.arr; clear hc hg) | (refine step_app_k (by rfl) _ _ 22 (by rfl) 44 _ 6 48 Tryz.underlying22 info_opz rfl (by decide) (MOp.arr o) os.length w.heap.size (.slice xa os.length xc) (ocells os) HC3.out.d.own.ops (by rfl) (by rfl) rfl (by simp [Value.oneCell', MOp.arr]) (Nat.le_of_lt hlt3) (by omega) (by unfold maxLen; omega) ?_; intro g cap w4 ho4 hg4; have HA4 := Lib.hid (HC3.out.append hg4 ho4); obtain ⟨_, k4, f4⟩ := HA4.out; simp only at k4; clear ho4 hg4)))) | (fail "region")
        all_goals refine NoPanic.normal ?_
        all_goals
          go_wp2_with fail
          go_roundg (n - (k + 1))
          case measure => omega
          case rel =>
            refine ⟨k + 1, os ++ [o], .slice (some ⟨g, 0, none⟩) (os.length + 1) cap, r2, by omega, rfl, by go_num, (by unfold Hid; rw [List.length_append, HL.out]; rfl), HP2.out, HCC2.out, ?_⟩
            exact HA4.out.1
    · obtain rfl : k = n := by omega
      have hosl : os.length ≤ 1000000 := by have := HL.out; omega
      have HF0 := Lib.hid (show pPlan r = some (mkPlan os na nb lc ld le, rest) by
        have h1 := HP.out
        rw [Nat.sub_self] at h1
        rw [HQ6.out, h1]; simp [pOps])
      clear HP HQ6 HL hgk
      obtain ⟨SL, hSL⟩ : ∃ SL, mSlots os = SL := ⟨_, rfl⟩
      obtain ⟨S1, A1⟩ := SL
      have HSL := Lib.hid hSL
      obtain ⟨X, hX⟩ : ∃ X, mNeed os = X := ⟨_, rfl⟩
      have HX := Lib.hid hX
      clear hSL hX
      clear c1 c2 c5 c6 c7 c8 c9 c10 c11 c12 c13 c14 c15 c3 c4
      go_wp2_with (go_at_call 33; go_must (refine (slots_any _ os _ (Arr.of_owns HC.out.d.own.ops) hosl HCC.out (HE.out.below HC.out.d.below)).mono ?_; rw [HSL.out]; simp only; rintro e w11 ⟨us, rfl, hown, hb11⟩; obtain ⟨ua, uc, rfl, -⟩ := own_open hown; have hc11 := HC.out.later hb11; have HO11 := Lib.hid (owns_base hown HC.out.d.below.size); obtain ⟨⟨k0, -, -, k3, k4⟩, -⟩ := plan_cells hc11.d.plan; have f3 := hc11.d.free 3; have f4 := hc11.d.free 4; have HC11 := Lib.hid hc11; simp only at k0 k3; clear hown hb11 hc11))
      have HC12 := Lib.hid (HC11.out.set2 (p' := ⟨os, na, nb, S1, A1, need00, le, lc, ld⟩) (v' := ⟨.slice xa os.length xc, .slice ua S1.length uc, .slice ae le.length me, .slice ac lc.length mc, .slice ad ld.length md⟩) 3 4 (.slice ua S1.length uc) (.int .i64 A1) rfl ⟨HC11.out.d.own.ops, HO11.out, HC11.out.d.own.shapes, HC11.out.d.own.in0, HC11.out.d.own.in1⟩)
      clear HC11 HO11 HC k0 k3 k4 f3 f4 c0
      generalize World.setCell (World.setCell w11 _ _) _ _ = W12 at HC12 ⊢
      go_upto_region 14 with (go_at_call 34; go_must (refine (need_any _ os _ (Arr.of_owns HC12.out.d.own.ops) hosl HCC.out (HE.out.below HC12.out.d.below)).mono ?_; unfold RetB; rw [HX.out]; unfold MNeed.arr; rintro e w13 ⟨rfl, hb13⟩; have hc13 := HC12.out.later hb13; obtain ⟨-, ⟨k5, k6, k7, k8, k9, k10, k11, k12⟩, -⟩ := plan_cells hc13.d.plan; have f5 := hc13.d.free 5; have f6 := hc13.d.free 6; have f7 := hc13.d.free 7; have f8 := hc13.d.free 8; have f9 := hc13.d.free 9; have f10 := hc13.d.free 10; have f11 := hc13.d.free 11; have f12 := hc13.d.free 12; simp only at k5 k6 k7 k8 k9 k10 k11 k12; have HC13 := Lib.hid hc13; clear hb13 hc13 HC12))
      have HC14 := Lib.hid (HC13.out.put (p' := ⟨os, na, nb, S1, A1, X, le, lc, ld⟩) (v' := ⟨.slice xa os.length xc, .slice ua S1.length uc, .slice ae le.length me, .slice ac lc.length mc, .slice ad ld.length md⟩) (W' := ((((((((w13.setCell ⟨w.heap.size, 5, none⟩ (.int .i64 X.tri)).setCell ⟨w.heap.size, 6, none⟩ (.int .i64 X.bits)).setCell ⟨w.heap.size, 7, none⟩ (.int .i64 X.ots)).setCell ⟨w.heap.size, 8, none⟩ (.int .i64 X.t0)).setCell ⟨w.heap.size, 9, none⟩ (.int .i64 X.t1)).setCell ⟨w.heap.size, 10, none⟩ (.int .i64 X.rounds)).setCell ⟨w.heap.size, 11, none⟩ (.int .i64 X.w0)).setCell ⟨w.heap.size, 12, none⟩ (.int .i64 X.w1))) ((((((((grown_set _ _ _ _).trans (grown_set _ _ _ _)).trans (grown_set _ _ _ _)).trans (grown_set _ _ _ _)).trans (grown_set _ _ _ _)).trans (grown_set _ _ _ _)).trans (grown_set _ _ _ _)).trans (grown_set _ _ _ _)) (by rw [heap_setCell (heap_setCell (heap_setCell (heap_setCell (heap_setCell (heap_setCell (heap_setCell (heap_setCell HC13.out.d.plan _) _) _) _) _) _) _)]; rfl) ⟨HC13.out.d.own.ops, HC13.out.d.own.slots, HC13.out.d.own.shapes, HC13.out.d.own.in0, HC13.out.d.own.in1⟩)
      clear HC13 k5 k6 k7 k8 k9 k10 k11 k12 f5 f6 f7 f8 f9 f10 f11 f12
      generalize World.setCell (World.setCell (World.setCell (World.setCell (World.setCell (World.setCell (World.setCell (World.setCell w13 _ _) _ _) _ _) _ _) _ _) _ _) _ _) _ _ = W14 at HC14 ⊢
      have HPM := Lib.hid (show mkPlan os na nb lc ld le = ⟨os, na, nb, S1, A1, X, le, lc, ld⟩ by rw [mkPlan, HSL.out, HX.out])
      have HMD := Lib.hid (show mDecode bs = if mGood ⟨os, na, nb, S1, A1, X, le, lc, ld⟩ = true ∧ rest = [] then some ⟨os, na, nb, S1, A1, X, le, lc, ld⟩ else none by rw [HM.out, HF0.out, Option.bind_some, HPM.out])
      have HPA := Lib.hid (show PlanAt W14.heap.size W14 ⟨os, na, nb, S1, A1, X, le, lc, ld⟩ ⟨.slice xa os.length xc, .slice ua S1.length uc, .slice ae le.length me, .slice ac lc.length mc, .slice ad ld.length md⟩ from HC14.out.d.own.at hosl (by simp only; omega) (by simp only; omega) (by simp only; omega) HCC.out)
      have hcells := plan_cells HC14.out.d.plan
      obtain ⟨⟨k0, k1, k2, k3, k4⟩, ⟨k5, k6, k7, k8, k9, k10, k11, k12⟩, k13, k14, k15⟩ := hcells
      simp only at k0 k1 k2 k3 k4 k5 k6 k7 k8 k9 k10 k11 k12 k13 k14 k15
      have hrl : rest.length ≤ 1000000 := HC14.out.c.small
      clear HX HSL HCC HPM HF0 HM
      rcases hg : mGood ⟨os, na, nb, S1, A1, X, le, lc, ld⟩ with _ | _
      · have HG := Lib.hid hg
        have HR := Lib.hid (show mDecode bs = none by rw [HMD.out, if_neg (by rw [hg]; simp)])
        clear hg
        as_aux_lemma =>
          go_wp2_with (go_at_call 19; go_must (refine (planCheck_no ⟨os, na, nb, S1, A1, X, le, lc, ld⟩ ⟨.slice xa os.length xc, .slice ua S1.length uc, .slice ae le.length me, .slice ac lc.length mc, .slice ad ld.length md⟩ _ HPA.out (HE.out.below HC14.out.d.below) HG.out).mono ?_; unfold RetErr; rintro e w15 ⟨u, rfl, ⟨l, hu⟩, hb15⟩; obtain ⟨TT, xx, rfl⟩ := hu.form; clear hu; have hc15 := HC14.out.later hb15; obtain ⟨ao5, cc5, z1, z2, -, -⟩ := hc15.c.cell; have HC15 := Lib.hid hc15; clear hb15 hc15 k0 k1 k2 k3 k4 k5 k6 k7 k8 k9 k10 k11 k12 k13 k14 k15))
          rw [HR.out]
          exact dec_fail HC15.out.d HE.out hrl rfl rfl rfl
      · have HG := Lib.hid hg
        by_cases hr : rest = []
        · have HR := Lib.hid (show mDecode bs = some ⟨os, na, nb, S1, A1, X, le, lc, ld⟩ by rw [HMD.out, if_pos ⟨hg, hr⟩])
          have hr0 : rest.length = 0 := by rw [hr]; rfl
          have hr1 : ¬ (0 : Int) < rest.length := by omega
          clear hg hr hr0
          as_aux_lemma =>
            go_wp2_with (first | (go_at_call 19; go_must (refine (planCheck_yes ⟨os, na, nb, S1, A1, X, le, lc, ld⟩ ⟨.slice xa os.length xc, .slice ua S1.length uc, .slice ae le.length me, .slice ac lc.length mc, .slice ad ld.length md⟩ _ HPA.out (HE.out.below HC14.out.d.below) HG.out).mono ?_; unfold RetB; rintro e w15 ⟨rfl, hb15⟩; have hc15 := HC14.out.later hb15; obtain ⟨ao5, cc5, z1, z2, -, -⟩ := hc15.c.cell; have HC15 := Lib.hid hc15; clear hb15 hc15 k0 k1 k2 k3 k4 k5 k6 k7 k8 k9 k10 k11 k12 k13 k14 k15)) | ((with_reducible show wpList _ _ _ (⟨some 81, Op.load 30 _, _, _, _, _⟩ :: _) _ _); go_must (refine wpList_load_row rfl 30 _ rfl w.heap.size rfl _ (planArr ⟨os, na, nb, S1, A1, X, le, lc, ld⟩ ⟨.slice xa os.length xc, .slice ua S1.length uc, .slice ae le.length me, .slice ac lc.length mc, .slice ad ld.length md⟩) _ _ HC15.out.d.plan Tryz.underlying30 rfl info_plan16 ?_)) | ((with_reducible show wpList _ _ _ (⟨_, Op.store 30 _ _, _, _, _, _⟩ :: _) _ _); go_must (refine wpList_store_row rfl 30 _ _ rfl w.heap.size (planArr ⟨os, na, nb, S1, A1, X, le, lc, ld⟩ ⟨.slice xa os.length xc, .slice ua S1.length uc, .slice ae le.length me, .slice ac lc.length mc, .slice ad ld.length md⟩) rfl rfl 30 _ HC15.out.d.plan info_plan16 rfl (by simp [Value.oneCell', planArr]) ?_; have HLST := Lib.hid HC15.out.d.last; obtain ⟨-, z3, z4⟩ := HLST.out)))
            exact dec_done HLST.out.1 HR.out rfl rfl rfl
        · have HR := Lib.hid (show mDecode bs = none by rw [HMD.out, if_neg (by rintro ⟨_, h⟩; exact hr h)])
          have hr1 : (0 : Int) < rest.length := by
            rcases rest with _ | ⟨x, l⟩
            · exact absurd rfl hr
            · simp
          clear hg hr
          as_aux_lemma =>
            go_wp2_with (go_at_call 19; go_must (refine (planCheck_yes ⟨os, na, nb, S1, A1, X, le, lc, ld⟩ ⟨.slice xa os.length xc, .slice ua S1.length uc, .slice ae le.length me, .slice ac lc.length mc, .slice ad ld.length md⟩ _ HPA.out (HE.out.below HC14.out.d.below) HG.out).mono ?_; unfold RetB; rintro e w15 ⟨rfl, hb15⟩; have hc15 := HC14.out.later hb15; obtain ⟨ao5, cc5, z1, z2, -, -⟩ := hc15.c.cell; have HC15 := Lib.hid hc15; clear hb15 hc15 k0 k1 k2 k3 k4 k5 k6 k7 k8 k9 k10 k11 k12 k13 k14 k15))
            rw [HR.out]
            exact dec_fail HC15.out.d HE.out hrl rfl rfl rfl
end Go.Proofs.YtjbhgimhcjcpmaaGreatDoor
