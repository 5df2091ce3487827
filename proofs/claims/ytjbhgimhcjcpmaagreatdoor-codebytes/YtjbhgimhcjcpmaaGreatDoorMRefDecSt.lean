/-
  WORDS for twainref19.Decode: the answer's block, the plan's block; and what stands of the plan.
-/
import Derived.Test.YtjbhgimhcjcpmaaGreatDoorMRefTk
import Derived.Test.YtjbhgimhcjcpmaaGreatDoorMDecSt
import Derived.Test.YtjbhgimhcjcpmaaGreatDoorMRefSame1
import Derived.Test.YtjbhgimhcjcpmaaGreatDoorMRefGood
import Derived.Test.YtjbhgimhcjcpmaaGreatDoorMStepApp
import Derived.Deep.RegionLaw
set_option linter.unusedSimpArgs false
set_option linter.unusedVariables false
namespace Go.Proofs.YtjbhgimhcjcpmaaGreatDoor
open Go.RowKit

theorem info_planZ : (Tryz.prog.info? 30).map (·.size) = some zeroPlan.size := by rw [info_plan]; rfl
theorem info_planR {p : MPlan} {v : PVals} : (Tryz.prog.info? 30).map (·.size) = some (planArr p v).size := by rw [info_plan]; rfl
theorem zero_one : zeroPlan.all (·.oneCell') = true := by simp [zeroPlan, Value.oneCell']
theorem zeroPlan_eq : zeroPlan = planArr plan0 pv0 := rfl

/-- The call's own blocks: the answer (still of nothing), the plan. -/
structure DRz (w : World) (p : MPlan) (v : PVals) (W : World) : Prop where
  res : W.heap[w.heap.size]? = some (.cells zeroPlan 30 (0, 0))
  plan : W.heap[w.heap.size + 1]? = some (.cells (planArr p v) 30 (0, 0))
  below : Below w.heap.size w W
theorem DRz.later {w : World} {p : MPlan} {v : PVals} {W W' : World} (h : DRz w p v W) (hb : Below W.heap.size W W') : DRz w p v W' :=
  ⟨(hb.block _ (lt_of_block h.res)).trans h.res, (hb.block _ (lt_of_block h.plan)).trans h.plan, h.below.trans (hb.mono h.below.size)⟩
theorem DRz.put {w : World} {p p' : MPlan} {v v' : PVals} {W W' : World} (h : DRz w p v W) (hg : W.grownBy W' (some (w.heap.size + 1))) (hp : W'.heap[w.heap.size + 1]? = some (.cells (planArr p' v') 30 (0, 0))) : DRz w p' v' W' :=
  ⟨(hg.block _ (lt_of_block h.res) (by simp)).trans h.res, hp, h.below.grown hg h.below.size (fun k hk => by simp at hk; omega)⟩
theorem DRz.set1 {w : World} {p p' : MPlan} {v v' : PVals} {W : World} (h : DRz w p v W) (j : Nat) (x : Value) (ha : (planArr p v).setIfInBounds j x = planArr p' v') : DRz w p' v' (W.setCell ⟨w.heap.size + 1, j, none⟩ x) :=
  h.put (grown_set _ _ _ _) (by rw [heap_setCell h.plan, ha])
theorem DRz.free {w : World} {p : MPlan} {v : PVals} {W : World} (h : DRz w p v W) (j : Nat) : W.frozen? ⟨w.heap.size + 1, j, none⟩ = false := by simp [World.frozen?, h.plan]
/-- The answer is written once more: nothing. -/
theorem DRz.fail {w : World} {p : MPlan} {v : PVals} {W : World} (h : DRz w p v W) : (W.setRow w.heap.size zeroPlan).heap[w.heap.size]? = some (.cells zeroPlan 30 (0, 0)) ∧ Below w.heap.size w (W.setRow w.heap.size zeroPlan) :=
  ⟨setRow_heap _ _ _ _ _ _ h.res, h.below.grown (grown_setRow _ _ _) h.below.size (fun k hk => by simp at hk; omega)⟩
theorem DRz.start (w : World) : DRz w plan0 pv0 (((w.alloc (.cells zeroPlan 30)).alloc (.cells zeroPlan 30)).setRow (w.heap.size + 1) zeroPlan) := by
  have h := heap_alloc_new (w.alloc (.cells zeroPlan 30)) (.cells zeroPlan 30)
  rw [World.size_alloc] at h
  have h0 : ((w.alloc (.cells zeroPlan 30)).alloc (.cells zeroPlan 30)).heap[w.heap.size]? = some (.cells zeroPlan 30 (0, 0)) :=
    (((Below.refl _ _).alloc (Nat.le_refl _) _).block _ (by rw [World.size_alloc]; omega)).trans (heap_alloc_new w _)
  refine ⟨(setRow_other _ _ _ _ (by omega)).trans h0, setRow_heap _ _ _ _ _ _ h, ?_⟩
  have hb : Below w.heap.size w ((w.alloc (.cells zeroPlan 30)).alloc (.cells zeroPlan 30)) := ((Below.refl _ _).alloc (Nat.le_refl _) _).alloc (by rw [World.size_alloc]; omega) _
  exact hb.grown (grown_setRow _ _ _) hb.size (fun k hk => by simp at hk; omega)

/-- .. with what the plan owns. -/
structure DRt (w : World) (p : MPlan) (v : PVals) (W : World) : Prop where
  z : DRz w p v W
  own : PlanOwn w.heap.size W p v
theorem DRt.later {w : World} {p : MPlan} {v : PVals} {W W' : World} (h : DRt w p v W) (hb : Below W.heap.size W W') : DRt w p v W' :=
  ⟨h.z.later hb, h.own.kept (below_off hb) (Off.none _ _ _) (Off.none _ _ _) (Off.none _ _ _)⟩
theorem DRt.put {w : World} {p p' : MPlan} {v v' : PVals} {W W' : World} (h : DRt w p v W) (hg : W.grownBy W' (some (w.heap.size + 1))) (hp : W'.heap[w.heap.size + 1]? = some (.cells (planArr p' v') 30 (0, 0))) (ho : PlanOwn w.heap.size W p' v') : DRt w p' v' W' :=
  ⟨h.z.put hg hp, ho.kept hg (Off.block h.z.plan (by decide)) (Off.block h.z.plan (by decide)) (Off.block h.z.plan (by decide))⟩
theorem DRt.set1 {w : World} {p p' : MPlan} {v v' : PVals} {W : World} (h : DRt w p v W) (j : Nat) (x : Value) (ha : (planArr p v).setIfInBounds j x = planArr p' v') (ho : PlanOwn w.heap.size W p' v') : DRt w p' v' (W.setCell ⟨w.heap.size + 1, j, none⟩ x) :=
  h.put (grown_set _ _ _ _) (by rw [heap_setCell h.z.plan, ha]) ho
theorem DRt.set2 {w : World} {p p' : MPlan} {v v' : PVals} {W : World} (h : DRt w p v W) (i j : Nat) (x y : Value) (ha : ((planArr p v).setIfInBounds i x).setIfInBounds j y = planArr p' v') (ho : PlanOwn w.heap.size W p' v') : DRt w p' v' ((W.setCell ⟨w.heap.size + 1, i, none⟩ x).setCell ⟨w.heap.size + 1, j, none⟩ y) :=
  h.put ((grown_set W (w.heap.size + 1) i x).trans (grown_set _ _ _ _)) (by rw [heap_setCell (heap_setCell h.z.plan _), ha]) ho
/-- An operation more is appended to its list and stored. -/
theorem DRt.append {w : World} {p : MPlan} {v : PVals} {W W' : World} (h : DRt w p v W) (hg : W.grownBy W' v.ops.ownBlock) {o : MOp} {x : Value} (ho : W'.ownsRow w.heap.size 44 6 x (p.ops.length + 1) (ocells p.ops ++ o.arr.toList)) :
    DRt w ⟨p.ops ++ [o], p.e0, p.e1, p.slots, p.arena, p.need, p.shapes, p.in0, p.in1⟩ ⟨x, v.slots, v.shapes, v.in0, v.in1⟩ (W'.setCell ⟨w.heap.size + 1, 0, none⟩ x) ∧ W'.cell? ⟨w.heap.size + 1, 0, none⟩ = some v.ops ∧ W'.frozen? ⟨w.heap.size + 1, 0, none⟩ = false := by
  have hp : W'.heap[w.heap.size + 1]? = some (.cells (planArr p v) 30 (0, 0)) := (hg.block _ (lt_of_block h.z.plan) (Ne.symm (own_ne h.own.ops h.z.plan (by decide)))).trans h.z.plan
  have he : W'.heap[w.heap.size]? = some (.cells zeroPlan 30 (0, 0)) := (hg.block _ (lt_of_block h.z.res) (Ne.symm (own_ne h.own.ops h.z.res (by decide)))).trans h.z.res
  have hown : PlanOwn w.heap.size W' ⟨p.ops ++ [o], p.e0, p.e1, p.slots, p.arena, p.need, p.shapes, p.in0, p.in1⟩ ⟨x, v.slots, v.shapes, v.in0, v.in1⟩ :=
    ⟨by simpa [ocells, MOp.arr] using ho, own_off h.own.slots hg (Off.owned h.own.ops (by decide)), h.own.shapes.kept hg (Off.owned h.own.ops (by decide)) (Off.owned h.own.ops (by decide)), h.own.in0.kept hg (Off.owned h.own.ops (by decide)) (Off.owned h.own.ops (by decide)), h.own.in1.kept hg (Off.owned h.own.ops (by decide)) (Off.owned h.own.ops (by decide))⟩
  have hb : Below w.heap.size w W' := h.z.below.grown hg h.z.below.size fun k hk => (h.own.ops.lt k hk).1
  have hz : DRz w p v W' := ⟨he, hp, hb⟩
  refine ⟨⟨hz.set1 0 x rfl, ?_⟩, by simp [World.cell?, hp, planArr], by simp [World.frozen?, hp]⟩
  exact hown.kept (grown_set W' (w.heap.size + 1) 0 x) (Off.block hp (by decide)) (Off.block hp (by decide)) (Off.block hp (by decide))

/-- The five numbers of an operation, as far as they are read. -/
def five (pr : List Int) : Array Value := #[.int .i64 (pr.getD 0 0), .int .i64 (pr.getD 1 0), .int .i64 (pr.getD 2 0), .int .i64 (pr.getD 3 0), .int .i64 (pr.getD 4 0)]
theorem five_set (pr : List Int) (d : Int) (h : pr.length < 5) : (five pr).setIfInBounds pr.length (.int .i64 d) = five (pr ++ [d]) := by
  match pr, h with
  | [], _ => rfl
  | [_], _ => rfl
  | [_, _], _ => rfl
  | [_, _, _], _ => rfl
  | [_, _, _, _], _ => rfl
/-- Behind five numbers, the word. -/
theorem pOp_five (bs : List Nat) : pOp bs = (pNums 5 bs).bind fun x => if x.2.length < 8 then none else some (⟨x.1.getD 0 0, x.1.getD 1 0, x.1.getD 2 0, x.1.getD 3 0, wh8 (x.2.take 8), x.1.getD 4 0⟩, x.2.drop 8) := by
  unfold pOp
  simp only [pNums]
  rcases pNum bs with _ | ⟨n1, r1⟩
  · rfl
  simp only [Option.bind_some]
  rcases pNum r1 with _ | ⟨n2, r2⟩
  · rfl
  simp only [Option.bind_some]
  rcases pNum r2 with _ | ⟨n3, r3⟩
  · rfl
  simp only [Option.bind_some]
  rcases pNum r3 with _ | ⟨n4, r4⟩
  · rfl
  simp only [Option.bind_some]
  rcases pNum r4 with _ | ⟨n5, r5⟩
  · rfl
  rfl
/-- The block of the five numbers, behind what stood ahead of it. -/
structure Fv (W0 : World) (pr : List Int) (W : World) : Prop where
  box : W.heap[W0.heap.size]? = some (.cells (five pr) 83 (0, 0))
  below : Below W0.heap.size W0 W
theorem Fv.later {W0 W W' : World} {pr : List Int} (h : Fv W0 pr W) (hb : Below W.heap.size W W') : Fv W0 pr W' :=
  ⟨(hb.block _ (lt_of_block h.box)).trans h.box, h.below.trans (hb.mono h.below.size)⟩
theorem Fv.set {W0 W : World} {pr : List Int} (h : Fv W0 pr W) (d : Int) (j : Nat) (hj : pr.length = j) (hl : j < 5) : Fv W0 (pr ++ [d]) (W.setCell ⟨W0.heap.size, j, none⟩ (.int .i64 d)) := by
  subst hj
  exact ⟨by rw [heap_setCell h.box, five_set _ _ hl], h.below.setCell (p := ⟨W0.heap.size, pr.length, none⟩) (Nat.le_refl _) _⟩
theorem Fv.cell {W0 W : World} {pr : List Int} (h : Fv W0 pr W) (j : Nat) (hj : j < 5) : W.cell? ⟨W0.heap.size, j, none⟩ = some (.int .i64 (pr.getD j 0)) ∧ W.frozen? ⟨W0.heap.size, j, none⟩ = false := by
  refine ⟨?_, by simp [World.frozen?, h.box]⟩
  rw [cell_of_row W W0.heap.size j _ _ _ h.box]
  rcases (by omega : j = 0 ∨ j = 1 ∨ j = 2 ∨ j = 3 ∨ j = 4) with rfl | rfl | rfl | rfl | rfl <;> simp [five]
theorem five_cells {B : Nat} {W : World} {p1 p2 p3 p4 p5 : Int} (h : W.heap[B]? = some (.cells (five [p1, p2, p3, p4, p5]) 83 (0, 0))) :
    W.cell? ⟨B, 0, none⟩ = some (.int .i64 p1) ∧ W.cell? ⟨B, 1, none⟩ = some (.int .i64 p2) ∧ W.cell? ⟨B, 2, none⟩ = some (.int .i64 p3) ∧ W.cell? ⟨B, 3, none⟩ = some (.int .i64 p4) ∧ W.cell? ⟨B, 4, none⟩ = some (.int .i64 p5) := by
  refine ⟨?_, ?_, ?_, ?_, ?_⟩ <;> simp [World.cell?, h, five]
theorem Fv.grown {W0 W W' : World} {pr : List Int} {n : Nat} {v : Value} {xs : List Value} {b : Nat} (h : Fv W0 pr W) (ho : W.ownsRow b 44 6 v n xs) (hg : W.grownBy W' v.ownBlock) : W'.heap[W0.heap.size]? = some (.cells (five pr) 83 (0, 0)) :=
  (hg.block _ (lt_of_block h.box) (Ne.symm (own_ne ho h.box (by decide)))).trans h.box
theorem Fv.start (W0 : World) : Fv W0 [] (W0.alloc (.cells #[.int .i64 0, .int .i64 0, .int .i64 0, .int .i64 0, .int .i64 0] 83)) :=
  ⟨heap_alloc_new _ _, (Below.refl _ _).alloc (Nat.le_refl _) _⟩

/-- What comes back. -/
def RDecPost (w : World) (r : Option MPlan) (e : Ending) (w' : World) : Prop :=
  match r with
  | some C => ∃ v, e = .returned (.tuple #[.agg (planArr C v), .bool true]) ∧ PlanOwn w.heap.size w' C v ∧ Below w.heap.size w w'
  | none => e = .returned (.tuple #[.agg zeroPlan, .bool false]) ∧ Below w.heap.size w w'
theorem two_new (w : World) : ((w.alloc (.cells zeroPlan 30)).alloc (.cells zeroPlan 30)).heap[w.heap.size + 1]? = some (.cells zeroPlan 30 (0, 0)) := by
  have h := heap_alloc_new (w.alloc (.cells zeroPlan 30)) (.cells zeroPlan 30)
  rwa [World.size_alloc] at h
/-- The answer is the plan. -/
theorem DRt.done {w : World} {p : MPlan} {v : PVals} {W : World} (h : DRt w p v W) : (W.setRow w.heap.size (planArr p v)).heap[w.heap.size]? = some (.cells (planArr p v) 30 (0, 0)) ∧ PlanOwn w.heap.size (W.setRow w.heap.size (planArr p v)) p v ∧ Below w.heap.size w (W.setRow w.heap.size (planArr p v)) :=
  ⟨setRow_heap _ _ _ _ _ _ h.z.res, h.own.kept (grown_setRow _ _ _) (Off.block h.z.res (by decide)) (Off.block h.z.res (by decide)) (Off.block h.z.res (by decide)), h.z.below.grown (grown_setRow _ _ _) h.z.below.size (fun k hk => by simp at hk; omega)⟩
theorem planArr_one {B : Nat} {W : World} {p : MPlan} {u : PVals} (h : PlanOwn B W p u) : (planArr p u).all (·.oneCell') = true := by
  obtain ⟨_, _, e1, _⟩ := own_open h.ops
  obtain ⟨_, _, e2, _⟩ := own_open h.slots
  obtain ⟨_, _, e3⟩ := h.shapes.form
  obtain ⟨_, _, e4⟩ := h.in0.form
  obtain ⟨_, _, e5⟩ := h.in1.form
  simp [planArr, Value.oneCell', e1, e2, e3, e4, e5]

/-- The last looks: is it good, and is nothing left? -/
def RF (ops : List MOp) (e0 e1 : Int) (in0 in1 sh : List (List Int)) (rest : List Nat) : Option MPlan := if mGood (mkPlan ops e0 e1 in0 in1 sh) = true ∧ rest = [] then some (mkPlan ops e0 e1 in0 in1 sh) else none
theorem mDecode_r {bs : List Nat} (h : bs.take 4 = [84, 87, 78, 1]) : mDecode bs = (pNum (bs.drop 4)).bind fun a => (pNum a.2).bind fun b => (pShapes b.2).bind fun c => (pShapes c.2).bind fun d => (pShapes d.2).bind fun e => (pNum e.2).bind fun n => (pOps n.1 n.2).bind fun o => RF o.1 a.1 b.1 c.1 d.1 e.1 o.2 := by
  rw [mDecode, if_pos h, rPlan_eq, rPlan]
  simp only [rShapes_eq]
  rcases pNum (bs.drop 4) with _ | ⟨a, ra⟩
  · rfl
  simp only [Option.bind_some]
  rcases pNum ra with _ | ⟨b, rb⟩
  · rfl
  simp only [Option.bind_some]
  rcases pShapes rb with _ | ⟨c, rc⟩
  · rfl
  simp only [Option.bind_some]
  rcases pShapes rc with _ | ⟨d, rd⟩
  · rfl
  simp only [Option.bind_some]
  rcases pShapes rd with _ | ⟨e, re⟩
  · rfl
  simp only [Option.bind_some]
  rcases pNum re with _ | ⟨n, rn⟩
  · rfl
  simp only [Option.bind_some]
  rcases pOps n rn with _ | ⟨o, ro⟩
  · rfl
  rfl
theorem bind_none_of {α β : Type} {o : Option α} {f : α → Option β} (h : o = none) : o.bind f = none := by rw [h]; rfl
end Go.Proofs.YtjbhgimhcjcpmaaGreatDoor

/-
  THE CONTRACT of twainref19.Decode, of whatever bytes.
-/
namespace Go.Proofs.YtjbhgimhcjcpmaaGreatDoor
open Go.RowKit

set_option maxHeartbeats 8000000 in
set_option maxRecDepth 100000 in
theorem refDecode_any (bs : List Nat) (v : Value) (w : World) (hv : Arr w.heap.size w 1 v bs.length (bts bs)) (hl : bs.length ≤ 1000000) (hb : ∀ x ∈ bs, x < 256) :
    Calls Tryz.prog 11 #[v] w (RDecPost w (mDecode bs)) := by
  obtain ⟨ao, cc, rfl, hcc, hm, hx, hy⟩ := hv.open
  have HV := Lib.hid hv
  have HB := Lib.hid hb
  unfold maxLen at hm
  have HY := Lib.hid hy
  clear hv hb hx hy
  have HZ0 := Lib.hid (DRz.start w)
  obtain ⟨R, hR⟩ : ∃ R, mDecode bs = R := ⟨_, rfl⟩
  have HR := Lib.hid hR
  rw [hR]
  clear hR
  go_enter Tryz.func11, Tryz.ntmps11
  go_upto_region 2 with ((with_reducible show wpList _ _ _ (⟨_, Op.store 30 (.tmp 4) _, _, _, _, _⟩ :: _) _ _); go_must (refine wpList_store_row rfl 30 _ _ rfl (w.heap.size + 1) zeroPlan rfl rfl 30 zeroPlan (two_new w) info_planZ rfl zero_one ?_))
  have HZa := HZ0
  simp only [zeroPlan] at HZa ⊢
  generalize World.setRow _ _ _ = W0 at HZa ⊢
  have HZ1 := Lib.hid (show DRz w plan0 pv0 W0 from HZa.out)
  clear HZ0 HZa
  by_cases h4 : bs.length < 4
  · have HN := Lib.hid (show R = none by
      rw [← HR.out, mDecode, if_neg]
      intro h; have := congrArg List.length h; rw [List.length_take] at this; simp at this; omega)
    have hd4 : decide ((bs.length : Int) < 4) = true := by simp; omega
    obtain rfl : R = none := HN.out
    as_aux_lemma =>
      go_wp2_with (first | ((with_reducible show wpList _ _ _ (⟨some 22, Op.load 30 _, _, _, _, _⟩ :: _) _ _); go_must (refine wpList_load_row rfl 30 _ rfl (w.heap.size + 1) rfl _ zeroPlan _ _ HZ1.out.plan Tryz.underlying30 rfl info_planZ ?_)) | ((with_reducible show wpList _ _ _ (⟨_, Op.store 30 (.tmp 2) _, _, _, _, _⟩ :: _) _ _); go_must (refine wpList_store_row rfl 30 _ _ rfl w.heap.size zeroPlan rfl rfl 30 zeroPlan HZ1.out.res info_planZ rfl zero_one ?_)))
      exact bodyPost_ret (results_cell_tmp rfl _ _ w.heap.size 30 _ _ _ rfl HZ1.out.fail.1 Tryz.underlying30 rfl info_planZ) rfl ⟨rfl, HZ1.out.fail.2⟩
  have hd4 : decide ((bs.length : Int) < 4) = false := by simp; omega
  obtain ⟨b, off, rfl, hbl, _⟩ := HY.out (by omega)
  have hcv : (convert 33 9 (.slice (some ⟨b, off, none⟩) 4 cc)).run Tryz.prog W0 = .ok (.string (strB (bs.take 4))) W0 :=
    conv_arr (by have h := (HV.out.later HZ1.out.below HZ1.out.below.size).front 4 (by omega); rwa [show (bs.take 4).length = 4 by rw [List.length_take]; omega] at h) (by rw [List.length_take]; omega)
  by_cases hh : bs.take 4 = [84, 87, 78, 1]
  rotate_left
  · obtain rfl : R = none := by rw [← HR.out, mDecode, if_neg hh]
    have hse : ((strB (bs.take 4)).toList == ([84, 87, 78, 1] : List UInt8)) = false := by
      have h := strB_ne (a := strB (bs.take 4)) (b := ⟨#[84, 87, 78, 1]⟩) fun h => hh (strB_inj (fun x hx => HB.out x (List.mem_of_mem_take hx)) (by decide) h)
      rwa [show (ByteArray.mk #[84, 87, 78, 1]).toList = [84, 87, 78, 1] by rw [ByteArray.toList_eq]] at h
    generalize strB (bs.take 4) = sv at hcv hse
    clear hh
    as_aux_lemma =>
      go_wp2_with (first | ((with_reducible show wpList _ _ _ (⟨some 22, Op.load 30 _, _, _, _, _⟩ :: _) _ _); go_must (refine wpList_load_row rfl 30 _ rfl (w.heap.size + 1) rfl _ zeroPlan _ _ HZ1.out.plan Tryz.underlying30 rfl info_planZ ?_)) | ((with_reducible show wpList _ _ _ (⟨_, Op.store 30 (.tmp 2) _, _, _, _, _⟩ :: _) _ _); go_must (refine wpList_store_row rfl 30 _ _ rfl w.heap.size zeroPlan rfl rfl 30 zeroPlan HZ1.out.res info_planZ rfl zero_one ?_)))
      exact bodyPost_ret (results_cell_tmp rfl _ _ w.heap.size 30 _ _ _ rfl HZ1.out.fail.1 Tryz.underlying30 rfl info_planZ) rfl ⟨rfl, HZ1.out.fail.2⟩
  have HQ0 := Lib.hid (HR.out.symm.trans (mDecode_r hh))
  rw [hh] at hcv
  have hcv2 : (convert 33 9 (.slice (some ⟨b, off, none⟩) 4 cc)).run Tryz.prog W0 = .ok (.string ⟨#[84, 87, 78, 1]⟩) W0 := hcv
  clear hcv hh
  go_upto_region 4 with fail
  go_cut [0] from 22 (fun s0 wx => W0 = wx ∧ ∃ ao c, s0 = .slice ao (bs.drop 4).length c ∧ Hid (Arr w.heap.size w 1 (.slice ao (bs.drop 4).length c) (bs.drop 4).length (bts (bs.drop 4))))
  case first =>
    have hdl : (bs.drop 4).length = bs.length - 4 := List.length_drop ..
    have HDL := Lib.hid hdl
    go_wp2_with fail
    all_goals
      (first | (rename cc = 4 => h44; subst h44) | skip)
      go_meet
      rw [HDL.out]
      refine ⟨rfl, _, _, rfl, ?_⟩
      have hd := fun (a : Addr) (c' : Nat) h1 h2 => Arr.drop HV.out 4 (by omega) a c' h1 h2
      simp only [List.length_drop] at hd
      exact hd _ _ (by omega) (by first | exact .inl rfl | (right; omega))
  case rest =>
  obtain ⟨rfl, a0, c0, rfl, HA0⟩ := hcut
  have HS0 := Lib.hid (show DRt w plan0 pv0 W0 from ⟨HZ1.out, PlanOwn.zero _ _⟩)
  have hr0 : (bs.drop 4).length ≤ 1000000 := by rw [List.length_drop]; omega
  have H80 := Lib.hid (show ∀ x ∈ bs.drop 4, x < 256 from fun x hx => HB.out x (List.mem_of_mem_drop hx))
  generalize bs.drop 4 = r at HA0 H80 HQ0 hr0
  clear HZ1 hcv2 hd4 h4 hcc hm HY HB HV HR hl hbl
  go_wp2_with fail
  refine wp_loop_rounds 3 ?_
  rw [rounds_succ]
  rcases hp : pNum r with _ | ⟨na, ra⟩
  · have HN := Lib.hid hp
    obtain rfl : R = none := by rw [HQ0.out, hp]; rfl
    clear hp
    as_aux_lemma =>
      go_wp2_with (go_at_call 35; go_must (refine (refTk_no w _ r _ HS0.out.z.below HA0.out H80.out HN.out).mono ?_; rintro e w1 ⟨ao1, c1, rfl, ha1, hb1⟩; have HZ1 := Lib.hid (HS0.out.z.later hb1); have k1 := (plan_cells HZ1.out.plan).1.2.1; have f1 := HZ1.out.free 1; (try simp only at k1); clear ha1 hb1))
      have HZ2 := Lib.hid (HZ1.out.set1 (p' := ⟨[], 0, 0, [], 0, need00, [], [], []⟩) (v' := ⟨.slice none 0 0, .slice none 0 0, .slice none 0 0, .slice none 0 0, .slice none 0 0⟩) 1 (.int .i64 0) rfl)
      clear HZ1 k1 f1
      generalize World.setCell w1 _ _ = Wz at HZ2 ⊢
      rw [rounds_succ]
      go_wp2_with fail
      refine wp_loop_rounds 1 ?_
      rw [rounds_succ]
      go_wp2_with fail
      refine wp_loop_rounds 1 ?_
      rw [rounds_succ]
      go_wp2_with ((with_reducible show wpList _ _ _ (⟨_, Op.store 30 (.tmp 2) _, _, _, _, _⟩ :: _) _ _); go_must (refine wpList_store_row rfl 30 _ _ rfl w.heap.size zeroPlan rfl rfl 30 zeroPlan HZ2.out.res info_planZ rfl zero_one ?_))
      exact bodyPost_ret (results_cell_tmp rfl _ _ w.heap.size 30 _ _ _ rfl HZ2.out.fail.1 Tryz.underlying30 rfl info_planZ) rfl ⟨rfl, HZ2.out.fail.2⟩
  have HN := Lib.hid hp
  have HQ1 := Lib.hid (show R = (pNum ra).bind fun b => (pShapes b.2).bind fun c => (pShapes c.2).bind fun d => (pShapes d.2).bind fun e => (pNum e.2).bind fun n => (pOps n.1 n.2).bind fun o => RF o.1 na b.1 c.1 d.1 e.1 o.2 by rw [HQ0.out, hp]; rfl)
  have hrl := (pNum_some hp).choose_spec.2.2.2.2.2
  have hn0 := (pNum_some hp).choose_spec.2.2.2.2.1
  have H81 := Lib.hid (pNum_rest8 hp H80.out)
  clear hp
  go_wp2_with (go_at_call 35; go_must (refine (refTk_yes w _ r ra na _ HS0.out.z.below HA0.out H80.out HN.out).mono ?_; rintro e w1 ⟨a1, c1, rfl, ha1, hb1⟩; have HT1 := Lib.hid (HS0.out.later hb1); have HA1 := Lib.hid ha1; have HZ1 := Lib.hid HT1.out.z; have k1 := (plan_cells HZ1.out.plan).1.2.1; have f1 := HZ1.out.free 1; (try simp only at k1); clear ha1 hb1))
  have hr1 : ra.length ≤ 1000000 := by omega
  have HS1 := Lib.hid (HT1.out.set1 (p' := ⟨[], na, 0, [], 0, need00, [], [], []⟩) (v' := ⟨.slice none 0 0, .slice none 0 0, .slice none 0 0, .slice none 0 0, .slice none 0 0⟩) 1 (.int .i64 na) rfl ⟨HT1.out.own.ops, HT1.out.own.slots, HT1.out.own.shapes, HT1.out.own.in0, HT1.out.own.in1⟩)
  clear HZ1 HT1 HS0 HA0 H80 HQ0 HN k1 f1 hrl
  generalize World.setCell w1 _ _ = W1 at HS1 ⊢
  rw [rounds_succ]
  rcases hp : pNum ra with _ | ⟨nb, rb⟩
  · have HN := Lib.hid hp
    obtain rfl : R = none := by rw [HQ1.out, hp]; rfl
    clear hp
    as_aux_lemma =>
      go_wp2_with (go_at_call 35; go_must (refine (refTk_no w _ ra _ HS1.out.z.below HA1.out H81.out HN.out).mono ?_; rintro e w1 ⟨ao1, c1, rfl, ha1, hb1⟩; have HZ1 := Lib.hid (HS1.out.z.later hb1); have k2 := (plan_cells HZ1.out.plan).1.2.2.1; have f2 := HZ1.out.free 2; (try simp only at k2); clear ha1 hb1))
      have HZ2 := Lib.hid (HZ1.out.set1 (p' := ⟨[], na, 0, [], 0, need00, [], [], []⟩) (v' := ⟨.slice none 0 0, .slice none 0 0, .slice none 0 0, .slice none 0 0, .slice none 0 0⟩) 2 (.int .i64 0) rfl)
      clear HZ1 k2 f2
      generalize World.setCell w1 _ _ = Wz at HZ2 ⊢
      rw [rounds_succ]
      go_wp2_with fail
      refine wp_loop_rounds 1 ?_
      rw [rounds_succ]
      go_wp2_with fail
      refine wp_loop_rounds 1 ?_
      rw [rounds_succ]
      go_wp2_with ((with_reducible show wpList _ _ _ (⟨_, Op.store 30 (.tmp 2) _, _, _, _, _⟩ :: _) _ _); go_must (refine wpList_store_row rfl 30 _ _ rfl w.heap.size zeroPlan rfl rfl 30 zeroPlan HZ2.out.res info_planZ rfl zero_one ?_))
      exact bodyPost_ret (results_cell_tmp rfl _ _ w.heap.size 30 _ _ _ rfl HZ2.out.fail.1 Tryz.underlying30 rfl info_planZ) rfl ⟨rfl, HZ2.out.fail.2⟩
  have HN := Lib.hid hp
  have HQ2 := Lib.hid (show R = (pShapes rb).bind fun c => (pShapes c.2).bind fun d => (pShapes d.2).bind fun e => (pNum e.2).bind fun n => (pOps n.1 n.2).bind fun o => RF o.1 na nb c.1 d.1 e.1 o.2 by rw [HQ1.out, hp]; rfl)
  have hrl := (pNum_some hp).choose_spec.2.2.2.2.2
  have hn1 := (pNum_some hp).choose_spec.2.2.2.2.1
  have H82 := Lib.hid (pNum_rest8 hp H81.out)
  clear hp
  go_wp2_with (go_at_call 35; go_must (refine (refTk_yes w _ ra rb nb _ HS1.out.z.below HA1.out H81.out HN.out).mono ?_; rintro e w1 ⟨a2, c2, rfl, ha1, hb1⟩; have HT1 := Lib.hid (HS1.out.later hb1); have HA2 := Lib.hid ha1; have HZ1 := Lib.hid HT1.out.z; have k2 := (plan_cells HZ1.out.plan).1.2.2.1; have f2 := HZ1.out.free 2; (try simp only at k2); clear ha1 hb1))
  have hr2 : rb.length ≤ 1000000 := by omega
  have HS2 := Lib.hid (HT1.out.set1 (p' := ⟨[], na, nb, [], 0, need00, [], [], []⟩) (v' := ⟨.slice none 0 0, .slice none 0 0, .slice none 0 0, .slice none 0 0, .slice none 0 0⟩) 2 (.int .i64 nb) rfl ⟨HT1.out.own.ops, HT1.out.own.slots, HT1.out.own.shapes, HT1.out.own.in0, HT1.out.own.in1⟩)
  clear HZ1 HT1 HS1 HA1 H81 HQ1 HN k2 f2 hrl
  generalize World.setCell w1 _ _ = W2 at HS2 ⊢
  rw [rounds_succ]
  go_wp2_with fail
  refine wp_loop_rounds 3 ?_
  rw [rounds_succ]
  rcases hp : pShapes rb with _ | ⟨lc, rc⟩
  · have HN := Lib.hid hp
    obtain rfl : R = none := by rw [HQ2.out, hp]; rfl
    clear hp
    as_aux_lemma =>
      go_wp2_with (go_at_call 36; go_must (refine (refList_any w _ rb _ HS2.out.z.below HA2.out H82.out hr2).mono ?_; unfold ListPost; rw [HN.out]; rintro e w1 ⟨hb1, xo1, xn1, xc1, ao1, m1, c1, rfl⟩; have HZ1 := Lib.hid (HS2.out.z.later hb1); have k14 := (plan_cells HZ1.out.plan).2.2.2.1; have f14 := HZ1.out.free 14; (try simp only at k14); clear hb1))
      have HZ2 := Lib.hid (HZ1.out.set1 (p' := ⟨[], na, nb, [], 0, need00, [], [], []⟩) (v' := ⟨.slice none 0 0, .slice none 0 0, .slice none 0 0, .slice xo1 xn1 xc1, .slice none 0 0⟩) 14 (.slice xo1 xn1 xc1) rfl)
      clear HZ1 k14 f14
      generalize World.setCell w1 _ _ = Wz at HZ2 ⊢
      rw [rounds_succ]
      go_wp2_with fail
      refine wp_loop_rounds 1 ?_
      rw [rounds_succ]
      go_wp2_with ((with_reducible show wpList _ _ _ (⟨_, Op.store 30 (.tmp 2) _, _, _, _, _⟩ :: _) _ _); go_must (refine wpList_store_row rfl 30 _ _ rfl w.heap.size zeroPlan rfl rfl 30 zeroPlan HZ2.out.res info_planZ rfl zero_one ?_))
      exact bodyPost_ret (results_cell_tmp rfl _ _ w.heap.size 30 _ _ _ rfl HZ2.out.fail.1 Tryz.underlying30 rfl info_planZ) rfl ⟨rfl, HZ2.out.fail.2⟩
  have HN := Lib.hid hp
  have HQ3 := Lib.hid (show R = (pShapes rc).bind fun d => (pShapes d.2).bind fun e => (pNum e.2).bind fun n => (pOps n.1 n.2).bind fun o => RF o.1 na nb lc d.1 e.1 o.2 by rw [HQ2.out, hp]; rfl)
  have hlc : lc.length ≤ 1000000 := Nat.le_trans (pShapes_len hp) hr2
  clear hp
  go_wp2_with (go_at_call 36; go_must (refine (refList_any w _ rb _ HS2.out.z.below HA2.out H82.out hr2).mono ?_; unfold ListPost; rw [HN.out]; rintro e w1 ⟨hb1, xc, mc, a3, c3, rfl, ho1, ha1, h81, hrl⟩; have HT1 := Lib.hid (HS2.out.later hb1); have HO1 := Lib.hid (OwnSh.base ho1 HS2.out.z.below.size); have HA3 := Lib.hid ha1; have H83 := Lib.hid h81; have HZ1 := Lib.hid HT1.out.z; have k14 := (plan_cells HZ1.out.plan).2.2.2.1; have f14 := HZ1.out.free 14; (try simp only at k14); clear hb1 ho1 ha1 h81))
  have hr3 : rc.length ≤ 1000000 := by omega
  have HS3 := Lib.hid (HT1.out.set1 (p' := ⟨[], na, nb, [], 0, need00, [], lc, []⟩) (v' := ⟨.slice none 0 0, .slice none 0 0, .slice none 0 0, .slice xc lc.length mc, .slice none 0 0⟩) 14 (.slice xc lc.length mc) rfl ⟨HT1.out.own.ops, HT1.out.own.slots, HT1.out.own.shapes, HO1.out, HT1.out.own.in1⟩)
  clear HZ1 HT1 HS2 HA2 H82 HQ2 HN k14 f14 hrl HO1
  generalize World.setCell w1 _ _ = W3 at HS3 ⊢
  rw [rounds_succ]
  rcases hp : pShapes rc with _ | ⟨ld, rd⟩
  · have HN := Lib.hid hp
    obtain rfl : R = none := by rw [HQ3.out, hp]; rfl
    clear hp
    as_aux_lemma =>
      go_wp2_with (go_at_call 36; go_must (refine (refList_any w _ rc _ HS3.out.z.below HA3.out H83.out hr3).mono ?_; unfold ListPost; rw [HN.out]; rintro e w1 ⟨hb1, xo1, xn1, xc1, ao1, m1, c1, rfl⟩; have HZ1 := Lib.hid (HS3.out.z.later hb1); have k15 := (plan_cells HZ1.out.plan).2.2.2.2; have f15 := HZ1.out.free 15; (try simp only at k15); clear hb1))
      have HZ2 := Lib.hid (HZ1.out.set1 (p' := ⟨[], na, nb, [], 0, need00, [], lc, []⟩) (v' := ⟨.slice none 0 0, .slice none 0 0, .slice none 0 0, .slice xc lc.length mc, .slice xo1 xn1 xc1⟩) 15 (.slice xo1 xn1 xc1) rfl)
      clear HZ1 k15 f15
      generalize World.setCell w1 _ _ = Wz at HZ2 ⊢
      rw [rounds_succ]
      go_wp2_with fail
      refine wp_loop_rounds 1 ?_
      rw [rounds_succ]
      go_wp2_with ((with_reducible show wpList _ _ _ (⟨_, Op.store 30 (.tmp 2) _, _, _, _, _⟩ :: _) _ _); go_must (refine wpList_store_row rfl 30 _ _ rfl w.heap.size zeroPlan rfl rfl 30 zeroPlan HZ2.out.res info_planZ rfl zero_one ?_))
      exact bodyPost_ret (results_cell_tmp rfl _ _ w.heap.size 30 _ _ _ rfl HZ2.out.fail.1 Tryz.underlying30 rfl info_planZ) rfl ⟨rfl, HZ2.out.fail.2⟩
  have HN := Lib.hid hp
  have HQ4 := Lib.hid (show R = (pShapes rd).bind fun e => (pNum e.2).bind fun n => (pOps n.1 n.2).bind fun o => RF o.1 na nb lc ld e.1 o.2 by rw [HQ3.out, hp]; rfl)
  have hld : ld.length ≤ 1000000 := Nat.le_trans (pShapes_len hp) hr3
  clear hp
  go_wp2_with (go_at_call 36; go_must (refine (refList_any w _ rc _ HS3.out.z.below HA3.out H83.out hr3).mono ?_; unfold ListPost; rw [HN.out]; rintro e w1 ⟨hb1, xd, md, a4, c4, rfl, ho1, ha1, h81, hrl⟩; have HT1 := Lib.hid (HS3.out.later hb1); have HO1 := Lib.hid (OwnSh.base ho1 HS3.out.z.below.size); have HA4 := Lib.hid ha1; have H84 := Lib.hid h81; have HZ1 := Lib.hid HT1.out.z; have k15 := (plan_cells HZ1.out.plan).2.2.2.2; have f15 := HZ1.out.free 15; (try simp only at k15); clear hb1 ho1 ha1 h81))
  have hr4 : rd.length ≤ 1000000 := by omega
  have HS4 := Lib.hid (HT1.out.set1 (p' := ⟨[], na, nb, [], 0, need00, [], lc, ld⟩) (v' := ⟨.slice none 0 0, .slice none 0 0, .slice none 0 0, .slice xc lc.length mc, .slice xd ld.length md⟩) 15 (.slice xd ld.length md) rfl ⟨HT1.out.own.ops, HT1.out.own.slots, HT1.out.own.shapes, HT1.out.own.in0, HO1.out⟩)
  clear HZ1 HT1 HS3 HA3 H83 HQ3 HN k15 f15 hrl HO1
  generalize World.setCell w1 _ _ = W4 at HS4 ⊢
  rw [rounds_succ]
  go_wp2_with fail
  rcases hp : pShapes rd with _ | ⟨le, re⟩
  · have HN := Lib.hid hp
    obtain rfl : R = none := by rw [HQ4.out, hp]; rfl
    clear hp
    as_aux_lemma =>
      go_wp2_with (go_at_call 36; go_must (refine (refList_any w _ rd _ HS4.out.z.below HA4.out H84.out hr4).mono ?_; unfold ListPost; rw [HN.out]; rintro e w1 ⟨hb1, xo1, xn1, xc1, ao1, m1, c1, rfl⟩; have HZ1 := Lib.hid (HS4.out.z.later hb1); have k13 := (plan_cells HZ1.out.plan).2.2.1; have f13 := HZ1.out.free 13; (try simp only at k13); clear hb1))
      have HZ2 := Lib.hid (HZ1.out.set1 (p' := ⟨[], na, nb, [], 0, need00, [], lc, ld⟩) (v' := ⟨.slice none 0 0, .slice none 0 0, .slice xo1 xn1 xc1, .slice xc lc.length mc, .slice xd ld.length md⟩) 13 (.slice xo1 xn1 xc1) rfl)
      clear HZ1 k13 f13
      generalize World.setCell w1 _ _ = Wz at HZ2 ⊢
      refine wp_loop_rounds 1 ?_
      rw [rounds_succ]
      go_wp2_with ((with_reducible show wpList _ _ _ (⟨_, Op.store 30 (.tmp 2) _, _, _, _, _⟩ :: _) _ _); go_must (refine wpList_store_row rfl 30 _ _ rfl w.heap.size zeroPlan rfl rfl 30 zeroPlan HZ2.out.res info_planZ rfl zero_one ?_))
      exact bodyPost_ret (results_cell_tmp rfl _ _ w.heap.size 30 _ _ _ rfl HZ2.out.fail.1 Tryz.underlying30 rfl info_planZ) rfl ⟨rfl, HZ2.out.fail.2⟩
  have HN := Lib.hid hp
  have HQ5 := Lib.hid (show R = (pNum re).bind fun n => (pOps n.1 n.2).bind fun o => RF o.1 na nb lc ld le o.2 by rw [HQ4.out, hp]; rfl)
  have hle : le.length ≤ 1000000 := Nat.le_trans (pShapes_len hp) hr4
  clear hp
  go_wp2_with (go_at_call 36; go_must (refine (refList_any w _ rd _ HS4.out.z.below HA4.out H84.out hr4).mono ?_; unfold ListPost; rw [HN.out]; rintro e w1 ⟨hb1, xe, me, a5, c5, rfl, ho1, ha1, h81, hrl⟩; have HT1 := Lib.hid (HS4.out.later hb1); have HO1 := Lib.hid (OwnSh.base ho1 HS4.out.z.below.size); have HA5 := Lib.hid ha1; have H85 := Lib.hid h81; have HZ1 := Lib.hid HT1.out.z; have k13 := (plan_cells HZ1.out.plan).2.2.1; have f13 := HZ1.out.free 13; (try simp only at k13); clear hb1 ho1 ha1 h81))
  have hr5 : re.length ≤ 1000000 := by omega
  have HS5 := Lib.hid (HT1.out.set1 (p' := ⟨[], na, nb, [], 0, need00, le, lc, ld⟩) (v' := ⟨.slice none 0 0, .slice none 0 0, .slice xe le.length me, .slice xc lc.length mc, .slice xd ld.length md⟩) 13 (.slice xe le.length me) rfl ⟨HT1.out.own.ops, HT1.out.own.slots, HO1.out, HT1.out.own.in0, HT1.out.own.in1⟩)
  clear HZ1 HT1 HS4 HA4 H84 HQ4 HN k13 f13 hrl HO1
  generalize World.setCell w1 _ _ = W5 at HS5 ⊢
  rcases hp : pNum re with _ | ⟨n, rn⟩
  · have HN := Lib.hid hp
    obtain rfl : R = none := by rw [HQ5.out, hp]; rfl
    clear hp
    as_aux_lemma =>
      go_wp2_with (go_at_call 35; go_must (refine (refTk_no w _ re _ HS5.out.z.below HA5.out H85.out HN.out).mono ?_; rintro e w1 ⟨ao1, c1, rfl, ha1, hb1⟩; have HZ1 := Lib.hid (HS5.out.z.later hb1); clear ha1 hb1))
      have HZ2 := HZ1
      refine wp_loop_rounds 1 ?_
      rw [rounds_succ]
      go_wp2_with ((with_reducible show wpList _ _ _ (⟨_, Op.store 30 (.tmp 2) _, _, _, _, _⟩ :: _) _ _); go_must (refine wpList_store_row rfl 30 _ _ rfl w.heap.size zeroPlan rfl rfl 30 zeroPlan HZ2.out.res info_planZ rfl zero_one ?_))
      exact bodyPost_ret (results_cell_tmp rfl _ _ w.heap.size 30 _ _ _ rfl HZ2.out.fail.1 Tryz.underlying30 rfl info_planZ) rfl ⟨rfl, HZ2.out.fail.2⟩
  have HN := Lib.hid hp
  have HQ6 := Lib.hid (show R = (pOps n rn).bind fun o => RF o.1 na nb lc ld le o.2 by rw [HQ5.out, hp]; rfl)
  have hrl := (pNum_some hp).choose_spec.2.2.2.2.2
  have hn5 := (pNum_some hp).choose_spec.2.2.2.2.1
  have H86 := Lib.hid (pNum_rest8 hp H85.out)
  clear hp
  go_wp2_with (go_at_call 35; go_must (refine (refTk_yes w _ re rn n _ HS5.out.z.below HA5.out H85.out HN.out).mono ?_; rintro e w1 ⟨a6, c6, rfl, ha1, hb1⟩; have HT1 := Lib.hid (HS5.out.later hb1); have HA6 := Lib.hid ha1; clear ha1 hb1))
  have hr6 : rn.length ≤ 1000000 := by omega
  have HS6 := HT1
  clear HT1 HS5 HA5 H85 HQ5 HN hrl
  go_loopg [0, 5, 9] n (fun g bv okv i wr => ∃ (k : Nat) (os : List MOp) (oa : Option Addr) (oc : Nat) (rest : List Nat) (ao : Option Addr) (c : Nat), k ≤ n ∧ g = n - k ∧ i = .int .i64 k ∧ okv = .bool true ∧ bv = .slice ao rest.length c ∧ Hid (os.length = k) ∧ Hid (pOps n rn = (pOps (n - k) rest).map fun y => (os ++ y.1, y.2)) ∧ Hid (∀ o ∈ os, o.c < 18446744073709551616) ∧ Hid (Arr w.heap.size w 1 bv rest.length (bts rest)) ∧ Hid (∀ x ∈ rest, x < 256) ∧ k + rest.length ≤ 1000000 ∧ Hid (DRt w ⟨os, na, nb, [], 0, need00, le, lc, ld⟩ ⟨.slice oa os.length oc, .slice none 0 0, .slice xe le.length me, .slice xc lc.length mc, .slice xd ld.length md⟩ wr))
  case atStart => exact ⟨0, [], none, 0, rn, a6, c6, Nat.zero_le _, rfl, rfl, rfl, rfl, rfl, (by unfold Hid; rcases pOps n rn with _ | y <;> simp), (fun o ho => by cases ho), HA6.out, H86.out, by omega, HS6.out⟩
  case round =>
    obtain ⟨k, os, oa, oc, rest, ao, c, hk, hgk, rfl, rfl, rfl, HL, HP, HCC, HA, H8, hkr, HS⟩ := hrel
    clear HS6 HA6 H86
    by_cases hkn : k < n
    · obtain ⟨q, hq⟩ : ∃ q, n - k = q + 1 := ⟨n - k - 1, by omega⟩
      have HQ := Lib.hid hq
      clear hq
      obtain ⟨wo, rfl⟩ : ∃ wo : World, wo = wr := ⟨_, rfl⟩
      go_upto_region 23 with fail
      have HF0 := Lib.hid (Fv.start wo)
      go_wp2_with fail
      go_loopg [0, 5, 11] 5 (fun g bv okv i wq => ∃ j : Nat, j ≤ 5 ∧ g = 5 - j ∧ i = .int .i64 j ∧
        ((∃ (pr : List Int) (rest2 : List Nat) (ao : Option Addr) (c : Nat), okv = .bool true ∧ bv = .slice ao rest2.length c ∧ Hid (pNums 5 rest = (pNums (5 - j) rest2).map fun y => (pr ++ y.1, y.2)) ∧ Hid (pr.length = j) ∧ Hid (Fv wo pr wq) ∧ Hid (Arr w.heap.size w 1 bv rest2.length (bts rest2)) ∧ Hid (∀ x ∈ rest2, x < 256) ∧ rest2.length ≤ rest.length) ∨
         (∃ (ao : Option Addr) (m c : Nat) (pr : List Int), okv = .bool false ∧ bv = .slice ao m c ∧ Hid (pNums 5 rest = none) ∧ Hid (Fv wo pr wq))))
      case atStart => exact ⟨0, by decide, rfl, rfl, .inl ⟨[], rest, ao, c, rfl, rfl, (by unfold Hid; rcases pNums 5 rest with _ | y <;> simp), rfl, HF0.out, HA.out, H8.out, Nat.le_refl _⟩⟩
      case round =>
        obtain ⟨j, hj, hg2, rfl, hcase⟩ := hrel
        rcases hcase with ⟨pr, rest2, ao3, c3, rfl, rfl, HP2, HL2, HF, HA2, H82, hr2⟩ | ⟨ao3, m3, c3, pr, rfl, rfl, HPn, HF⟩
        rotate_left
        · obtain rfl : R = none := by
            have h1 := HP.out
            rw [HQ.out] at h1
            rw [HQ6.out, pOps_none h1 (by rw [pOp_five, HPn.out]; rfl)]; rfl
          have HZ := Lib.hid (HS.out.z.later HF.out.below)
          by_cases hj5 : j < 5
          all_goals
            as_aux_lemma =>
              go_wp2_with ((with_reducible show wpList _ _ _ (⟨_, Op.store 30 (.tmp 2) _, _, _, _, _⟩ :: _) _ _); go_must (refine wpList_store_row rfl 30 _ _ rfl w.heap.size zeroPlan rfl rfl 30 zeroPlan HZ.out.res info_planZ rfl zero_one ?_))
              exact bodyPost_ret (results_cell_tmp rfl _ _ w.heap.size 30 _ _ _ rfl HZ.out.fail.1 Tryz.underlying30 rfl info_planZ) rfl ⟨rfl, HZ.out.fail.2⟩
        have HZ := Lib.hid (HS.out.z.later HF.out.below)
        by_cases hj5 : j < 5
        · obtain ⟨q2, hq2⟩ : ∃ q2, 5 - j = q2 + 1 := ⟨5 - j - 1, by omega⟩
          have HQ2 := Lib.hid hq2
          clear hq2
          have j0 : (0 : Int) ≤ (j : Int) := by omega
          have j1 : (j : Int) < 5 := by omega
          rcases hp3 : pNum rest2 with _ | ⟨d, r2⟩
          · have HN3 := Lib.hid hp3
            have HPn := Lib.hid (show pNums 5 rest = none by
              have h2 := HP2.out
              rw [HQ2.out] at h2
              exact pNums_none h2 hp3)
            clear hp3
            go_wp2_with (go_at_call 35; go_must (refine (refTk_no w _ rest2 _ HZ.out.below HA2.out H82.out HN3.out).mono ?_; rintro e w3 ⟨ao4, c4, rfl, ha4, hb4⟩; have HF3 := Lib.hid (HF.out.later hb4); obtain ⟨kf, ff⟩ := HF3.out.cell j hj5; clear ha4 hb4))
            go_roundg (5 - (j + 1))
            case measure => omega
            case rel => exact ⟨j + 1, by omega, rfl, by go_num, .inr ⟨_, _, _, _, rfl, rfl, HPn.out, HF3.out.set 0 j HL2.out hj5⟩⟩
          · have HN3 := Lib.hid hp3
            have hr2l := (pNum_some hp3).choose_spec.2.2.2.2.2
            have H83 := Lib.hid (pNum_rest8 hp3 H82.out)
            have HP3 := Lib.hid (show pNums 5 rest = (pNums (5 - (j + 1)) r2).map fun y => (pr ++ [(d : Int)] ++ y.1, y.2) by
              have h2 := HP2.out
              rw [HQ2.out] at h2
              have := pNums_some h2 hp3
              rw [show 5 - (j + 1) = q2 by have := HQ2.out; omega]; exact this)
            clear hp3
            go_wp2_with (go_at_call 35; go_must (refine (refTk_yes w _ rest2 r2 d _ HZ.out.below HA2.out H82.out HN3.out).mono ?_; rintro e w3 ⟨ao4, c4, rfl, ha4, hb4⟩; have HF3 := Lib.hid (HF.out.later hb4); have HA4 := Lib.hid ha4; obtain ⟨kf, ff⟩ := HF3.out.cell j hj5; clear ha4 hb4))
            go_roundg (5 - (j + 1))
            case measure => omega
            case rel => exact ⟨j + 1, by omega, rfl, by go_num, .inl ⟨pr ++ [(d : Int)], r2, _, _, rfl, rfl, HP3.out, (by unfold Hid; simp [HL2.out]), HF3.out.set d j HL2.out hj5, HA4.out, H83.out, by omega⟩⟩
        obtain rfl : j = 5 := by omega
        have HP5 := Lib.hid (show pNums 5 rest = some (pr, rest2) by
          have h2 := HP2.out
          rw [Nat.sub_self] at h2
          rw [h2]; simp [pNums])
        clear HP2 hj5
        by_cases h8l : rest2.length < 8
        · obtain rfl : R = none := by
            have h1 := HP.out
            rw [HQ.out] at h1
            rw [HQ6.out, pOps_none h1 (by rw [pOp_five, HP5.out, Option.bind_some, if_pos h8l])]; rfl
          have h8d : decide ((rest2.length : Int) < 8) = true := decide_eq_true (by omega)
          as_aux_lemma =>
            go_wp2_with ((with_reducible show wpList _ _ _ (⟨_, Op.store 30 (.tmp 2) _, _, _, _, _⟩ :: _) _ _); go_must (refine wpList_store_row rfl 30 _ _ rfl w.heap.size zeroPlan rfl rfl 30 zeroPlan HZ.out.res info_planZ rfl zero_one ?_))
            exact bodyPost_ret (results_cell_tmp rfl _ _ w.heap.size 30 _ _ _ rfl HZ.out.fail.1 Tryz.underlying30 rfl info_planZ) rfl ⟨rfl, HZ.out.fail.2⟩
        have h8d : decide ((rest2.length : Int) < 8) = false := decide_eq_false (by omega)
        obtain ⟨ao4, cc4, hv4, hcc4, hm4, _, hy4⟩ := HA2.out.open
        obtain ⟨rfl, rfl⟩ : ao3 = ao4 ∧ c3 = cc4 := by simpa using hv4
        obtain ⟨b3, off3, rfl, hbl3, _⟩ := hy4 (by omega)
        unfold maxLen at hm4
        clear hv4 hy4
        obtain ⟨p1, p2, p3, p4, p5, rfl⟩ : ∃ p1 p2 p3 p4 p5, pr = [p1, p2, p3, p4, p5] := by
          have h5 := HL2.out
          match pr, h5 with
          | [p1, p2, p3, p4, p5], _ => exact ⟨p1, p2, p3, p4, p5, rfl⟩
        obtain ⟨oo, hoo⟩ : ∃ oo : MOp, oo = ⟨p1, p2, p3, p4, wh8 (rest2.take 8), p5⟩ := ⟨_, rfl⟩
        have HO := Lib.hid (show pOp rest = some (oo, rest2.drop 8) by rw [pOp_five, HP5.out, Option.bind_some, if_neg h8l, hoo]; rfl)
        have hco := pOp_c HO.out H8.out
        have HPx := Lib.hid (show pOps n rn = (pOps (n - (k + 1)) (rest2.drop 8)).map fun y => (os ++ [oo] ++ y.1, y.2) by
          have h1 := HP.out
          rw [HQ.out] at h1
          rw [show n - (k + 1) = q by have := HQ.out; omega]; exact pOps_some h1 HO.out)
        have HCC2 := Lib.hid (show ∀ x ∈ os ++ [oo], x.c < 18446744073709551616 by
          intro x hx
          rcases List.mem_append.1 hx with hx | hx
          · exact HCC.out x hx
          · rw [List.mem_singleton.1 hx]; exact hco)
        have hosl : os.length ≤ 1000000 := by have := HL.out; omega
        have HSq := Lib.hid (HS.out.later HF.out.below)
        have q0 := (HF.out.cell 0 (by decide)).1
        have q1 := (HF.out.cell 1 (by decide)).1
        have q2 := (HF.out.cell 2 (by decide)).1
        have q3 := (HF.out.cell 3 (by decide)).1
        have q4 := (HF.out.cell 4 (by decide)).1
        have e0 := (plan_cells HZ.out.plan).1.1
        have fz := HZ.out.free 0
        simp only [List.getD_cons_zero, List.getD_cons_succ] at q0 q1 q2 q3 q4 e0
        have HW := Lib.hid (show Arr w.heap.size w 1 (.slice (some ⟨b3, off3, none⟩) 8 c3) (rest2.take 8).length (bts (rest2.take 8)) from HA2.out.front 8 (by omega))
        go_upto_region 29 with fail
        have HSd := Lib.hid (HSq.out.later (Below.refl _ _).drew)
        have H8b := Lib.hid (show ∀ x ∈ rest2.take 8, x < 256 from fun x hx => H82.out x (List.mem_of_mem_take hx))
        have H8l := Lib.hid (show (rest2.take 8).length = 8 by rw [List.length_take]; omega)
        have hsq := HSq.out.z.below.size
        have i8 : (8 : Int) ≤ (c3 : Int) := by omega
        have i8n : 8 ≤ c3 := by omega
        have i8t : ((8 : Int) ≤ (c3 : Int)) = True := eq_true i8
        have i8m : (8 ≤ c3) = True := eq_true i8n
        have HW8 := HW
        obtain ⟨cw, hcw⟩ : ∃ cw, wh8 (rest2.take 8) = cw := ⟨_, rfl⟩
        rw [hcw] at hoo
        have HCW := Lib.hid hcw
        clear hcw
        go_cut [] from 103 to 121 (fun wx => ∃ (oc : Nat) (oa : Option Addr), Hid (DRt w ⟨(os ++ [oo]), na, nb, [], 0, need00, le, lc, ld⟩ ⟨.slice oa (os ++ [oo]).length oc, .slice none 0 0, .slice xe le.length me, .slice xc lc.length mc, .slice xd ld.length md⟩ wx))
        case first =>
          subst hoo
          have HFB := Lib.hid (HF.out.later (Below.refl _ _).drew)
          have fv1 := five_cells HFB.out.box
          have hwo : w.heap.size + 1 < wo.heap.size := lt_of_block HS.out.z.plan
          clear q0 q1 q2 q3 q4
          refine wp_region_noPanic ?_
          refine wp_region_held_drew (S := (fun W => W.cell? ⟨wo.heap.size, 0, none⟩ = some (.int .i64 p1) ∧ W.cell? ⟨wo.heap.size, 1, none⟩ = some (.int .i64 p2) ∧ W.cell? ⟨wo.heap.size, 2, none⟩ = some (.int .i64 p3) ∧ W.cell? ⟨wo.heap.size, 3, none⟩ = some (.int .i64 p4) ∧ W.cell? ⟨wo.heap.size, 4, none⟩ = some (.int .i64 p5))) (by kernel_rfl) fv1 (fun hHeld => ?_)
          refine wpAnyH_take (i := 0) (v := ?_) rfl (by kernel_rfl) (by kernel_rfl) (by kernel_rfl) (fun _ _ _ h => h) (Or.inl ⟨by rfl, ?_⟩) (by assumption) ?_
          rotate_left
          · (intro w hSw; (try dsimp only at hSw); go_simp; (try with_reducible rfl))
          simp only [Act.put, List.getElem_toArray, List.getElem_cons_succ, List.getElem_cons_zero, List.setIfInBounds_toArray, List.set_cons_zero, List.set_cons_succ]
          refine wpAnyH_take (i := 2) (v := ?_) rfl (by kernel_rfl) (by kernel_rfl) (by kernel_rfl) (fun _ _ _ h => h) (Or.inl ⟨by rfl, ?_⟩) (by assumption) ?_
          rotate_left
          · (intro w hSw; (try dsimp only at hSw); go_simp; (try with_reducible rfl))
          simp only [Act.put, List.getElem_toArray, List.getElem_cons_succ, List.getElem_cons_zero, List.setIfInBounds_toArray, List.set_cons_zero, List.set_cons_succ]
          refine wpAnyH_take (i := 3) (v := ?_) rfl (by kernel_rfl) (by kernel_rfl) (by kernel_rfl) (fun _ _ _ h => h) (Or.inl ⟨by rfl, ?_⟩) (by assumption) ?_
          rotate_left
          · (intro w hSw; (try dsimp only at hSw); go_simp; (try with_reducible rfl))
          simp only [Act.put, List.getElem_toArray, List.getElem_cons_succ, List.getElem_cons_zero, List.setIfInBounds_toArray, List.set_cons_zero, List.set_cons_succ]
          refine wpAnyH_take (i := 4) (v := ?_) rfl (by kernel_rfl) (by kernel_rfl) (by kernel_rfl) (fun _ _ _ h => h) (Or.inl ⟨by rfl, ?_⟩) (by assumption) ?_
          rotate_left
          · (intro w hSw; (try dsimp only at hSw); go_simp; (try with_reducible rfl))
          simp only [Act.put, List.getElem_toArray, List.getElem_cons_succ, List.getElem_cons_zero, List.setIfInBounds_toArray, List.set_cons_zero, List.set_cons_succ]
          refine wpAnyH_take (i := 5) (v := ?_) rfl (by kernel_rfl) (by kernel_rfl) (by kernel_rfl) (fun _ _ _ h => h) (Or.inl ⟨by rfl, ?_⟩) (by assumption) ?_
          rotate_left
          · (intro w hSw; (try dsimp only at hSw); go_simp; (try with_reducible rfl))
          simp only [Act.put, List.getElem_toArray, List.getElem_cons_succ, List.getElem_cons_zero, List.setIfInBounds_toArray, List.set_cons_zero, List.set_cons_succ]
          refine wpAnyH_take (i := 6) (v := ?_) rfl (by kernel_rfl) (by kernel_rfl) (by kernel_rfl) (fun _ _ _ h => h) (Or.inl ⟨by rfl, ?_⟩) (by assumption) ?_
          rotate_left
          · (intro w hSw; (try dsimp only at hSw); go_simp; (try with_reducible rfl))
          simp only [Act.put, List.getElem_toArray, List.getElem_cons_succ, List.getElem_cons_zero, List.setIfInBounds_toArray, List.set_cons_zero, List.set_cons_succ]
          refine wpAnyH_take (i := 7) (v := ?_) rfl (by kernel_rfl) (by kernel_rfl) (by kernel_rfl) (fun _ _ _ h => h) (Or.inl ⟨by rfl, ?_⟩) (by assumption) ?_
          rotate_left
          · (intro w hSw; (try dsimp only at hSw); go_simp; (try with_reducible rfl))
          simp only [Act.put, List.getElem_toArray, List.getElem_cons_succ, List.getElem_cons_zero, List.setIfInBounds_toArray, List.set_cons_zero, List.set_cons_succ]
          refine wpAnyH_take (i := 8) (v := ?_) rfl (by kernel_rfl) (by kernel_rfl) (by kernel_rfl) (fun _ _ _ h => h) (Or.inl ⟨by rfl, ?_⟩) (by assumption) ?_
          rotate_left
          · (intro w hSw; (try dsimp only at hSw); go_simp; (try with_reducible rfl))
          simp only [Act.put, List.getElem_toArray, List.getElem_cons_succ, List.getElem_cons_zero, List.setIfInBounds_toArray, List.set_cons_zero, List.set_cons_succ]
          refine wpAnyH_take (i := 9) (v := ?_) rfl (by kernel_rfl) (by kernel_rfl) (by kernel_rfl) (fun _ _ _ h => h) (Or.inl ⟨by rfl, ?_⟩) (by assumption) ?_
          rotate_left
          · (intro w hSw; (try dsimp only at hSw); go_simp; (try with_reducible rfl))
          simp only [Act.put, List.getElem_toArray, List.getElem_cons_succ, List.getElem_cons_zero, List.setIfInBounds_toArray, List.set_cons_zero, List.set_cons_succ]
          refine wpAnyH_take (i := 10) (v := ?_) rfl (by kernel_rfl) (by kernel_rfl) (by kernel_rfl) (fun _ _ _ h => h) (Or.inl ⟨by rfl, ?_⟩) (by assumption) ?_
          rotate_left
          · (intro w hSw; (try dsimp only at hSw); go_simp; (try with_reducible rfl))
          simp only [Act.put, List.getElem_toArray, List.getElem_cons_succ, List.getElem_cons_zero, List.setIfInBounds_toArray, List.set_cons_zero, List.set_cons_succ]
          refine wpAnyH_take (i := 11) (v := ?_) rfl (by kernel_rfl) (by kernel_rfl) (by kernel_rfl) (fun _ _ _ h => h) (Or.inl ⟨by rfl, ?_⟩) (by assumption) ?_
          rotate_left
          · (intro w hSw; (try dsimp only at hSw); go_simp; (try with_reducible rfl))
          simp only [Act.put, List.getElem_toArray, List.getElem_cons_succ, List.getElem_cons_zero, List.setIfInBounds_toArray, List.set_cons_zero, List.set_cons_succ]
          refine wpAnyH_take (i := 12) (v := ?_) rfl (by kernel_rfl) (by kernel_rfl) (by kernel_rfl) (fun _ _ _ h => h) (Or.inl ⟨by rfl, ?_⟩) (by assumption) ?_
          rotate_left
          · (intro w hSw; (try dsimp only at hSw); go_simp; (try with_reducible rfl))
          simp only [Act.put, List.getElem_toArray, List.getElem_cons_succ, List.getElem_cons_zero, List.setIfInBounds_toArray, List.set_cons_zero, List.set_cons_succ]
          refine wpAnyH_take (i := 13) (v := ?_) rfl (by kernel_rfl) (by kernel_rfl) (by kernel_rfl) (fun _ _ _ h => h) (Or.inl ⟨by rfl, ?_⟩) (by assumption) ?_
          rotate_left
          · (intro w hSw; (try dsimp only at hSw); go_simp; (try with_reducible rfl))
          simp only [Act.put, List.getElem_toArray, List.getElem_cons_succ, List.getElem_cons_zero, List.setIfInBounds_toArray, List.set_cons_zero, List.set_cons_succ]
          refine wpAnyH_ready (rs := [1, 14]) (by kernel_rfl) (by simp) ?_
          refine AllReadyH.cons rfl (fun K hK => ?_) (AllReadyH.cons rfl (fun K hK => ?_) AllReadyH.nil)
          · skip
            go_simp
            refine hK.out _ _ (by assumption) (fun hHeld => ?_)
            clear hK K
            (try simp only [Act.put, List.getElem_toArray, List.getElem_cons_succ, List.getElem_cons_zero, List.setIfInBounds_toArray, List.set_cons_zero, List.set_cons_succ])
            refine wpAnyH_ready (rs := [14]) (by kernel_rfl) (by simp) ?_
            refine AllReadyH.cons rfl (fun K hK => ?_) AllReadyH.nil
            (go_simp; go_at_call 37; refine (whole_any _ (rest2.take 8) _ (HW8.out.later HSd.out.z.below HSd.out.z.below.size) H8b.out H8l.out).mono ?_; rw [HCW.out]; rintro e w3 ⟨rfl, hw3⟩; have HS3 := HSd; rw [hw3] at HS3; have HF3 := HFB; rw [hw3] at HF3; have fv2 := five_cells HF3.out.box; have fv3 := fun o => five_cells (HF3.out.later ((Below.refl _ _).alloc (Nat.le_refl _) o)).box; have e03 := (plan_cells HS3.out.z.plan).1.1; have e0a := fun o => (plan_cells (HS3.out.z.later ((Below.refl _ _).alloc (Nat.le_refl _) o)).plan).1.1; simp only at e03 e0a; have hs3 := HS3.out.z.below.size; clear hw3; (try dsimp only))
            refine hK.out _ _ fv2 (fun hHeld => ?_)
            clear hK K
            (try simp only [Act.put, List.getElem_toArray, List.getElem_cons_succ, List.getElem_cons_zero, List.setIfInBounds_toArray, List.set_cons_zero, List.set_cons_succ])
            refine wpAnyH_take (i := 15) (v := ?_) rfl (by kernel_rfl) (by kernel_rfl) (by kernel_rfl) (fun _ _ _ h => h) (Or.inl ⟨by rfl, ?_⟩) (by assumption) ?_
            rotate_left
            · (intro w hSw; (try dsimp only at hSw); go_simp; (try with_reducible rfl))
            simp only [Act.put, List.getElem_toArray, List.getElem_cons_succ, List.getElem_cons_zero, List.setIfInBounds_toArray, List.set_cons_zero, List.set_cons_succ]
            refine wpAnyH_ready (rs := [16]) (by kernel_rfl) (by simp) ?_
            refine AllReadyH.cons rfl (fun K hK => ?_) AllReadyH.nil
            go_simp
            refine hK.out _ _ (fv3 _) (fun hHeld => ?_)
            clear hK K
            (try simp only [Act.put, List.getElem_toArray, List.getElem_cons_succ, List.getElem_cons_zero, List.setIfInBounds_toArray, List.set_cons_zero, List.set_cons_succ])
            refine wpAnyH_ready (rs := [17]) (by kernel_rfl) (by simp) ?_
            refine AllReadyH.cons rfl (fun K hK => ?_) AllReadyH.nil
            (refine step_app_k (by rfl) _ _ 22 (by rfl) 44 _ 6 48 Tryz.underlying22 info_opz rfl (by decide) (MOp.arr ⟨p1, p2, p3, p4, cw, p5⟩) os.length w.heap.size (.slice oa os.length oc) (ocells os) HS3.out.own.ops (by rfl) (by rfl) rfl (by simp [Value.oneCell', MOp.arr]) hs3 (by omega) (by unfold maxLen; omega) ?_; intro g cap w4 ho4 hg4; have HA4 := Lib.hid (HS3.out.append hg4 ho4); obtain ⟨_, k4, f4⟩ := HA4.out; simp only at k4; have fb4 := HF3.out.grown HS3.out.own.ops hg4; have fv4 := five_cells fb4; have fv5 := fun x => five_cells ((heap_setCell_other' (b := w.heap.size + 1) (j := 0) (by omega) x).trans fb4); clear ho4 hg4 fb4)
            refine hK.out _ _ fv4 (fun hHeld => ?_)
            clear hK K
            (try simp only [Act.put, List.getElem_toArray, List.getElem_cons_succ, List.getElem_cons_zero, List.setIfInBounds_toArray, List.set_cons_zero, List.set_cons_succ])
            refine wpAnyH_take (i := 18) (v := ?_) rfl (by kernel_rfl) (by kernel_rfl) (by kernel_rfl) (fun _ _ _ h => h) (Or.inl ⟨by rfl, ?_⟩) (by assumption) ?_
            rotate_left
            · (intro w hSw; (try dsimp only at hSw); go_simp; (try with_reducible rfl))
            simp only [Act.put, List.getElem_toArray, List.getElem_cons_succ, List.getElem_cons_zero, List.setIfInBounds_toArray, List.set_cons_zero, List.set_cons_succ]
            refine wpAnyH_ready (rs := [19]) (by kernel_rfl) (by simp) ?_
            refine AllReadyH.cons rfl (fun K hK => ?_) AllReadyH.nil
            go_simp
            refine hK.out _ _ (fv5 _) (fun hHeld => ?_)
            clear hK K
            (try simp only [Act.put, List.getElem_toArray, List.getElem_cons_succ, List.getElem_cons_zero, List.setIfInBounds_toArray, List.set_cons_zero, List.set_cons_succ])
            refine wpAnyH_done (by kernel_rfl) ?_ _
            refine NoPanic.normal ?_
            go_wp2_with fail
            go_meet
            exact ⟨cap, some ⟨g, 0, none⟩, by rw [List.length_append]; exact HA4.out.1⟩
          · skip
            (go_simp; go_at_call 37; refine (whole_any _ (rest2.take 8) _ (HW8.out.later HSd.out.z.below HSd.out.z.below.size) H8b.out H8l.out).mono ?_; rw [HCW.out]; rintro e w3 ⟨rfl, hw3⟩; have HS3 := HSd; rw [hw3] at HS3; have HF3 := HFB; rw [hw3] at HF3; have fv2 := five_cells HF3.out.box; have fv3 := fun o => five_cells (HF3.out.later ((Below.refl _ _).alloc (Nat.le_refl _) o)).box; have e03 := (plan_cells HS3.out.z.plan).1.1; have e0a := fun o => (plan_cells (HS3.out.z.later ((Below.refl _ _).alloc (Nat.le_refl _) o)).plan).1.1; simp only at e03 e0a; have hs3 := HS3.out.z.below.size; clear hw3; (try dsimp only))
            refine hK.out _ _ fv2 (fun hHeld => ?_)
            clear hK K
            (try simp only [Act.put, List.getElem_toArray, List.getElem_cons_succ, List.getElem_cons_zero, List.setIfInBounds_toArray, List.set_cons_zero, List.set_cons_succ])
            refine wpAnyH_take (i := 15) (v := ?_) rfl (by kernel_rfl) (by kernel_rfl) (by kernel_rfl) (fun _ _ _ h => h) (Or.inl ⟨by rfl, ?_⟩) (by assumption) ?_
            rotate_left
            · (intro w hSw; (try dsimp only at hSw); go_simp; (try with_reducible rfl))
            simp only [Act.put, List.getElem_toArray, List.getElem_cons_succ, List.getElem_cons_zero, List.setIfInBounds_toArray, List.set_cons_zero, List.set_cons_succ]
            refine wpAnyH_ready (rs := [1, 16]) (by kernel_rfl) (by simp) ?_
            refine AllReadyH.cons rfl (fun K hK => ?_) (AllReadyH.cons rfl (fun K hK => ?_) AllReadyH.nil)
            · skip
              go_simp
              refine hK.out _ _ (by assumption) (fun hHeld => ?_)
              clear hK K
              (try simp only [Act.put, List.getElem_toArray, List.getElem_cons_succ, List.getElem_cons_zero, List.setIfInBounds_toArray, List.set_cons_zero, List.set_cons_succ])
              refine wpAnyH_ready (rs := [16]) (by kernel_rfl) (by simp) ?_
              refine AllReadyH.cons rfl (fun K hK => ?_) AllReadyH.nil
              go_simp
              refine hK.out _ _ (fv3 _) (fun hHeld => ?_)
              clear hK K
              (try simp only [Act.put, List.getElem_toArray, List.getElem_cons_succ, List.getElem_cons_zero, List.setIfInBounds_toArray, List.set_cons_zero, List.set_cons_succ])
              refine wpAnyH_ready (rs := [17]) (by kernel_rfl) (by simp) ?_
              refine AllReadyH.cons rfl (fun K hK => ?_) AllReadyH.nil
              (refine step_app_k (by rfl) _ _ 22 (by rfl) 44 _ 6 48 Tryz.underlying22 info_opz rfl (by decide) (MOp.arr ⟨p1, p2, p3, p4, cw, p5⟩) os.length w.heap.size (.slice oa os.length oc) (ocells os) HS3.out.own.ops (by rfl) (by rfl) rfl (by simp [Value.oneCell', MOp.arr]) hs3 (by omega) (by unfold maxLen; omega) ?_; intro g cap w4 ho4 hg4; have HA4 := Lib.hid (HS3.out.append hg4 ho4); obtain ⟨_, k4, f4⟩ := HA4.out; simp only at k4; have fb4 := HF3.out.grown HS3.out.own.ops hg4; have fv4 := five_cells fb4; have fv5 := fun x => five_cells ((heap_setCell_other' (b := w.heap.size + 1) (j := 0) (by omega) x).trans fb4); clear ho4 hg4 fb4)
              refine hK.out _ _ fv4 (fun hHeld => ?_)
              clear hK K
              (try simp only [Act.put, List.getElem_toArray, List.getElem_cons_succ, List.getElem_cons_zero, List.setIfInBounds_toArray, List.set_cons_zero, List.set_cons_succ])
              refine wpAnyH_take (i := 18) (v := ?_) rfl (by kernel_rfl) (by kernel_rfl) (by kernel_rfl) (fun _ _ _ h => h) (Or.inl ⟨by rfl, ?_⟩) (by assumption) ?_
              rotate_left
              · (intro w hSw; (try dsimp only at hSw); go_simp; (try with_reducible rfl))
              simp only [Act.put, List.getElem_toArray, List.getElem_cons_succ, List.getElem_cons_zero, List.setIfInBounds_toArray, List.set_cons_zero, List.set_cons_succ]
              refine wpAnyH_ready (rs := [19]) (by kernel_rfl) (by simp) ?_
              refine AllReadyH.cons rfl (fun K hK => ?_) AllReadyH.nil
              go_simp
              refine hK.out _ _ (fv5 _) (fun hHeld => ?_)
              clear hK K
              (try simp only [Act.put, List.getElem_toArray, List.getElem_cons_succ, List.getElem_cons_zero, List.setIfInBounds_toArray, List.set_cons_zero, List.set_cons_succ])
              refine wpAnyH_done (by kernel_rfl) ?_ _
              refine NoPanic.normal ?_
              go_wp2_with fail
              go_meet
              exact ⟨cap, some ⟨g, 0, none⟩, by rw [List.length_append]; exact HA4.out.1⟩
            · skip
              go_simp
              refine hK.out _ _ (fv3 _) (fun hHeld => ?_)
              clear hK K
              (try simp only [Act.put, List.getElem_toArray, List.getElem_cons_succ, List.getElem_cons_zero, List.setIfInBounds_toArray, List.set_cons_zero, List.set_cons_succ])
              refine wpAnyH_ready (rs := [1]) (by kernel_rfl) (by simp) ?_
              refine AllReadyH.cons rfl (fun K hK => ?_) AllReadyH.nil
              go_simp
              refine hK.out _ _ (by assumption) (fun hHeld => ?_)
              clear hK K
              (try simp only [Act.put, List.getElem_toArray, List.getElem_cons_succ, List.getElem_cons_zero, List.setIfInBounds_toArray, List.set_cons_zero, List.set_cons_succ])
              refine wpAnyH_ready (rs := [17]) (by kernel_rfl) (by simp) ?_
              refine AllReadyH.cons rfl (fun K hK => ?_) AllReadyH.nil
              (refine step_app_k (by rfl) _ _ 22 (by rfl) 44 _ 6 48 Tryz.underlying22 info_opz rfl (by decide) (MOp.arr ⟨p1, p2, p3, p4, cw, p5⟩) os.length w.heap.size (.slice oa os.length oc) (ocells os) HS3.out.own.ops (by rfl) (by rfl) rfl (by simp [Value.oneCell', MOp.arr]) hs3 (by omega) (by unfold maxLen; omega) ?_; intro g cap w4 ho4 hg4; have HA4 := Lib.hid (HS3.out.append hg4 ho4); obtain ⟨_, k4, f4⟩ := HA4.out; simp only at k4; have fb4 := HF3.out.grown HS3.out.own.ops hg4; have fv4 := five_cells fb4; have fv5 := fun x => five_cells ((heap_setCell_other' (b := w.heap.size + 1) (j := 0) (by omega) x).trans fb4); clear ho4 hg4 fb4)
              refine hK.out _ _ fv4 (fun hHeld => ?_)
              clear hK K
              (try simp only [Act.put, List.getElem_toArray, List.getElem_cons_succ, List.getElem_cons_zero, List.setIfInBounds_toArray, List.set_cons_zero, List.set_cons_succ])
              refine wpAnyH_take (i := 18) (v := ?_) rfl (by kernel_rfl) (by kernel_rfl) (by kernel_rfl) (fun _ _ _ h => h) (Or.inl ⟨by rfl, ?_⟩) (by assumption) ?_
              rotate_left
              · (intro w hSw; (try dsimp only at hSw); go_simp; (try with_reducible rfl))
              simp only [Act.put, List.getElem_toArray, List.getElem_cons_succ, List.getElem_cons_zero, List.setIfInBounds_toArray, List.set_cons_zero, List.set_cons_succ]
              refine wpAnyH_ready (rs := [19]) (by kernel_rfl) (by simp) ?_
              refine AllReadyH.cons rfl (fun K hK => ?_) AllReadyH.nil
              go_simp
              refine hK.out _ _ (fv5 _) (fun hHeld => ?_)
              clear hK K
              (try simp only [Act.put, List.getElem_toArray, List.getElem_cons_succ, List.getElem_cons_zero, List.setIfInBounds_toArray, List.set_cons_zero, List.set_cons_succ])
              refine wpAnyH_done (by kernel_rfl) ?_ _
              refine NoPanic.normal ?_
              go_wp2_with fail
              go_meet
              exact ⟨cap, some ⟨g, 0, none⟩, by rw [List.length_append]; exact HA4.out.1⟩
        case rest =>
          obtain ⟨oc5, oa5, HS5⟩ := hcut
          go_wp2_with fail
          all_goals
            (first | (rename c3 = 8 => h88; subst h88) | skip)
            go_roundg (n - (k + 1))
            case measure => omega
            case rel =>
              refine ⟨k + 1, os ++ [oo], oa5, oc5, rest2.drop 8, _, _, by omega, rfl, by go_num, rfl, (by rw [List.length_drop]), (by unfold Hid; simp [HL.out]), HPx.out, HCC2.out, ?_, (fun x hx => H82.out x (List.mem_of_mem_drop hx)), (by rw [List.length_drop]; omega), HS5.out⟩
              exact Arr.drop HA2.out 8 (by omega) _ _ (by omega) (by first | exact .inl rfl | (right; omega))
    · obtain rfl : k = n := by omega
      have hosl : os.length ≤ 1000000 := by have := HL.out; omega
      have HF0 := Lib.hid (show R = RF os na nb lc ld le rest by
        have h1 := HP.out
        rw [Nat.sub_self] at h1
        rw [HQ6.out, h1]; simp [pOps])
      clear HP HQ6 HL hgk
      by_cases hrest : rest = []
      rotate_left
      · obtain rfl : R = none := by rw [HF0.out, RF, if_neg fun h => hrest h.2]
        have h0d : decide ((0 : Int) < (rest.length : Int)) = true := decide_eq_true (by have := List.length_pos_iff.2 hrest; omega)
        have h0n : decide (0 < rest.length) = true := decide_eq_true (List.length_pos_iff.2 hrest)
        have HZ := Lib.hid HS.out.z
        as_aux_lemma =>
          go_wp2_with ((with_reducible show wpList _ _ _ (⟨_, Op.store 30 (.tmp 2) _, _, _, _, _⟩ :: _) _ _); go_must (refine wpList_store_row rfl 30 _ _ rfl w.heap.size zeroPlan rfl rfl 30 zeroPlan HZ.out.res info_planZ rfl zero_one ?_))
          exact bodyPost_ret (results_cell_tmp rfl _ _ w.heap.size 30 _ _ _ rfl HZ.out.fail.1 Tryz.underlying30 rfl info_planZ) rfl ⟨rfl, HZ.out.fail.2⟩
      subst hrest
      obtain ⟨MC, hMC⟩ : ∃ MC, mCheck os na nb = MC := ⟨_, rfl⟩
      have HMD := Lib.hid (show rMade os na nb = MC by rw [rMade_eq, hMC])
      obtain ⟨SL, hSL⟩ : ∃ SL, mSlots os = SL := ⟨_, rfl⟩
      obtain ⟨S1, A1⟩ := SL
      have HSL := Lib.hid hSL
      obtain ⟨X, hX⟩ : ∃ X, mNeed os = X := ⟨_, rfl⟩
      have HX := Lib.hid hX
      have HPM := Lib.hid (show mkPlan os na nb lc ld le = ⟨os, na, nb, S1, A1, X, le, lc, ld⟩ by rw [mkPlan, hSL, hX])
      clear hSL hX
      obtain ⟨⟨c0, c1, c2, -, -⟩, -⟩ := plan_cells HS.out.z.plan
      simp only at c0 c1 c2
      simp only [List.length_nil] at HA ⊢
      cases MC with
      | false =>
        obtain rfl : R = none := by
          rw [HF0.out, RF, HPM.out, if_neg]
          rintro ⟨h, _⟩
          unfold mGood at h
          rw [hMC] at h
          simp at h
        clear hMC
        as_aux_lemma =>
          go_wp2_with (first | (go_at_call 38; go_must (refine (refMade_any _ os _ _ _ (Arr.of_owns HS.out.own.ops) hosl).mono ?_; unfold MadePost; rw [HMD.out]; rintro e w2 ⟨u2, rfl, hb2⟩; have HZ2 := Lib.hid (HS.out.z.later hb2); clear hb2)) | ((with_reducible show wpList _ _ _ (⟨_, Op.store 30 (.tmp 2) _, _, _, _, _⟩ :: _) _ _); go_must (refine wpList_store_row rfl 30 _ _ rfl w.heap.size zeroPlan rfl rfl 30 zeroPlan HZ2.out.res info_planZ rfl zero_one ?_)))
          exact bodyPost_ret (results_cell_tmp rfl _ _ w.heap.size 30 _ _ _ rfl HZ2.out.fail.1 Tryz.underlying30 rfl info_planZ) rfl ⟨rfl, HZ2.out.fail.2⟩
      | true =>
        have HCA := Lib.hid (mCheck_all _ _ _ hMC)
        clear hMC
        go_upto_region 36 with (go_at_call 38; go_must (refine (refMade_any _ os _ _ _ (Arr.of_owns HS.out.own.ops) hosl).mono ?_; unfold MadePost; rw [HMD.out]; rintro e w2 ⟨u2, rfl, hb2⟩; have HS2 := Lib.hid (HS.out.later hb2); clear hb2 c0 c1 c2))
        obtain ⟨⟨c0, -, -, -, -⟩, -⟩ := plan_cells HS2.out.z.plan
        simp only at c0
        go_upto_region 37 with (go_at_call 39; go_must (refine (refSlots_any _ os _ HCA.out (Arr.of_owns HS2.out.own.ops)).mono ?_; rintro e w6 ⟨u6, sl6, ar6, rfl, hrs6, hown6, hb6⟩; obtain ⟨hs1, hs2⟩ := slots_law HCA.out hrs6; rw [HSL.out] at hs1 hs2; simp only at hs1 hs2; subst hs1; subst hs2; obtain ⟨ua, uc, rfl, -⟩ := own_open hown6; have hc6 := HS2.out.later hb6; have HO6 := Lib.hid (owns_base hown6 HS2.out.z.below.size); obtain ⟨⟨-, -, -, k3, k4⟩, -⟩ := plan_cells hc6.z.plan; have f3 := hc6.z.free 3; have f4 := hc6.z.free 4; have HS6 := Lib.hid hc6; simp only at k3; clear hb6 hown6 hrs6 hc6 c0))
        have HS7 := Lib.hid (HS6.out.set2 (p' := ⟨os, na, nb, sl6, ar6, need00, le, lc, ld⟩) (v' := ⟨.slice oa os.length oc, .slice ua sl6.length uc, .slice xe le.length me, .slice xc lc.length mc, .slice xd ld.length md⟩) 3 4 (.slice ua sl6.length uc) (.int .i64 ar6) rfl ⟨HS6.out.own.ops, HO6.out, HS6.out.own.shapes, HS6.out.own.in0, HS6.out.own.in1⟩)
        clear HS6 HO6 k3 k4 f3 f4
        generalize World.setCell (World.setCell w6 _ _) _ _ = W7 at HS7 ⊢
        obtain ⟨⟨c0, -, -, -, -⟩, -⟩ := plan_cells HS7.out.z.plan
        simp only at c0
        go_upto_region 38 with (go_at_call 40; go_must (refine (refNeed_any _ os _ HCA.out (Arr.of_owns HS7.out.own.ops)).mono ?_; unfold RetB; rw [HX.out]; unfold MNeed.arr; rintro e w8 ⟨rfl, hb8⟩; have hc8 := HS7.out.later hb8; obtain ⟨-, ⟨k5, k6, k7, k8, k9, k10, k11, k12⟩, -⟩ := plan_cells hc8.z.plan; have f5 := hc8.z.free 5; have f6 := hc8.z.free 6; have f7 := hc8.z.free 7; have f8 := hc8.z.free 8; have f9 := hc8.z.free 9; have f10 := hc8.z.free 10; have f11 := hc8.z.free 11; have f12 := hc8.z.free 12; simp only at k5 k6 k7 k8 k9 k10 k11 k12; have HS8 := Lib.hid hc8; clear hb8 hc8 c0))
        have HS9 := Lib.hid (HS8.out.put (p' := ⟨os, na, nb, sl6, ar6, X, le, lc, ld⟩) (v' := ⟨.slice oa os.length oc, .slice ua sl6.length uc, .slice xe le.length me, .slice xc lc.length mc, .slice xd ld.length md⟩) (W' := ((((((((w8.setCell ⟨w.heap.size + 1, 5, none⟩ (.int .i64 X.tri)).setCell ⟨w.heap.size + 1, 6, none⟩ (.int .i64 X.bits)).setCell ⟨w.heap.size + 1, 7, none⟩ (.int .i64 X.ots)).setCell ⟨w.heap.size + 1, 8, none⟩ (.int .i64 X.t0)).setCell ⟨w.heap.size + 1, 9, none⟩ (.int .i64 X.t1)).setCell ⟨w.heap.size + 1, 10, none⟩ (.int .i64 X.rounds)).setCell ⟨w.heap.size + 1, 11, none⟩ (.int .i64 X.w0)).setCell ⟨w.heap.size + 1, 12, none⟩ (.int .i64 X.w1))) ((((((((grown_set _ _ _ _).trans (grown_set _ _ _ _)).trans (grown_set _ _ _ _)).trans (grown_set _ _ _ _)).trans (grown_set _ _ _ _)).trans (grown_set _ _ _ _)).trans (grown_set _ _ _ _)).trans (grown_set _ _ _ _)) (by rw [heap_setCell (heap_setCell (heap_setCell (heap_setCell (heap_setCell (heap_setCell (heap_setCell (heap_setCell HS8.out.z.plan _) _) _) _) _) _) _)]; rfl) ⟨HS8.out.own.ops, HS8.out.own.slots, HS8.out.own.shapes, HS8.out.own.in0, HS8.out.own.in1⟩)
        clear HS8 k5 k6 k7 k8 k9 k10 k11 k12 f5 f6 f7 f8 f9 f10 f11 f12
        generalize World.setCell (World.setCell (World.setCell (World.setCell (World.setCell (World.setCell (World.setCell (World.setCell w8 _ _) _ _) _ _) _ _) _ _) _ _) _ _) _ _ = W9 at HS9 ⊢
        have HPA := Lib.hid (show PlanAt W9.heap.size W9 ⟨os, na, nb, sl6, ar6, X, le, lc, ld⟩ ⟨.slice oa os.length oc, .slice ua sl6.length uc, .slice xe le.length me, .slice xc lc.length mc, .slice xd ld.length md⟩ from HS9.out.own.at hosl (by simp only; omega) (by simp only; omega) (by simp only; omega) HCC.out)
        have HZ9 := Lib.hid HS9.out.z
        have HGR := Lib.hid (show R = if mGood ⟨os, na, nb, sl6, ar6, X, le, lc, ld⟩ = true ∧ ([] : List Nat) = [] then some ⟨os, na, nb, sl6, ar6, X, le, lc, ld⟩ else none by rw [HF0.out, RF, HPM.out])
        cases hg : mGood ⟨os, na, nb, sl6, ar6, X, le, lc, ld⟩ with
        | false =>
          obtain rfl : R = none := by rw [HGR.out, hg]; simp
          have HG := Lib.hid hg
          clear hg
          as_aux_lemma =>
            go_wp2_with (first | ((with_reducible show wpList _ _ _ (⟨some 155, Op.load 30 _, _, _, _, _⟩ :: _) _ _); go_must (refine wpList_load_row rfl 30 _ rfl (w.heap.size + 1) rfl _ (planArr ⟨os, na, nb, sl6, ar6, X, le, lc, ld⟩ ⟨.slice oa os.length oc, .slice ua sl6.length uc, .slice xe le.length me, .slice xc lc.length mc, .slice xd ld.length md⟩) _ _ HZ9.out.plan Tryz.underlying30 rfl info_planR ?_)) | (go_at_call 15; go_must (refine (refGood_any ⟨os, na, nb, sl6, ar6, X, le, lc, ld⟩ ⟨.slice oa os.length oc, .slice ua sl6.length uc, .slice xe le.length me, .slice xc lc.length mc, .slice xd ld.length md⟩ _ HPA.out).mono ?_; unfold RetB; rw [HG.out]; rintro e w10 ⟨rfl, hb10⟩; have HZ10 := Lib.hid (HZ9.out.later hb10); clear hb10)) | ((with_reducible show wpList _ _ _ (⟨_, Op.store 30 (.tmp 2) _, _, _, _, _⟩ :: _) _ _); go_must (refine wpList_store_row rfl 30 _ _ rfl w.heap.size zeroPlan rfl rfl 30 zeroPlan HZ10.out.res info_planZ rfl zero_one ?_)))
            exact bodyPost_ret (results_cell_tmp rfl _ _ w.heap.size 30 _ _ _ rfl HZ10.out.fail.1 Tryz.underlying30 rfl info_planZ) rfl ⟨rfl, HZ10.out.fail.2⟩
        | true =>
          obtain rfl : R = some ⟨os, na, nb, sl6, ar6, X, le, lc, ld⟩ := by rw [HGR.out, hg]; simp
          have HG := Lib.hid hg
          clear hg
          as_aux_lemma =>
            go_wp2_with (first | ((with_reducible show wpList _ _ _ (⟨some 155, Op.load 30 _, _, _, _, _⟩ :: _) _ _); go_must (refine wpList_load_row rfl 30 _ rfl (w.heap.size + 1) rfl _ (planArr ⟨os, na, nb, sl6, ar6, X, le, lc, ld⟩ ⟨.slice oa os.length oc, .slice ua sl6.length uc, .slice xe le.length me, .slice xc lc.length mc, .slice xd ld.length md⟩) _ _ HZ9.out.plan Tryz.underlying30 rfl info_planR ?_)) | (go_at_call 15; go_must (refine (refGood_any ⟨os, na, nb, sl6, ar6, X, le, lc, ld⟩ ⟨.slice oa os.length oc, .slice ua sl6.length uc, .slice xe le.length me, .slice xc lc.length mc, .slice xd ld.length md⟩ _ HPA.out).mono ?_; unfold RetB; rw [HG.out]; rintro e w10 ⟨rfl, hb10⟩; have HS10 := Lib.hid (HS9.out.later hb10); clear hb10)) | ((with_reducible show wpList _ _ _ (⟨some 159, Op.load 30 _, _, _, _, _⟩ :: _) _ _); go_must (refine wpList_load_row rfl 30 _ rfl (w.heap.size + 1) rfl _ (planArr ⟨os, na, nb, sl6, ar6, X, le, lc, ld⟩ ⟨.slice oa os.length oc, .slice ua sl6.length uc, .slice xe le.length me, .slice xc lc.length mc, .slice xd ld.length md⟩) _ _ HS10.out.z.plan Tryz.underlying30 rfl info_planR ?_)) | ((with_reducible show wpList _ _ _ (⟨_, Op.store 30 (.tmp 2) _, _, _, _, _⟩ :: _) _ _); go_must (refine wpList_store_row rfl 30 _ _ rfl w.heap.size (planArr ⟨os, na, nb, sl6, ar6, X, le, lc, ld⟩ ⟨.slice oa os.length oc, .slice ua sl6.length uc, .slice xe le.length me, .slice xc lc.length mc, .slice xd ld.length md⟩) rfl rfl 30 zeroPlan HS10.out.z.res info_planR rfl (planArr_one HS10.out.own) ?_)))
            exact bodyPost_ret (results_cell_tmp rfl _ _ w.heap.size 30 _ _ _ rfl HS10.out.done.1 Tryz.underlying30 rfl info_planR) rfl ⟨_, rfl, HS10.out.done.2.1, HS10.out.done.2.2⟩
end Go.Proofs.YtjbhgimhcjcpmaaGreatDoor
