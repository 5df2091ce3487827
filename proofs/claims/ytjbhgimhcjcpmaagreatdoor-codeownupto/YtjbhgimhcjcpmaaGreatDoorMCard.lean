/-
  CodeOwn returns true and leaves its argument as it was, at every plan whose parts are together of no more than the stated bulk; the condition is not used. The card ties the one listed package-level variable of the pruned copy.
-/
import Derived.Test.YtjbhgimhcjcpmaaGreatDoorCards
import Derived.Test.YtjbhgimhcjcpmaaGreatDoorTie
import Derived.Test.YtjbhgimhcjcpmaaGreatDoorMOwnSt
import Derived.Test.YtjbhgimhcjcpmaaGreatDoorMPlanOpen
import Derived.WalkKit
import Derived.ProofKit
import Derived.OpenShut
import Derived.LaidHandle
import Derived.Deep.DeepHandedRow
import Derived.Deep.DeepWitnessRowRef
set_option linter.unusedSimpArgs false
set_option linter.unusedVariables false
namespace Go.Proofs.YtjbhgimhcjcpmaaGreatDoor
open Go.ChangeShapes Go.WideShapes Go.RowKit

/-- What a law with one argument leaves that returned true and wrote below the old heap's end nothing. -/
theorem law_true {H : Type} {enc : TypeId × Value → H} {P : Program} {f : Func} {s : ChangeSpec} {t tb : TypeId} {W W' : World} {v : Value} {d : DataW H} {p before : List MemPlace}
    (hp : f.params = #[t]) (hr : f.resultTypes = #[tb]) (htb : P.underlying tb = some .bool) (hl : laidOutB P = true) (hrr : P.readableRec t = true) (hrow : t < P.types.size)
    (hsv : s.vars = []) (hfn : s.fn H [d] = { results := [.lit (.bool true)], args := [d] })
    (hW : DataW.Whole enc P f.params.toList s.vars false W [v] [d] [] before) (h0 : DataW.Trod enc P W 0 (fun _ => true) true t v d p) (hpb : before = p ++ []) (hb : Below W.heap.size W W') :
    s.post enc P f false true false false W #[v] (.bool true) W' := by
  have hlt : ∀ x ∈ before, x.block < W.heap.size := fun x hx => hW.lt x hx
  rw [List.append_nil] at hpb
  subst hpb
  have again : ∀ sp : Nat → Bool, (∀ x ∈ before, sp x.block = true) → DataW.TrodAll enc P W' 0 sp true f.params.toList [v] (s.fn H [d]).args (before ++ []) := fun sp hsp => by
    rw [hp, hfn]
    exact trodAll_cons_mk (WideElems.Trod_stays hl hrr hrow h0 (fun x hx => hb.same (hlt x hx)) hsp) trodAll_mk0
  have res : ∀ (b : Nat) (sp : Nat → Bool) (hd : Bool), DataW.TrodAll enc P W' b sp hd f.resultTypes.toList ((Value.bool true).resultList f.resultTypes.size) (s.fn H [d]).results [] := fun b sp hd => by
    rw [hr, hfn]
    exact trodAll_cons_mk (shut_bool htb _) trodAll_mk0
  have vars : ∀ sp : Nat → Bool, DataW.TrodVars enc P W' sp s.vars (s.fn H [d]).vars [] := fun sp => by
    rw [hsv, hfn]
    exact rfl
  refine ⟨[d], [], before, [], before ++ [], [], hW, res _ _ _, again _ (fun x hx => by simpa using hlt x hx), vars _, World.keptBut_mono (fun x hx => ⟨hx, .inr ?_⟩) (hb.frame (· ∈ before)), fun _ => ?_⟩
  · simpa using hx
  · obtain ⟨_, _, _, _, _, hz, hn⟩ := hW
    refine ⟨ok_one hr rfl (okWide_bool_mk htb _), _, _, ([] ++ (before ++ [])) ++ [], ⟨[] ++ (before ++ []), [], trodAll_append (again _ (fun _ _ => rfl)) (res _ _ _), vars _, rfl, ?_, ?_⟩, ?_⟩
    · intro b off hx
      have hin : MemPlace.cell b off ∈ before := by simpa using hx
      exact (hb.frozen (hlt _ hin)).trans (hz b off hin)
    · intro ha; cases ha
    · intro x hx _
      simpa using hx

theorem own_off_knob : ownKnob Tryz.prog.godebug = none := by kernel_rfl
theorem g_et : Tryz.prog.globalNamed "errors.errorType" = some 0 := by kernel_rfl
theorem g_rt : (Tryz.prog.cutTypes.find? (·.1 == "internal/reflectlite.rtype")).map (·.2) = some 187 := by kernel_rfl
theorem types_size : Tryz.prog.types.size = 261 := by kernel_rfl
theorem one_error : ((List.range 261).filter fun t => Tryz.prog.rowNamed t [101, 114, 114, 111, 114]) = [35] := by kernel_rfl
theorem laid_outB : laidOutB Tryz.prog = true := by kernel_rfl
theorem plan_rec : Tryz.prog.readableRec 30 = true := by kernel_rfl

/-- What the row's list gives. -/
theorem errT_of_laid {W : World} (h : laidMetH Tryz.prog Rows.codeOwnUptoRow.laid W) : ErrT W := by
  have h' : laidMet Tryz.prog [] W ∧ handlesMet Tryz.prog [("errors.errorType", Rows.laid_errors_errorType)] W := h
  obtain ⟨name, u, ty, e1, e2, e3, e4, e5⟩ := h'.2 _ (List.mem_singleton.2 rfl)
  have en : name = [101, 114, 114, 111, 114] := (Option.some.inj e1).symm
  subst en
  obtain rfl := Option.some.inj (g_rt.symm.trans e2)
  have hm : ty ∈ (List.range 261).filter fun t => Tryz.prog.rowNamed t [101, 114, 114, 111, 114] := List.mem_filter.2 ⟨List.mem_range.2 (by rw [← types_size]; exact e3), e4⟩
  rw [one_error] at hm
  obtain rfl := List.mem_singleton.1 hm
  have hh : typeHandle Tryz.prog 35 = .pointer (some ⟨1, 35, none⟩) := by kernel_rfl
  rw [hh] at e5
  have h6 := World.var?_cell g_et e5 0
  simp at h6
  exact h6

set_option maxRecDepth 100000 in
theorem own_contract (H : Type) (enc : TypeId × Value → H) (W : World) (base : Nat) (args : Array Value) (ds gs : List (DataW H)) (before : List MemPlace)
    (hval : ∀ (j : Nat) t v, Tryz.f3.params[j]? = some t → args[j]? = some v → Value.okWide Tryz.prog W .any base t v)
    (hW : DataW.Whole enc Tryz.prog Tryz.f3.params.toList Rows.codeOwnSpec.vars false W args.toList ds gs before) (hL : laidMetH Tryz.prog Rows.codeOwnUptoRow.laid W) :
    Calls Tryz.prog 3 args W fun e W' => ∃ v, e = .returned v ∧ Rows.codeOwnSpec.post enc Tryz.prog Tryz.f3 false true false false W args v W' := by
  have hW' := hW
  obtain ⟨p, q, hA0, hV, rfl, hfz, hnd⟩ := hW
  have hA : DataW.TrodAll enc Tryz.prog W 0 (fun _ => true) true Tryz.f3.params.toList args.toList ds p := hA0
  rw [Tryz.params3] at hA hval
  obtain ⟨v0, vs0, d0, ds0, p0, q0, hargs, rfl, rfl, h0, r0⟩ := trodAll_cons hA
  obtain ⟨rfl, rfl, rfl⟩ := trodAll_nil r0
  obtain rfl : args = #[v0] := by cases args; simp_all
  obtain ⟨rfl, rfl⟩ := trodVars_none hV
  obtain ⟨pl, u, rfl, hu⟩ := plan_open (hval 0 _ v0 rfl rfl) h0
  refine (codeOwn_walk pl u W hu (errT_of_laid hL)).mono fun e W' ⟨he, hb⟩ => ?_
  subst he
  rw [List.append_nil, List.append_nil] at hW'
  exact ⟨_, rfl, law_true (t := 30) (tb := 4) Tryz.params3 rfl Tryz.underlying4 laid_outB plan_rec (of_decide_eq_true (by kernel_rfl)) rfl rfl hW' h0 (List.append_nil _).symm hb⟩

/-- A plan of nothing. -/
def noPlan : Value := .agg (planArr ⟨[], 0, 0, [], 0, ⟨0, 0, 0, 0, 0, 0, 0, 0⟩, [], [], []⟩ ⟨.slice none 0 0, .slice none 0 0, .slice none 0 0, .slice none 0 0, .slice none 0 0⟩)
/-- A world for the witness. -/
noncomputable def laidWorld (os : Os) : World :=
  { World.holding Tryz.prog os ⟨#[], #[], []⟩ with heap := (World.holding Tryz.prog os ⟨#[], #[], []⟩).heap.modify 0 fun
      | .cells _ t frozen => .cells #[.iface 187 (.agg #[.pointer (some ⟨1, 35, none⟩)])] t frozen
      | o => o }
theorem laid_met (os : Os) : laidMetH Tryz.prog Rows.codeOwnUptoRow.laid ((laidWorld os).forCall (fun _ _ => 0) ⟨#[], #[noPlan], []⟩).memory :=
  laidMetH_of_parts (laidMet_nil _ _) (by kernel_rfl)
theorem plan_reads (os : Os) {H : Type} (enc : TypeId × Value → H) : ∃ ds places, DataW.whole enc Tryz.prog ((laidWorld os).forCall (fun _ _ => 0) ⟨#[], #[noPlan], []⟩).memory Tryz.f3.params.toList Rows.codeOwnSpec.vars false #[noPlan].toList 8 = some (ds, [], places) ∧
    ds = [.agg [.nil, .agg [.lit (.int .i64 0), .lit (.int .i64 0)], .nil, .lit (.int .i64 0), .agg [.lit (.int .i64 0), .lit (.int .i64 0), .lit (.int .i64 0), .agg [.lit (.int .i64 0), .lit (.int .i64 0)], .lit (.int .i64 0), .agg [.lit (.int .i64 0), .lit (.int .i64 0)]], .nil, .agg [.nil, .nil]]] :=
  ⟨_, [], by kernel_rfl, rfl⟩

set_option maxRecDepth 100000 in
theorem own_lifted (os : Os) (started : os.Started) (H : Type) (enc : TypeId × Value → H) (F : Stop.Interp) :
    ReturnsInHanded {} Tryz.checked os 3 .any ((Rows.OpenSpec.upto Rows.codeOwnSpec).preRow enc Tryz.prog Tryz.f3 Rows.codeOwnUptoRow.domain false Rows.codeOwnUptoRow.laid) (((Rows.OpenSpec.upto Rows.codeOwnSpec).at F).post enc Tryz.prog Tryz.f3 false true false false) := by
  obtain ⟨ds, places, hx, rfl⟩ := plan_reads os enc
  refine returnsInHanded_of_row (C := Tryz.checked) (s := Rows.OpenSpec.upto Rows.codeOwnSpec) own_off_knob started (by kernel_rfl) Tryz.func3
    (witness_row_at (enc := enc) (C := Tryz.checked) false (laidWorld os) #[noPlan] rfl (by kernel_rfl) (by kernel_rfl) (by kernel_rfl)
      (OpenSpec.preRow_of_cond 8 hx (by kernel_rfl) (fun k hk => by cases hk; kernel_rfl) (by kernel_rfl) (laid_met os))) ?_
  intro W base args ds gs before hval hW _ _ _ hL _ _
  exact own_contract H enc W base args ds gs before hval hW hL

theorem own_said : Rows.CodeOwnUptoSaid :=
  OpenClaim.holds_of_cond 3 Tryz.f3 rfl rfl rfl rfl rfl rfl rfl ⟨rfl, rfl, rfl, rfl, rfl⟩ rfl rfl rfl rfl rfl (by kernel_rfl) Tryz.func3 (by kernel_rfl)
    (of_decide_eq_true (by kernel_rfl)) (by unfold Func.isWrapper; first | (rw [if_pos (by decide +kernel)]; kernel_rfl) | (rw [if_neg (by decide +kernel)]; exact ⟨rfl, rfl⟩))
    (fun os started H enc _ F => by rw [OpenClaim.pre_eq_preRow]; exact own_lifted os started H enc F)

/-- No parameter wants a stand-in; the program's own looks are off. -/
theorem own_plain (f : FuncId) (fn : Func) (hf : Tryz.pinned.checked.prog.funcNamed "twain/twainlaw19.CodeOwn" = some f) (hfn : Tryz.pinned.checked.prog.funcs[f]? = some fn) :
    true = Tryz.pinned.checked.prog.looks [] ∧ ∀ (j : Nat) t, fn.params[j]? = some t → Tryz.pinned.checked.prog.wantsStandIn t = false := by
  obtain rfl : f = 3 := Option.some.inj ((show Tryz.prog.funcNamed "twain/twainlaw19.CodeOwn" = some 3 by kernel_rfl).symm.trans hf) |>.symm
  obtain rfl : fn = Tryz.f3 := (Option.some.inj (Tryz.func3.symm.trans hfn)).symm
  refine ⟨by kernel_rfl, fun j t ht => ?_⟩
  rw [Tryz.params3] at ht
  obtain rfl : t = 30 := by simpa using Array.mem_of_getElem? ht
  exact (show Tryz.prog.wantsStandIn 30 = false by kernel_rfl)

/-- THE CARD. -/
theorem codeOwn_holds : Rows.CodeOwnUptoCardSaid :=
  Claim7.holds_tied_plain_at .later [] _ _ _ _ own_said (fun _ h => by cases h) (by kernel_rfl) (fun _ h => by cases h) codeOwnUpto_row_tie rfl ⟨rfl, rfl⟩ (by kernel_rfl) rfl own_plain (by kernel_rfl)
end Go.Proofs.YtjbhgimhcjcpmaaGreatDoor
