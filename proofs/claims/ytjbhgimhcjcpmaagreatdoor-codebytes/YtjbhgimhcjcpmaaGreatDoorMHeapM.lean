/-
  CLOSED FACTS: the methods of *free, as an interface value's call finds them.
-/
import Derived.Test.YtjbhgimhcjcpmaaGreatDoorMCircTop
import Derived.Test.YtjbhgimhcjcpmaaGreatDoorMNeed
import Derived.Deep.QuietTactic
import Derived.BigQuiet
import Derived.Deep.LoopGhost
import Derived.WalkLawsBesides
set_option linter.unusedSimpArgs false
set_option linter.unusedVariables false
namespace Go.Proofs.YtjbhgimhcjcpmaaGreatDoor
open Go.RowKit

theorem row_parts {o : Option TypeInfo} {g : TypeInfo → Option Method} {m : Method} (h : o.bind g = some m) : ∃ i, o = some i ∧ g i = some m := by
  cases o with
  | none => simp at h
  | some i => exact ⟨i, rfl, by simpa using h⟩

theorem row_Len : ((Tryz.prog.info? 108).bind (fun i => i.methods.find? (·.name == "Len"))).map (fun m => (m.path, m.func)) = some (#[], some (64, false)) := by kernel_rfl
theorem row_Less : ((Tryz.prog.info? 108).bind (fun i => i.methods.find? (·.name == "Less"))).map (fun m => (m.path, m.func)) = some (#[], some (157, false)) := by kernel_rfl
theorem row_Swap : ((Tryz.prog.info? 108).bind (fun i => i.methods.find? (·.name == "Swap"))).map (fun m => (m.path, m.func)) = some (#[], some (160, false)) := by kernel_rfl
theorem row_Push : ((Tryz.prog.info? 108).bind (fun i => i.methods.find? (·.name == "Push"))).map (fun m => (m.path, m.func)) = some (#[], some (159, true)) := by kernel_rfl
theorem row_Pop : ((Tryz.prog.info? 108).bind (fun i => i.methods.find? (·.name == "Pop"))).map (fun m => (m.path, m.func)) = some (#[], some (158, true)) := by kernel_rfl
theorem row_parts2 {name : String} {f : FuncId} {b : Bool} (h : ((Tryz.prog.info? 108).bind (fun i => i.methods.find? (·.name == name))).map (fun m => (m.path, m.func)) = some (#[], some (f, b))) :
    ∃ i m, Tryz.prog.info? 108 = some i ∧ i.methods.find? (·.name == name) = some m ∧ m.path = #[] ∧ m.func = some (f, b) := by
  obtain ⟨m, h1, h2⟩ := Option.map_eq_some_iff.1 h
  obtain ⟨i, h3, h4⟩ := row_parts h1
  simp only [Prod.mk.injEq] at h2
  exact ⟨i, m, h3, h4, h2.1, h2.2⟩
theorem wrapchk (xt : TypeId) (a : Addr) (s m : String) : Builtin.ssaWrapNilChk_ #[xt] xt #[.pointer (some a), strVal s, strVal m] = pure (.pointer (some a)) := rfl
theorem free_isAgg (w : World) : (isAgg 109).run Tryz.prog w = .ok false w := by kernel_rfl
/-- A method of the value, called on the pointer: the value is read. -/
theorem method_val {name : String} {f : FuncId} (h : ((Tryz.prog.info? 108).bind (fun i => i.methods.find? (·.name == name))).map (fun m => (m.path, m.func)) = some (#[], some (f, false))) (n : Nat) (a : Addr) (v : Value) (w : World) (hc : w.cell? a = some v) :
    (Go.method (n + 1) 108 (.pointer (some a)) name).run Tryz.prog w = .ok (f, v) w := by
  obtain ⟨i, m, h1, h2, h3, h4⟩ := row_parts2 h
  simp [Go.method, typeInfo, h1, h2, h3, h4, follow, receiverAt, underlying, Tryz.underlying108, Place.get, wrapchk, asAddr, loadVar, free_isAgg, hc, Result.andThen]
theorem method_ptr {name : String} {f : FuncId} (h : ((Tryz.prog.info? 108).bind (fun i => i.methods.find? (·.name == name))).map (fun m => (m.path, m.func)) = some (#[], some (f, true))) (n : Nat) (a : Addr) (w : World) :
    (Go.method (n + 1) 108 (.pointer (some a)) name).run Tryz.prog w = .ok (f, .pointer (some a)) w := by
  obtain ⟨i, m, h1, h2, h3, h4⟩ := row_parts2 h
  simp [Go.method, typeInfo, h1, h2, h3, h4, follow, receiverAt, underlying, Tryz.underlying108, Place.get, Result.andThen]
theorem nilAhead_ptr {name : String} {f : FuncId} {b : Bool} (h : ((Tryz.prog.info? 108).bind (fun i => i.methods.find? (·.name == name))).map (fun m => (m.path, m.func)) = some (#[], some (f, b))) (n : Nat) (a : Addr) (w : World) :
    (Go.nilAhead (n + 1) 108 (.pointer (some a)) name).run Tryz.prog w = .ok (some false) w := by
  obtain ⟨i, m, h1, h2, h3, h4⟩ := row_parts2 h
  cases b <;> simp [Go.nilAhead, typeInfo, h1, h2, h3, h4, followBlind, underlying, Tryz.underlying108, Result.andThen]
@[go_sem] theorem meth_Len (a : Addr) (v : Value) (w : World) (h : w.cell? a = some v) : (Go.method 361 108 (.pointer (some a)) "Len").run Tryz.prog w = .ok (64, v) w := method_val row_Len _ a v w h
@[go_sem] theorem nila_Len (a : Addr) (w : World) : (Go.nilAhead 361 108 (.pointer (some a)) "Len").run Tryz.prog w = .ok (some false) w := nilAhead_ptr row_Len _ a w
@[go_sem] theorem meth_Less (a : Addr) (v : Value) (w : World) (h : w.cell? a = some v) : (Go.method 361 108 (.pointer (some a)) "Less").run Tryz.prog w = .ok (157, v) w := method_val row_Less _ a v w h
@[go_sem] theorem nila_Less (a : Addr) (w : World) : (Go.nilAhead 361 108 (.pointer (some a)) "Less").run Tryz.prog w = .ok (some false) w := nilAhead_ptr row_Less _ a w
@[go_sem] theorem meth_Swap (a : Addr) (v : Value) (w : World) (h : w.cell? a = some v) : (Go.method 361 108 (.pointer (some a)) "Swap").run Tryz.prog w = .ok (160, v) w := method_val row_Swap _ a v w h
@[go_sem] theorem nila_Swap (a : Addr) (w : World) : (Go.nilAhead 361 108 (.pointer (some a)) "Swap").run Tryz.prog w = .ok (some false) w := nilAhead_ptr row_Swap _ a w
@[go_sem] theorem meth_Push (a : Addr) (w : World) : (Go.method 361 108 (.pointer (some a)) "Push").run Tryz.prog w = .ok (159, .pointer (some a)) w := method_ptr row_Push _ a w
@[go_sem] theorem nila_Push (a : Addr) (w : World) : (Go.nilAhead 361 108 (.pointer (some a)) "Push").run Tryz.prog w = .ok (some false) w := nilAhead_ptr row_Push _ a w
@[go_sem] theorem meth_Pop (a : Addr) (w : World) : (Go.method 361 108 (.pointer (some a)) "Pop").run Tryz.prog w = .ok (158, .pointer (some a)) w := method_ptr row_Pop _ a w
@[go_sem] theorem nila_Pop (a : Addr) (w : World) : (Go.nilAhead 361 108 (.pointer (some a)) "Pop").run Tryz.prog w = .ok (some false) w := nilAhead_ptr row_Pop _ a w
end Go.Proofs.YtjbhgimhcjcpmaaGreatDoor

/-
  THE CONTRACTS of plan's free list: Len, Less, Swap, Push, Pop.
-/
namespace Go.Proofs.YtjbhgimhcjcpmaaGreatDoor
open Go.RowKit

/-- One element of what is owned is written. -/
theorem own_set {w : World} {base : Nat} {e : TypeId} {g n cap : Nat} {xs : List Value} (h : w.ownsRow base e 1 (.slice (some ⟨g, 0, none⟩) n cap) n xs) (i : Nat) (hi : i < n) (x : Value) :
    (w.setCell ⟨g, i, none⟩ x).ownsRow base e 1 (.slice (some ⟨g, 0, none⟩) n cap) n (xs.set i x) := by
  rcases h.2 with ⟨h0, h1⟩ | ⟨g', cap', cur, hv, hb, hg, hnc, hcm, hcs, ht⟩
  · omega
  · simp only [Value.slice.injEq, Option.some.injEq, Addr.mk.injEq] at hv
    obtain ⟨⟨rfl, _⟩, _, rfl⟩ := hv
    refine ⟨by rw [List.length_set]; exact h.1, .inr ⟨g, cap, cur.setIfInBounds i x, rfl, hb, heap_setCell hg x, hnc, hcm, by simpa using hcs, ?_⟩⟩
    rw [Array.toList_setIfInBounds, ← ht, List.take_set]
/-- What is owned, but for its last elements. -/
theorem own_take {w : World} {base : Nat} {e : TypeId} {g n cap : Nat} {xs : List Value} (h : w.ownsRow base e 1 (.slice (some ⟨g, 0, none⟩) n cap) n xs) (m : Nat) (hm : m ≤ n) :
    w.ownsRow base e 1 (.slice (some ⟨g, 0, none⟩) m cap) m (xs.take m) := by
  rcases h.2 with ⟨h0, h1⟩ | ⟨g', cap', cur, hv, hb, hg, hnc, hcm, hcs, ht⟩
  · exact absurd h0 (by simp)
  · simp only [Value.slice.injEq, Option.some.injEq, Addr.mk.injEq] at hv
    obtain ⟨⟨rfl, _⟩, _, rfl⟩ := hv
    have hl := h.1
    refine ⟨by rw [List.length_take]; omega, .inr ⟨g, cap, cur, rfl, hb, hg, by omega, hcm, hcs, ?_⟩⟩
    rw [← ht, List.take_take]; congr 1; omega

/-- What a free list's methods leave as it was: all but the variable in block bf and the list's own row. -/
structure FFr (bf : Nat) (v : Value) (w w' : World) : Prop where
  os : w'.os = w.os
  tape : w'.tape = w.tape
  output : w'.output = w.output
  size : w.heap.size ≤ w'.heap.size
  block : ∀ k, k < w.heap.size → k ≠ bf → v.ownBlock ≠ some k → w'.heap[k]? = w.heap[k]?
/-- In w the variable in block bf is a free list that reads as l. -/
def FAt (base bf : Nat) (w : World) (l : List Int) (v : Value) : Prop := w.heap[bf]? = some (.cells #[v] 109 (0, 0)) ∧ w.ownsRow base 3 1 v l.length (ints l) ∧ base ≤ w.heap.size
theorem FFr.refl (bf : Nat) (v : Value) (w : World) : FFr bf v w w := ⟨rfl, rfl, rfl, Nat.le_refl _, fun _ _ _ _ => rfl⟩
theorem FFr.drewN {bf : Nat} {v : Value} {w w' : World} (h : FFr bf v w w') (n : Nat) : FFr bf v w (w'.drewN n) := ⟨h.os, h.tape, h.output, h.size, h.block⟩
theorem FFr.drew {bf : Nat} {v : Value} {w w' : World} (h : FFr bf v w w') : FFr bf v w w'.drew := ⟨h.os, h.tape, h.output, h.size, h.block⟩
/-- Where the list's row lies behind a step: where it lay, or in a new block. -/
def Lies (w : World) (v v' : Value) : Prop := ∀ k, v'.ownBlock = some k → v.ownBlock = some k ∨ w.heap.size ≤ k
theorem Lies.refl (w : World) (v : Value) : Lies w v v := fun _ h => .inl h
theorem FFr.trans {bf : Nat} {v v' : Value} {w w' w'' : World} (h : FFr bf v w w') (hl : Lies w v v') (k : FFr bf v' w' w'') : FFr bf v w w'' :=
  ⟨k.os.trans h.os, k.tape.trans h.tape, k.output.trans h.output, Nat.le_trans h.size k.size, fun i hi hb hv => by
    rw [k.block i (Nat.lt_of_lt_of_le hi h.size) hb (fun e => by rcases hl i e with h1 | h1; exact hv h1; omega), h.block i hi hb hv]⟩
theorem Lies.trans {w w' : World} {v v' v'' : Value} (h : Lies w v v') (hs : w.heap.size ≤ w'.heap.size) (k : Lies w' v' v'') : Lies w v v'' := fun i hi => by
  rcases k i hi with h1 | h1
  · exact h i h1
  · exact .inr (by omega)
theorem FFr.below {base bf : Nat} {v : Value} {w w' : World} (h : FFr bf v w w') {B : Nat} (h1 : B ≤ bf) (h2 : ∀ k, v.ownBlock = some k → B ≤ k) (hB : B ≤ w.heap.size) : Below B w w' :=
  ⟨h.os, h.tape, h.output, h.size, fun k hk => h.block k (by omega) (by omega) (fun e => by have := h2 k e; omega)⟩
theorem FFr.setOwn {bf : Nat} {v : Value} {w w' : World} (h : FFr bf v w w') {a : Addr} (ha : v.ownBlock = some a.block) (x : Value) : FFr bf v w (w'.setCell a x) :=
  ⟨h.os, h.tape, h.output, by simpa using h.size, fun k hk hb hv => by
    obtain ⟨b, o, q⟩ := a
    rw [Below.heap_setCell w' _ _ k (fun e => hv (by rw [ha, e])), h.block k hk hb hv]⟩
theorem FAt.drewN {base bf : Nat} {w : World} {l : List Int} {v : Value} (h : FAt base bf w l v) (n : Nat) : FAt base bf (w.drewN n) l v := h
theorem FAt.drew {base bf : Nat} {w : World} {l : List Int} {v : Value} (h : FAt base bf w l v) : FAt base bf w.drew l v := h

def fSwap (l : List Int) (i j : Nat) : List Int := (l.set i (l.getD j 0)).set j (l.getD i 0)
theorem fSwap_len (l : List Int) (i j : Nat) : (fSwap l i j).length = l.length := by simp [fSwap]

set_option maxHeartbeats 1000000 in
set_option maxRecDepth 100000 in
theorem fless_any (v : Value) (l : List Int) (i j : Nat) (w : World) (hv : Arr w.heap.size w 1 v l.length (ints l)) (hi : i < l.length) (hj : j < l.length) :
    Calls Tryz.prog 157 #[v, .int .i64 i, .int .i64 j] w fun e w' => e = .returned (.bool (decide (l.getD i 0 < l.getD j 0))) ∧ ∃ n, w' = w.drewN n := by
  obtain ⟨ao, cc, rfl, hcc, hm, hx, hy⟩ := hv.open
  obtain ⟨b, off, rfl, hbl, hcells⟩ := hy (by omega)
  have hci : w.cell? ⟨b, off + i, none⟩ = some (.int .i64 (l.getD i 0)) := by rw [hcells i (by omega), ints_get l i hi]; simp [List.getD, hi]
  have hcj : w.cell? ⟨b, off + j, none⟩ = some (.int .i64 (l.getD j 0)) := by rw [hcells j (by omega), ints_get l j hj]; simp [List.getD, hj]
  unfold maxLen at hm
  have h1 : (0 : Int) ≤ (i : Int) := by omega
  have h2 : (i : Int) < (l.length : Int) := by omega
  have h3 : (0 : Int) ≤ (j : Int) := by omega
  have h4 : (j : Int) < (l.length : Int) := by omega
  clear hcells hy hx hv
  generalize l.getD i 0 = x at hci ⊢
  generalize l.getD j 0 = y at hcj ⊢
  go_enter Tryz.func157, Tryz.ntmps157
  go_wp2_with fail
  go_quiet (fail)
  go_wp2_with fail
  go_ret
  exact ⟨rfl, _, rfl⟩

set_option maxHeartbeats 1000000 in
set_option maxRecDepth 100000 in
theorem len_any (v : Value) (n : Nat) (xs : List Value) (w : World) (hv : Arr w.heap.size w 1 v n xs) :
    Calls Tryz.prog 64 #[v] w fun e w' => e = .returned (.int .i64 n) ∧ w = w' := by
  obtain ⟨ao, cc, rfl, hcc, hm, hx, hy⟩ := hv.open
  clear hv hx hy hm
  go_enter Tryz.func64, Tryz.ntmps64
  go_wp2_with fail
  go_ret
  exact ⟨rfl, rfl⟩

set_option maxHeartbeats 1000000 in
set_option maxRecDepth 100000 in
theorem swap_any (base bf : Nat) (v : Value) (l : List Int) (i j : Nat) (w : World) (h : FAt base bf w l v) (hi : i < l.length) (hj : j < l.length) :
    Calls Tryz.prog 160 #[v, .int .i64 i, .int .i64 j] w fun e w' => e = .returned (.tuple #[]) ∧ FAt base bf w' (fSwap l i j) v ∧ FFr bf v w w' := by
  obtain ⟨hh, hown, hbs⟩ := h
  obtain ⟨g, cap, rfl, hbg, hgl⟩ := hown.form (by omega)
  have hc : ∀ k, k < l.length → w.cell? ⟨g, k, none⟩ = some (.int .i64 (l.getD k 0)) := by
    intro k hk
    have := hown.cellAt k (by omega)
    rw [ints_get l k hk] at this
    simpa [List.getD, hk] using this
  have hci := hc i hi
  have hcj := hc j hj
  have hfz : ∀ k, k < l.length → w.frozen? ⟨g, k, none⟩ = false := by
    intro k hk
    rcases hown.2 with ⟨h0, _⟩ | ⟨g', cap', cur, hv, _, hg, hnc, _, hcs, _⟩
    · exact absurd h0 (by simp)
    · simp only [Value.slice.injEq, Option.some.injEq, Addr.mk.injEq] at hv
      obtain ⟨⟨rfl, _⟩, _, rfl⟩ := hv
      simp [World.frozen?, hg]
  have hfi := hfz i hi
  have hfj := hfz j hj
  have h1 : (0 : Int) ≤ (i : Int) := by omega
  have h2 : (i : Int) < (l.length : Int) := by omega
  have h3 : (0 : Int) ≤ (j : Int) := by omega
  have h4 : (j : Int) < (l.length : Int) := by omega
  have hX := Lib.hid (show (((w.setCell ⟨g, i, none⟩ (.int .i64 (l.getD j 0))).setCell ⟨g, j, none⟩ (.int .i64 (l.getD i 0))).ownsRow base 3 1 (.slice (some ⟨g, 0, none⟩) l.length cap) l.length (ints (fSwap l i j))) by
    have := own_set (own_set hown i (by omega) (.int .i64 (l.getD j 0))) j (by omega) (.int .i64 (l.getD i 0))
    rw [fSwap]; simpa [ints, List.map_set] using this)
  have hb0 : ¬ bf = g := fun e => own_ne hown hh (by decide) (by rw [e]; rfl)
  have HH := Lib.hid ((heap_setCell_other' (w := w.setCell ⟨g, i, none⟩ (.int .i64 (l.getD j 0))) (j := j) hb0 (.int .i64 (l.getD i 0))).trans ((heap_setCell_other' (j := i) hb0 (.int .i64 (l.getD j 0))).trans hh))
  clear hc hfz hh
  generalize hx : l.getD i 0 = x at hci hX HH
  generalize hy : l.getD j 0 = y at hcj hX HH
  have HX := Lib.hid hx
  have HY := Lib.hid hy
  clear hx hy
  obtain ⟨z1, hz1⟩ := cell?_setCell_some (w := w) (p := ⟨g, i, none⟩) (x := .int .i64 y) (q := ⟨g, j, none⟩) (v := .int .i64 y) hcj
  obtain ⟨z2, hz2⟩ := cell?_setCell_some (w := w) (p := ⟨g, j, none⟩) (x := .int .i64 x) (q := ⟨g, i, none⟩) (v := .int .i64 x) hci
  go_enter Tryz.func160, Tryz.ntmps160
  go_wp2_with fail
  go_region
  all_goals
    go_wp2_with fail
    go_end0
    refine ⟨rfl, FAt.drew ⟨HH.out, ?_, by simpa using hbs⟩, FFr.drew ?_⟩
    · rw [fSwap_len]; exact hX.out
    · exact ((FFr.refl _ _ _).setOwn (by simp [Value.ownBlock]) _).setOwn (by simp [Value.ownBlock]) _

@[go_sem] theorem asserts_int (v : Value) (w : World) : (Instr.typeAssert (.iface 3 v) 20 3 true).run Tryz.prog w = .ok (.tuple #[v, .bool true]) w := by kernel_rfl

set_option maxHeartbeats 1000000 in
set_option maxRecDepth 100000 in
theorem push_any (base bf : Nat) (v : Value) (l : List Int) (x : Int) (w : World) (h : FAt base bf w l v) (hl : l.length ≤ 1000000) :
    Calls Tryz.prog 159 #[.pointer (some ⟨bf, 0, none⟩), .iface 3 (.int .i64 x)] w fun e w' => e = .returned (.tuple #[]) ∧ ∃ v', FAt base bf w' (l ++ [x]) v' ∧ FFr bf v w w' ∧ Lies w v v' := by
  obtain ⟨hh, hown, hbs⟩ := h
  have hc1 : w.cell? ⟨bf, 0, none⟩ = some v := by simp [World.cell?, hh]
  have HH := Lib.hid hh
  clear hh
  go_enter Tryz.func159, Tryz.ntmps159
  go_wp2_with (at_builtin; go_must (refine app_k rfl _ _ 109 rfl 3 (.int .i64 0) 1 8 Tryz.underlying109 info_int rfl (by decide) #[_] _ _ _ _ hown rfl rfl rfl (by intro u hu; simp at hu; subst hu; rfl) hbs (by omega) (by unfold maxLen; omega) ?_; intro v1 w1 hown1 hg1 hloc; obtain ⟨g1, c1, rfl, hb1, hl1⟩ := hown1.form (by omega); have hh1 := (hg1.block bf (lt_of_block' HH.out) (fun e => own_ne hown HH.out (by decide) e.symm)).trans HH.out; have hd1 : w1.cell? ⟨bf, 0, none⟩ = some v := (by simp [World.cell?, hh1]); have hf1 : w1.frozen? ⟨bf, 0, none⟩ = false := (by simp [World.frozen?, hh1]); have HH1 := Lib.hid hh1; have HG1 := Lib.hid hg1; have HO1 := Lib.hid hown1; have HLOC := Lib.hid hloc; clear hh1 hg1 hown1 hloc))
  have HQ := Lib.hid (heap_setCell (j := 0) HH1.out (.slice (some ⟨g1, 0, none⟩) (l.length + 1) c1))
  go_end0
  refine ⟨rfl, _, ⟨HQ.out, ?_, ?_⟩, ?_, ?_⟩
  · have := ownsRow_setCell_other HO1.out (a := ⟨bf, 0, none⟩) (own_ne HO1.out HH1.out (by decide)) (.slice (some ⟨g1, 0, none⟩) (l.length + 1) c1)
    rw [ints_append, List.length_append]
    exact this
  · have := HG1.out.size; simp; omega
  · refine ⟨HG1.out.os, HG1.out.tape, HG1.out.output, by have := HG1.out.size; simpa using this, fun k hk hb hv => ?_⟩
    rw [heap_setCell_other' hb]
    exact HG1.out.block k hk (fun e => hv e.symm)
  · intro k hk
    rcases HLOC.out with h1 | h1
    · rw [h1] at hk; exact .inl hk
    · rw [h1] at hk; simp at hk; exact .inr (by omega)

set_option maxHeartbeats 1000000 in
set_option maxRecDepth 100000 in
theorem pop_any (base bf : Nat) (v : Value) (l : List Int) (w : World) (h : FAt base bf w l v) (hl : 0 < l.length) :
    Calls Tryz.prog 158 #[.pointer (some ⟨bf, 0, none⟩)] w fun e w' => (∃ r, e = .returned r) ∧ ∃ v', FAt base bf w' (l.take (l.length - 1)) v' ∧ FFr bf v w w' ∧ Lies w v v' := by
  obtain ⟨hh, hown, hbs⟩ := h
  obtain ⟨g, cap, rfl, hbg, hgl⟩ := hown.form (by omega)
  obtain ⟨m, hm⟩ : ∃ m, l.length = m + 1 := ⟨l.length - 1, by omega⟩
  have hcx : ∃ y, w.cell? ⟨g, m, none⟩ = some (.int .i64 y) := by
    have := hown.cellAt m (by omega)
    rw [ints_get l m (by omega)] at this
    exact ⟨_, by simpa using this⟩
  obtain ⟨y, hcy⟩ := hcx
  have hc1 : w.cell? ⟨bf, 0, none⟩ = some (.slice (some ⟨g, 0, none⟩) l.length cap) := by simp [World.cell?, hh]
  have hf1 : w.frozen? ⟨bf, 0, none⟩ = false := by simp [World.frozen?, hh]
  have hncap : l.length ≤ cap ∧ cap ≤ maxLen := by
    rcases hown.2 with ⟨h0, _⟩ | ⟨g', cap', cur, hv, _, hg, hnc, hcm, hcs, _⟩
    · exact absurd h0 (by simp)
    · simp only [Value.slice.injEq, Option.some.injEq, Addr.mk.injEq] at hv
      obtain ⟨_, _, rfl⟩ := hv
      exact ⟨hnc, hcm⟩
  obtain ⟨hnc, hcm⟩ := hncap
  have HT := Lib.hid (own_take hown m (by omega))
  have HH := Lib.hid hh
  have HM := Lib.hid hm
  rw [hm] at hc1 hnc
  unfold maxLen at hcm
  clear hh hm
  go_enter Tryz.func158, Tryz.ntmps158
  go_wp2_with fail
  go_ret
  have HQ := heap_setCell (j := 0) HH.out (.slice (some ⟨g, 0, none⟩) m cap)
  refine ⟨⟨_, rfl⟩, _, ⟨HQ, ?_, by simpa using hbs⟩, ?_, Lies.refl _ _⟩
  · have := ownsRow_setCell_other HT.out (a := ⟨bf, 0, none⟩) (own_ne HT.out HH.out (by decide)) (.slice (some ⟨g, 0, none⟩) m cap)
    have e1 : (l.take (l.length - 1)).length = m := by rw [List.length_take, HM.out]; omega
    have e2 : ints (l.take (l.length - 1)) = (ints l).take m := by rw [HM.out]; simp [ints, List.map_take]
    rw [e1, e2]; exact this
  · refine ⟨rfl, rfl, rfl, by simp, fun k hk hb hv => heap_setCell_other' hb _⟩
end Go.Proofs.YtjbhgimhcjcpmaaGreatDoor

/-
  THE CONTRACTS of container/heap's up, down, Push, Pop at plan's free list.
-/
namespace Go.Proofs.YtjbhgimhcjcpmaaGreatDoor
open Go.RowKit

def fUp (l : List Int) (j : Nat) : List Int :=
  if h : j = 0 then l else if l.getD j 0 < l.getD ((j - 1) / 2) 0 then fUp (fSwap l ((j - 1) / 2) j) ((j - 1) / 2) else l
termination_by j
decreasing_by omega
/-- The lesser child. -/
def fChild (l : List Int) (i n : Nat) : Nat := if 2 * i + 2 < n ∧ l.getD (2 * i + 2) 0 < l.getD (2 * i + 1) 0 then 2 * i + 2 else 2 * i + 1
theorem fChild_gt (l : List Int) (i n : Nat) : i < fChild l i n := by unfold fChild; split <;> omega
def fDown (l : List Int) (i n : Nat) : List Int :=
  if h : 2 * i + 1 < n then (if l.getD (fChild l i n) 0 < l.getD i 0 then fDown (fSwap l i (fChild l i n)) (fChild l i n) n else l) else l
termination_by n - i
decreasing_by have := fChild_gt l i n; omega
def fPush (l : List Int) (x : Int) : List Int := fUp (l ++ [x]) l.length
def fPop (l : List Int) : List Int := (fDown (fSwap l 0 (l.length - 1)) 0 (l.length - 1)).take (l.length - 1)

theorem FAt.cell {base bf : Nat} {w : World} {l : List Int} {v : Value} (h : FAt base bf w l v) : w.cell? ⟨bf, 0, none⟩ = some v := by simp [World.cell?, h.1]
theorem FAt.arr {base bf : Nat} {w : World} {l : List Int} {v : Value} (h : FAt base bf w l v) : Arr w.heap.size w 1 v l.length (ints l) := Arr.of_owns h.2.1

set_option maxHeartbeats 1000000 in
set_option maxRecDepth 100000 in
theorem up_any (base bf : Nat) (v : Value) (l : List Int) (j : Nat) (w : World) (h : FAt base bf w l v) (hj : j < l.length) (hl : l.length ≤ 1000000) :
    Calls Tryz.prog 96 #[.iface 108 (.pointer (some ⟨bf, 0, none⟩)), .int .i64 j] w fun e w' => e = .returned (.tuple #[]) ∧ FAt base bf w' (fUp l j) v ∧ FFr bf v w w' := by
  have HF := Lib.hid h
  clear h
  go_enter Tryz.func96, Tryz.ntmps96
  go_wp2_with fail
  go_loopg [1] j (fun g x wr => ∃ (l' : List Int) (i : Nat), g = i ∧ x = .int .i64 i ∧ i < l'.length ∧ l'.length ≤ 1000000 ∧ Hid (fUp l' i = fUp l j) ∧ Hid (FAt base bf wr l' v) ∧ Hid (FFr bf v w wr))
  case atStart => exact ⟨l, j, rfl, rfl, hj, hl, rfl, HF.out, FFr.refl _ _ _⟩
  case round =>
    obtain ⟨l', i, hg, rfl, hi, hl', HU, HA, HR⟩ := hrel
    clear HF
    have hc := HA.out.cell
    match i, hi with
    | 0, hi =>
      have h0 : (((0 : Nat) : Int) - 1).tdiv 2 = 0 := by decide
      simp only [Int.natCast_zero] at h0 ⊢
      have hu := HU.out
      rw [fUp, dif_pos rfl] at hu
      have HUU := Lib.hid hu
      clear hu HU
      go_wp2_with fail
      go_end0
      exact ⟨rfl, by rw [← HUU.out]; exact HA.out, HR.out⟩
    | m + 1, hi =>
      have hne : (((m : Int) / 2) == (m : Int) + 1) = false := by simp; omega
      have hu := HU.out
      rw [fUp, dif_neg (by omega), Nat.add_sub_cancel] at hu
      obtain ⟨B, hB⟩ : ∃ B, decide (l'.getD (m + 1) 0 < l'.getD (m / 2) 0) = B := ⟨_, rfl⟩
      have HB := Lib.hid hB
      clear hB
      have hm0 : (0 : Int) ≤ m := by omega
      simp only [Int.natCast_add, Int.natCast_one]
      cases B
      · have HUU := Lib.hid (show l' = fUp l j by rw [← hu, if_neg (by have := HB.out; simpa using this)])
        clear hu HU
        go_wp2_with (go_at_call 157; go_must (refine (fless_any v l' (m + 1) (m / 2) _ HA.out.arr hi (by omega)).mono ?_; rw [HB.out]; rintro e w1 ⟨rfl, n1, rfl⟩))
        go_end0
        exact ⟨rfl, by rw [← HUU.out]; exact HA.out.drewN _, HR.out.drewN _⟩
      · have HUU := Lib.hid (show fUp (fSwap l' (m / 2) (m + 1)) (m / 2) = fUp l j by rw [← hu, if_pos (by have := HB.out; simpa using this)])
        clear hu HU
        go_wp2_with (first | (go_at_call 157; go_must (refine (fless_any v l' (m + 1) (m / 2) _ HA.out.arr hi (by omega)).mono ?_; rw [HB.out]; rintro e w1 ⟨rfl, n1, rfl⟩)) | (go_at_call 160; go_must (refine (swap_any base bf v l' (m / 2) (m + 1) _ (HA.out.drewN _) (by omega) hi).mono ?_; rintro e w2 ⟨rfl, hf2, hr2⟩; have HF2 := Lib.hid hf2; have HR2 := Lib.hid hr2; clear hf2 hr2)))
        go_roundg (m / 2)
        case measure => omega
        case rel =>
          exact ⟨_, m / 2, rfl, rfl, by rw [fSwap_len]; omega, by rw [fSwap_len]; exact hl', HUU.out, HF2.out, (HR.out.drewN n1).trans (Lies.refl _ _) HR2.out⟩

set_option maxHeartbeats 4000000 in
set_option maxRecDepth 100000 in
theorem down_any (base bf : Nat) (v : Value) (l : List Int) (i0 n : Nat) (w : World) (h : FAt base bf w l v) (hn : n ≤ l.length) (hl : l.length ≤ 1000000) (hi0 : i0 ≤ 1000000) :
    Calls Tryz.prog 97 #[.iface 108 (.pointer (some ⟨bf, 0, none⟩)), .int .i64 i0, .int .i64 n] w fun e w' => (∃ b, e = .returned b) ∧ FAt base bf w' (fDown l i0 n) v ∧ FFr bf v w w' := by
  have HF := Lib.hid h
  clear h
  go_enter Tryz.func97, Tryz.ntmps97
  go_wp2_with fail
  go_loopg [7] (n - i0) (fun g x wr => ∃ (l' : List Int) (i : Nat), g = n - i ∧ x = .int .i64 i ∧ n ≤ l'.length ∧ (l'.length ≤ 1000000 ∧ i ≤ 1000000) ∧ Hid (fDown l' i n = fDown l i0 n) ∧ Hid (FAt base bf wr l' v) ∧ Hid (FFr bf v w wr))
  case atStart => exact ⟨l, i0, rfl, rfl, hn, ⟨hl, hi0⟩, rfl, HF.out, FFr.refl _ _ _⟩
  case round =>
    obtain ⟨l', i, hg, rfl, hn, ⟨hl', hi⟩, HU, HA, HR⟩ := hrel
    clear HF
    have hc := HA.out.cell
    have hu := HU.out
    rw [fDown] at hu
    by_cases h1 : 2 * i + 1 < n
    · rw [dif_pos h1] at hu
      by_cases h2 : 2 * i + 2 < n
      · obtain ⟨B1, hB1⟩ : ∃ B1, decide (l'.getD (2 * i + 2) 0 < l'.getD (2 * i + 1) 0) = B1 := ⟨_, rfl⟩
        have HB1 := Lib.hid hB1
        clear hB1
        cases B1
        · have HC := Lib.hid (show fChild l' i n = 2 * i + 1 by rw [fChild, if_neg (fun hh => of_decide_eq_false HB1.out hh.2)])
          rw [HC.out] at hu
          obtain ⟨B2, hB2⟩ : ∃ B2, decide (l'.getD (2 * i + 1) 0 < l'.getD i 0) = B2 := ⟨_, rfl⟩
          have HB2 := Lib.hid hB2
          clear hB2
          cases B2
          · have HUU := Lib.hid (show l' = fDown l i0 n by rw [← hu, if_neg (by have := HB2.out; simpa using this)])
            clear hu HU
            as_aux_lemma =>
              go_wp2_with fail
              refine (fless_any v l' (2 * i + 2) (2 * i + 1) _ HA.out.arr (by omega) (by omega)).mono ?_
              rw [HB1.out]
              rintro e w1 ⟨rfl, n1, rfl⟩
              go_wp2_with fail
              refine (fless_any v l' (2 * i + 1) i _ (HA.out.drewN n1).arr (by omega) (by omega)).mono ?_
              rw [HB2.out]
              rintro e w2 ⟨rfl, n2, rfl⟩
              go_wp2_with fail
              go_ret
              exact ⟨⟨_, rfl⟩, by rw [← HUU.out]; exact HA.out.drewN _, HR.out.drewN _⟩
          · have HUU := Lib.hid (show fDown (fSwap l' i (2 * i + 1)) (2 * i + 1) n = fDown l i0 n by rw [← hu, if_pos (by have := HB2.out; simpa using this)])
            clear hu HU
            as_aux_lemma =>
              go_wp2_with fail
              refine (fless_any v l' (2 * i + 2) (2 * i + 1) _ HA.out.arr (by omega) (by omega)).mono ?_
              rw [HB1.out]
              rintro e w1 ⟨rfl, n1, rfl⟩
              go_wp2_with fail
              refine (fless_any v l' (2 * i + 1) i _ (HA.out.drewN n1).arr (by omega) (by omega)).mono ?_
              rw [HB2.out]
              rintro e w2 ⟨rfl, n2, rfl⟩
              go_wp2_with fail
              refine (swap_any base bf v l' i (2 * i + 1) _ (HA.out.drewN (n1 + n2)) (by omega) (by omega)).mono ?_
              rintro e w3 ⟨rfl, hf3, hr3⟩
              have HF3 := Lib.hid hf3
              have HR3 := Lib.hid hr3
              clear hf3 hr3
              go_wp2_with fail
              go_roundg (n - (2 * i + 1))
              case measure => omega
              case rel =>
                exact ⟨_, 2 * i + 1, rfl, by go_num, by rw [fSwap_len]; exact hn, ⟨by rw [fSwap_len]; exact hl', by omega⟩, HUU.out, HF3.out, (HR.out.drewN (n1 + n2)).trans (Lies.refl _ _) HR3.out⟩
        · have HC := Lib.hid (show fChild l' i n = 2 * i + 2 by rw [fChild, if_pos ⟨h2, by have := HB1.out; simpa using this⟩])
          rw [HC.out] at hu
          obtain ⟨B2, hB2⟩ : ∃ B2, decide (l'.getD (2 * i + 2) 0 < l'.getD i 0) = B2 := ⟨_, rfl⟩
          have HB2 := Lib.hid hB2
          clear hB2
          cases B2
          · have HUU := Lib.hid (show l' = fDown l i0 n by rw [← hu, if_neg (by have := HB2.out; simpa using this)])
            clear hu HU
            as_aux_lemma =>
              go_wp2_with fail
              refine (fless_any v l' (2 * i + 2) (2 * i + 1) _ HA.out.arr (by omega) (by omega)).mono ?_
              rw [HB1.out]
              rintro e w1 ⟨rfl, n1, rfl⟩
              go_wp2_with fail
              refine (fless_any v l' (2 * i + 2) i _ (HA.out.drewN n1).arr (by omega) (by omega)).mono ?_
              rw [HB2.out]
              rintro e w2 ⟨rfl, n2, rfl⟩
              go_wp2_with fail
              go_ret
              exact ⟨⟨_, rfl⟩, by rw [← HUU.out]; exact HA.out.drewN _, HR.out.drewN _⟩
          · have HUU := Lib.hid (show fDown (fSwap l' i (2 * i + 2)) (2 * i + 2) n = fDown l i0 n by rw [← hu, if_pos (by have := HB2.out; simpa using this)])
            clear hu HU
            as_aux_lemma =>
              go_wp2_with fail
              refine (fless_any v l' (2 * i + 2) (2 * i + 1) _ HA.out.arr (by omega) (by omega)).mono ?_
              rw [HB1.out]
              rintro e w1 ⟨rfl, n1, rfl⟩
              go_wp2_with fail
              refine (fless_any v l' (2 * i + 2) i _ (HA.out.drewN n1).arr (by omega) (by omega)).mono ?_
              rw [HB2.out]
              rintro e w2 ⟨rfl, n2, rfl⟩
              go_wp2_with fail
              refine (swap_any base bf v l' i (2 * i + 2) _ (HA.out.drewN (n1 + n2)) (by omega) (by omega)).mono ?_
              rintro e w3 ⟨rfl, hf3, hr3⟩
              have HF3 := Lib.hid hf3
              have HR3 := Lib.hid hr3
              clear hf3 hr3
              go_wp2_with fail
              go_roundg (n - (2 * i + 2))
              case measure => omega
              case rel =>
                exact ⟨_, 2 * i + 2, rfl, by go_num, by rw [fSwap_len]; exact hn, ⟨by rw [fSwap_len]; exact hl', by omega⟩, HUU.out, HF3.out, (HR.out.drewN (n1 + n2)).trans (Lies.refl _ _) HR3.out⟩
      · have HC := Lib.hid (show fChild l' i n = 2 * i + 1 by rw [fChild, if_neg (by omega)])
        rw [HC.out] at hu
        obtain ⟨B2, hB2⟩ : ∃ B2, decide (l'.getD (2 * i + 1) 0 < l'.getD i 0) = B2 := ⟨_, rfl⟩
        have HB2 := Lib.hid hB2
        clear hB2
        cases B2
        · have HUU := Lib.hid (show l' = fDown l i0 n by rw [← hu, if_neg (by have := HB2.out; simpa using this)])
          clear hu HU
          as_aux_lemma =>
            go_wp2_with fail
            refine (fless_any v l' (2 * i + 1) i _ (HA.out).arr (by omega) (by omega)).mono ?_
            rw [HB2.out]
            rintro e w2 ⟨rfl, n2, rfl⟩
            go_wp2_with fail
            go_ret
            exact ⟨⟨_, rfl⟩, by rw [← HUU.out]; exact (HA.out).drewN _, HR.out.drewN _⟩
        · have HUU := Lib.hid (show fDown (fSwap l' i (2 * i + 1)) (2 * i + 1) n = fDown l i0 n by rw [← hu, if_pos (by have := HB2.out; simpa using this)])
          clear hu HU
          as_aux_lemma =>
            go_wp2_with fail
            refine (fless_any v l' (2 * i + 1) i _ (HA.out).arr (by omega) (by omega)).mono ?_
            rw [HB2.out]
            rintro e w2 ⟨rfl, n2, rfl⟩
            go_wp2_with fail
            refine (swap_any base bf v l' i (2 * i + 1) _ ((HA.out).drewN _) (by omega) (by omega)).mono ?_
            rintro e w3 ⟨rfl, hf3, hr3⟩
            have HF3 := Lib.hid hf3
            have HR3 := Lib.hid hr3
            clear hf3 hr3
            go_wp2_with fail
            go_roundg (n - (2 * i + 1))
            case measure => omega
            case rel =>
              exact ⟨_, 2 * i + 1, rfl, by go_num, by rw [fSwap_len]; exact hn, ⟨by rw [fSwap_len]; exact hl', by omega⟩, HUU.out, HF3.out, (HR.out.drewN n2).trans (Lies.refl _ _) HR3.out⟩
    · rw [dif_neg h1] at hu
      have HUU := Lib.hid hu
      clear hu HU
      as_aux_lemma =>
        go_wp2_with fail
        go_ret
        exact ⟨⟨_, rfl⟩, by rw [← HUU.out]; exact HA.out, HR.out⟩
end Go.Proofs.YtjbhgimhcjcpmaaGreatDoor

/-
  THE CONTRACTS of container/heap's Push and Pop at plan's free list.
-/
namespace Go.Proofs.YtjbhgimhcjcpmaaGreatDoor
open Go.RowKit

theorem fUp_len (l : List Int) (j : Nat) : (fUp l j).length = l.length := by
  induction j using Nat.strongRecOn generalizing l with
  | ind j ih =>
    rw [fUp]; split
    · rfl
    · split
      · rw [ih _ (by omega), fSwap_len]
      · rfl
theorem fDown_len (l : List Int) (i n : Nat) : (fDown l i n).length = l.length := by
  induction hk : n - i using Nat.strongRecOn generalizing l i with
  | ind k ih =>
    rw [fDown]; split
    · split
      · have := fChild_gt l i n
        rw [ih (n - fChild l i n) (by omega) _ _ rfl, fSwap_len]
      · rfl
    · rfl
theorem fPush_len (l : List Int) (x : Int) : (fPush l x).length = l.length + 1 := by simp [fPush, fUp_len]
theorem fPop_len (l : List Int) : (fPop l).length = l.length - 1 := by simp [fPop, fDown_len, fSwap_len]

set_option maxHeartbeats 1000000 in
set_option maxRecDepth 100000 in
theorem heapPush_any (base bf : Nat) (v : Value) (l : List Int) (x : Int) (w : World) (h : FAt base bf w l v) (hl : l.length < 1000000) :
    Calls Tryz.prog 63 #[.iface 108 (.pointer (some ⟨bf, 0, none⟩)), .iface 3 (.int .i64 x)] w fun e w' => e = .returned (.tuple #[]) ∧ ∃ v', FAt base bf w' (fPush l x) v' ∧ FFr bf v w w' ∧ Lies w v v' := by
  have HA := Lib.hid h
  clear h
  go_enter Tryz.func63, Tryz.ntmps63
  go_wp2_with fail
  refine (push_any base bf v l x _ HA.out (by omega)).mono ?_
  rintro e w1 ⟨rfl, v1, hf1, hr1, hl1⟩
  have hc1 := hf1.cell
  have HF1 := Lib.hid hf1
  have HR1 := Lib.hid hr1
  have HL1 := Lib.hid hl1
  clear hf1 hr1 hl1
  have hlen : (l ++ [x]).length = l.length + 1 := by simp
  go_wp2_with (first | (go_at_call 64; go_must (refine (len_any v1 (l ++ [x]).length _ _ HF1.out.arr).mono ?_; rw [hlen]; rintro e w2 ⟨rfl, rfl⟩)) | (go_at_call 96; go_must (refine (up_any base bf v1 (l ++ [x]) l.length _ HF1.out (by rw [hlen]; omega) (by rw [hlen]; omega)).mono ?_; rintro e w3 ⟨rfl, hf3, hr3⟩; have HF3 := Lib.hid hf3; have HR3 := Lib.hid hr3; clear hf3 hr3)))
  go_end0
  exact ⟨rfl, v1, HF3.out, HR1.out.trans HL1.out HR3.out, HL1.out⟩

set_option maxHeartbeats 1000000 in
set_option maxRecDepth 100000 in
theorem heapPop_any (base bf : Nat) (v : Value) (l : List Int) (w : World) (h : FAt base bf w l v) (h0 : 0 < l.length) (hl : l.length ≤ 1000000) :
    Calls Tryz.prog 65 #[.iface 108 (.pointer (some ⟨bf, 0, none⟩))] w fun e w' => (∃ r, e = .returned r) ∧ ∃ v', FAt base bf w' (fPop l) v' ∧ FFr bf v w w' ∧ Lies w v v' := by
  have hc := h.cell
  have HA := Lib.hid h
  clear h
  obtain ⟨m, hm⟩ : ∃ m, l.length = m + 1 := ⟨l.length - 1, by omega⟩
  have HM := Lib.hid hm
  have hml : m < 1000000 := by omega
  go_enter Tryz.func65, Tryz.ntmps65
  go_wp2_with fail
  refine (len_any v l.length _ _ HA.out.arr).mono ?_
  rw [HM.out]
  rintro e w1 ⟨rfl, rfl⟩
  clear hm h0 hl
  go_wp2_with fail
  refine (swap_any base bf v l 0 m _ HA.out (by have := HM.out; omega) (by have := HM.out; omega)).mono ?_
  rintro e w1 ⟨rfl, hf1, hr1⟩
  have hc1 := hf1.cell
  have HF1 := Lib.hid hf1
  have HR1 := Lib.hid hr1
  clear hf1 hr1
  go_wp2_with fail
  refine (down_any base bf v (fSwap l 0 m) 0 m _ HF1.out (by rw [fSwap_len]; have := HM.out; omega) (by rw [fSwap_len]; have := HM.out; omega) (by omega)).mono ?_
  rintro e w2 ⟨⟨b, rfl⟩, hf2, hr2⟩
  have hc2 := hf2.cell
  have HF2 := Lib.hid hf2
  have HR2 := Lib.hid hr2
  clear hf2 hr2
  go_wp2_with fail
  refine (pop_any base bf v (fDown (fSwap l 0 m) 0 m) _ HF2.out (by rw [fDown_len, fSwap_len]; have := HM.out; omega)).mono ?_
  rintro e w3 ⟨⟨r, rfl⟩, v3, hf3, hr3, hl3⟩
  have HF3 := Lib.hid hf3
  have HR3 := Lib.hid hr3
  have HL3 := Lib.hid hl3
  clear hf3 hr3 hl3
  go_wp2_with fail
  go_ret
  refine ⟨⟨_, rfl⟩, v3, ?_, (HR1.out.trans (Lies.refl _ _) HR2.out).trans ((Lies.refl _ _)) HR3.out, ?_⟩
  · have e1 : fPop l = (fDown (fSwap l 0 m) 0 m).take ((fDown (fSwap l 0 m) 0 m).length - 1) := by
      rw [fPop, fDown_len, fSwap_len, HM.out]; rfl
    rw [e1]; exact HF3.out
  · exact ((Lies.refl _ _).trans HR1.out.size (Lies.refl _ _)).trans (Nat.le_trans HR1.out.size HR2.out.size) HL3.out
end Go.Proofs.YtjbhgimhcjcpmaaGreatDoor
